/- sieve.Make, and the law's own 'awake': what they return. -/
import Derived.Test.YtejdknmlggdndaaSieve4
import Derived.Test.YtejdknmlggdndaaHash
namespace Go.Proofs.Ytejdknmlggdndaa
open Go.RowKit Pl
set_option linter.unusedVariables false

set_option maxHeartbeats 800000 in
theorem make_yes (n sh : Nat) (H : Option Addr) (hcap : Nat) (hs : List Nat) (w : World)
    (hhs : ∀ x ∈ hs, x < 4294967296) (hlen : hs.length ≤ maxLen) (hH : Rd w H (u32s hs)) (hr : rightB n sh = true) :
    Calls Try.prog 30 #[.int .i64 n, .int .i64 sh, .slice H hs.length hcap] w (RetFilt w n sh (putAll sh (List.replicate n 0) hs)) := by
  have hbd := rightB_bd hr
  obtain ⟨i0, hi0, hz0, hz1, hz2⟩ := info_parts info_u64
  have HH := Lib.hid hH
  have HHS := Lib.hid hhs
  clear hH hhs
  go_enter Try.func30, Try.ntmps30
  go_wp2_with (at_make; refine wpList_make_full _ rfl _ _ 25 rfl w.heap.size 66 i0 (.int .u64 0) 1 Try.underlying25 hi0 hz0 hz1 .i64 .i64 n n n rfl rfl rfl rfl ?c1 ?c2 ?c3 ?_)
  case c1 => rw [hz2]; omega
  case c2 => unfold maxLen; omega
  case c3 => simp; omega
  intro w2 hown2 hg2
  have j6 : Blk ((w.alloc (.cells #[.slice none 0 0, .int .i64 0] 27)).alloc (.cells #[.slice none 0 0, .int .i64 sh] 27)) w.heap.size 27 #[.slice none 0 0, .int .i64 0] := (Blk.new _ _ _).alloc _
  have j8 : Blk ((w.alloc (.cells #[.slice none 0 0, .int .i64 0] 27)).alloc (.cells #[.slice none 0 0, .int .i64 sh] 27)) (w.heap.size + 1) 27 #[.slice none 0 0, .int .i64 sh] := by simpa using Blk.new (w.alloc (.cells #[.slice none 0 0, .int .i64 0] 27)) 27 #[.slice none 0 0, .int .i64 sh]
  have j6 := j6.grown hg2 (by simp)
  have j8 := j8.grown hg2 (by simp)
  have b2 : Below w.heap.size w w2 := (((Below.refl _ _).alloc (Nat.le_refl _) _).alloc (by simp) _).grown hg2 (by simp; omega) (fun k h => by cases h)
  have z2 := j8.lt
  have c8 : w2.cell? ⟨w.heap.size + 1, 0, none⟩ = some (.slice none 0 0) := j8.cell 0 rfl
  have c82 : w2.cell? ⟨w.heap.size + 1, 1, none⟩ = some (.int .i64 sh) := j8.cell 1 rfl
  have f8 := j8.frozen 0
  have J6 := Lib.hid j6
  have J8 := Lib.hid j8
  clear j6 j8 hg2
  go_wp2_with fail
  have j6 : Blk (w2.setCell ⟨w.heap.size + 1, 0, none⟩ (.slice (some ⟨w.heap.size + 1 + 1, 0, none⟩) n n)) w.heap.size 27 #[.slice none 0 0, .int .i64 0] := J6.out.far (by simp) _
  have j8 : Blk (w2.setCell ⟨w.heap.size + 1, 0, none⟩ (.slice (some ⟨w.heap.size + 1 + 1, 0, none⟩) n n)) (w.heap.size + 1) 27 #[.slice (some ⟨w.heap.size + 1 + 1, 0, none⟩) n n, .int .i64 sh] := J8.out.set 0 _
  have jo : (w2.setCell ⟨w.heap.size + 1, 0, none⟩ (.slice (some ⟨w.heap.size + 1 + 1, 0, none⟩) n n)).ownsRow w.heap.size 66 1 (.slice (some ⟨w.heap.size + 1 + 1, 0, none⟩) n n) n (u64s (List.replicate n 0)) := by
    refine own_far ?_ (by simp) _
    have e : (madeCells #[Value.int IntKind.u64 0] n).toList = u64s (List.replicate n 0) := by
      rw [toList_madeCells_one]; simp [u64s]
    rw [← e]; exact hown2
  have jb : Below w.heap.size w (w2.setCell ⟨w.heap.size + 1, 0, none⟩ (.slice (some ⟨w.heap.size + 1 + 1, 0, none⟩) n n)) := b2.setCell (by simp) _
  generalize w2.setCell ⟨w.heap.size + 1, 0, none⟩ (.slice (some ⟨w.heap.size + 1 + 1, 0, none⟩) n n) = w3 at *
  clear J6 J8 hown2 b2
  refine (right_yes _ _ _ _ _ hr).mono ?_
  rintro e w4 ⟨rfl, hb4⟩
  have jb := jb.trans (hb4.mono jb.size)
  have z4 := jb.size
  have jo := own_below jo hb4
  have j6 := j6.below hb4 j6.lt
  have j8 := j8.below hb4 j8.lt
  have c80 : w4.cell? ⟨w.heap.size + 1, 0, none⟩ = some (.slice (some ⟨w.heap.size + 1 + 1, 0, none⟩) n n) := j8.cell 0 rfl
  have c81 : w4.cell? ⟨w.heap.size + 1, 1, none⟩ = some (.int .i64 sh) := j8.cell 1 rfl
  have HA := Lib.hid (add_yes (some ⟨w.heap.size + 1 + 1, 0, none⟩) n sh (List.replicate n 0) H hcap hs w4 (fun x hx => by rw [List.eq_of_mem_replicate hx]; omega) HHS.out hlen (Rd.of_own jo)
    (HH.out.of_below jb (fun _ _ _ hc => cell_lt hc)) (by rw [List.length_replicate]; exact hr))
  rw [List.length_replicate] at HA
  have J6 := Lib.hid j6
  have J8 := Lib.hid j8
  clear j6 j8 jo
  go_wp2_with fail
  refine HA.out.mono ?_
  rintro e w5 ⟨g, c, rfl, hown, hb5⟩
  have z5 := hb5.size
  have j6 := J6.out.below hb5 J6.out.lt
  have r0 : w5.cell? ⟨w.heap.size, 0, none⟩ = some (.slice none 0 0) := j6.cell 0 rfl
  have r1 : w5.cell? ⟨w.heap.size, 1, none⟩ = some (.int .i64 0) := j6.cell 1 rfl
  have g0 := j6.frozen 0
  have g1 := j6.frozen 1
  have n1 := own_ne hown j6 (by decide)
  have jb := jb.trans (hb5.mono jb.size)
  go_wp2
  exact bodyPost_ret (v := .tuple #[.agg #[.slice (some ⟨g, 0, none⟩) n c, .int .i64 sh], .int .i64 0]) (by simp [results, Try.results30, go_sem, r0, r1]) rfl ⟨g, c, rfl, own_far (p := ⟨w.heap.size, 1, none⟩) (own_far (p := ⟨w.heap.size, 0, none⟩) (own_mono hown (by omega)) n1.symm _) n1.symm _, (jb.setCell (Nat.le_refl _) _).setCell (Nat.le_refl _) _⟩

set_option maxHeartbeats 800000 in
theorem make_no (n sh : Int) (hv : Value) (w : World) (hr : rightB n sh = false) :
    Calls Try.prog 30 #[.int .i64 n, .int .i64 sh, hv] w fun e w' => e = .returned (.tuple #[.agg #[.slice none 0 0, .int .i64 0], .int .i64 20]) ∧ Below w.heap.size w w' := by
  obtain ⟨i0, hi0, hz0, hz1, hz2⟩ := info_parts info_u64
  by_cases hin : 1 ≤ n ∧ n ≤ 64
  · obtain ⟨h1, h64⟩ := hin
    obtain ⟨n, rfl⟩ := Int.eq_ofNat_of_zero_le (by omega : 0 ≤ n)
    go_enter Try.func30, Try.ntmps30
    go_wp2_with (at_make; refine wpList_make_full _ rfl _ _ 25 rfl w.heap.size 66 i0 (.int .u64 0) 1 Try.underlying25 hi0 hz0 hz1 .i64 .i64 n n n rfl rfl rfl rfl ?c1 ?c2 ?c3 ?_)
    case c1 => rw [hz2]; omega
    case c2 => unfold maxLen; omega
    case c3 => simp; omega
    intro w2 hown2 hg2
    have j6 : Blk ((w.alloc (.cells #[.slice none 0 0, .int .i64 0] 27)).alloc (.cells #[.slice none 0 0, .int .i64 sh] 27)) w.heap.size 27 #[.slice none 0 0, .int .i64 0] := (Blk.new _ _ _).alloc _
    have j8 : Blk ((w.alloc (.cells #[.slice none 0 0, .int .i64 0] 27)).alloc (.cells #[.slice none 0 0, .int .i64 sh] 27)) (w.heap.size + 1) 27 #[.slice none 0 0, .int .i64 sh] := by simpa using Blk.new (w.alloc (.cells #[.slice none 0 0, .int .i64 0] 27)) 27 #[.slice none 0 0, .int .i64 sh]
    have j6 := j6.grown hg2 (by simp)
    have j8 := j8.grown hg2 (by simp)
    have b2 : Below w.heap.size w w2 := (((Below.refl _ _).alloc (Nat.le_refl _) _).alloc (by simp) _).grown hg2 (by simp; omega) (fun k h => by cases h)
    have z2 := j8.lt
    have c8 : w2.cell? ⟨w.heap.size + 1, 0, none⟩ = some (.slice none 0 0) := j8.cell 0 rfl
    have c81 : w2.cell? ⟨w.heap.size + 1, 1, none⟩ = some (.int .i64 sh) := j8.cell 1 rfl
    have f8 := j8.frozen 0
    have J6 := Lib.hid j6
    clear j6 j8 hg2 hown2
    go_wp2_with fail
    refine (right_no _ _ _ _ _ (by unfold maxLen; omega) hr).mono ?_
    rintro e w4 ⟨rfl, hb4⟩
    have j6 := (J6.out.far (p := ⟨w.heap.size + 1, 0, none⟩) (by simp) _).below hb4 (by simp; omega)
    have r0 : w4.cell? ⟨w.heap.size, 0, none⟩ = some (.slice none 0 0) := j6.cell 0 rfl
    have r1 : w4.cell? ⟨w.heap.size, 1, none⟩ = some (.int .i64 0) := j6.cell 1 rfl
    have g0 := j6.frozen 0
    have g1 := j6.frozen 1
    have jb : Below w.heap.size w w4 := (b2.setCell (p := ⟨w.heap.size + 1, 0, none⟩) (by simp) _).trans (hb4.mono (by simp; omega))
    clear j6 J6 b2
    go_wp2
    exact bodyPost_ret (v := .tuple #[.agg #[.slice none 0 0, .int .i64 0], .int .i64 20]) (by simp [results, Try.results30, go_sem, r0, r1]) rfl ⟨rfl, (jb.setCell (Nat.le_refl _) _).setCell (Nat.le_refl _) _⟩
  · have hr0 : rightB ((0 : Nat) : Int) sh = false := rfl
    have hd : n < 1 ∨ (1 ≤ n ∧ 64 < n) := by omega
    clear hin
    rcases hd with hd | ⟨hd, hd'⟩
    all_goals
      go_enter Try.func30, Try.ntmps30
      go_wp2_with fail
      refine (right_no none 0 0 _ _ (by unfold maxLen; omega) hr0).mono ?_
      rintro e w4 ⟨rfl, hb4⟩
      have j6 : Blk w4 w.heap.size 27 #[.slice none 0 0, .int .i64 0] := ((Blk.new _ _ _).alloc _).below hb4 (by simp; omega)
      have r0 : w4.cell? ⟨w.heap.size, 0, none⟩ = some (.slice none 0 0) := j6.cell 0 rfl
      have r1 : w4.cell? ⟨w.heap.size, 1, none⟩ = some (.int .i64 0) := j6.cell 1 rfl
      have g0 := j6.frozen 0
      have g1 := j6.frozen 1
      have jb : Below w.heap.size w w4 := (((Below.refl _ _).alloc (Nat.le_refl _) _).alloc (by simp) _).trans (hb4.mono (by simp; omega))
      clear j6
      go_wp2
      exact bodyPost_ret (v := .tuple #[.agg #[.slice none 0 0, .int .i64 0], .int .i64 20]) (by simp [results, Try.results30, go_sem, r0, r1]) rfl ⟨rfl, (jb.setCell (Nat.le_refl _) _).setCell (Nat.le_refl _) _⟩

end Go.Proofs.Ytejdknmlggdndaa
