/- sieve.Add: what it returns. -/
import Derived.Test.YtejdknmlggdndaaSieve2
namespace Go.Proofs.Ytejdknmlggdndaa
open Go.RowKit Pl
set_option linter.unusedVariables false

theorem info_u64 : (Try.prog.info? 66).map (fun i => (i.zero, i.size, i.bytes)) = some (some (.int .u64 0), 1, 8) := by kernel_rfl

set_option maxHeartbeats 400000 in
theorem add_no (A : Option Addr) (n cap : Nat) (sh : Int) (hv : Value) (w : World) (hn : n ≤ maxLen) (hr : rightB n sh = false) :
    Calls Try.prog 52 #[.agg #[.slice A n cap, .int .i64 sh], hv] w fun e w' => e = .returned (.tuple #[.agg #[.slice none 0 0, .int .i64 0], .int .i64 20]) ∧ Below w.heap.size w w' := by
  go_enter Try.func52, Try.ntmps52
  go_wp2_with fail
  refine (right_no _ _ _ _ _ hn hr).mono ?_
  rintro e w1 ⟨rfl, hb1⟩
  have hz1 := hb1.size
  simp at hz1
  have k1 : Blk w1 (w.heap.size + 1) 27 #[.slice none 0 0, .int .i64 0] := (by simpa using Blk.new (w.alloc (.cells #[.slice A n cap, .int .i64 sh] 27)) 27 #[.slice none 0 0, .int .i64 0] : Blk _ (w.heap.size + 1) _ _).below hb1 (by simp)
  have r0 : w1.cell? ⟨w.heap.size + 1, 0, none⟩ = some (.slice none 0 0) := k1.cell 0 rfl
  have r1 : w1.cell? ⟨w.heap.size + 1, 1, none⟩ = some (.int .i64 0) := k1.cell 1 rfl
  have g0 := k1.frozen 0
  have g1 := k1.frozen 1
  clear k1
  go_wp2
  exact bodyPost_ret (v := .tuple #[.agg #[.slice none 0 0, .int .i64 0], .int .i64 20]) (by simp [results, Try.results52, go_sem, r0, r1]) rfl ⟨rfl, (((((Below.refl _ _).alloc (Nat.le_refl _) _).alloc (by simp) _).trans (hb1.mono (by simp; omega))).setCell (by simp) _).setCell (by simp) _⟩

/-- a filter of the call's own is returned -/
def RetFilt (W : World) (n : Nat) (sh : Int) (xs : List Nat) (e : Ending) (w' : World) : Prop :=
  ∃ g c, e = .returned (.tuple #[.agg #[.slice (some ⟨g, 0, none⟩) n c, .int .i64 sh], .int .i64 0]) ∧
    w'.ownsRow W.heap.size 66 1 (.slice (some ⟨g, 0, none⟩) n c) n (u64s xs) ∧ Below W.heap.size W w'

set_option maxHeartbeats 800000 in
theorem add_yes (A : Option Addr) (cap : Nat) (sh : Nat) (ws : List Nat) (H : Option Addr) (hcap : Nat) (hs : List Nat) (w : World)
    (hws : ∀ x ∈ ws, x < 18446744073709551616) (hhs : ∀ x ∈ hs, x < 4294967296) (hlen : hs.length ≤ maxLen)
    (hR : Rd w A (u64s ws)) (hH : Rd w H (u32s hs)) (hr : rightB ws.length sh = true) :
    Calls Try.prog 52 #[.agg #[.slice A ws.length cap, .int .i64 sh], .slice H hs.length hcap] w (RetFilt w ws.length sh (putAll sh ws hs)) := by
  have hbd := rightB_bd hr
  unfold maxLen at hlen
  obtain ⟨i0, hi0, hz0, hz1, hz2⟩ := info_parts info_u64
  obtain ⟨b, off, rfl, hblt, hc⟩ := hR.u64 (i := 0) (by omega)
  have hcells : ∀ j u, (u64s ws)[j]? = some u → w.cell? ⟨b, off + j, none⟩ = some u := by
    intro j u hu
    obtain ⟨hj, rfl⟩ := List.getElem?_eq_some_iff.1 hu
    obtain ⟨b', off', he, hc'⟩ := hR j hj
    simp at he
    obtain ⟨rfl, rfl⟩ := he
    exact hc'
  have HC := Lib.hid hcells
  have HR := Lib.hid hR
  have HH := Lib.hid hH
  have HW := Lib.hid hws
  have HHS := Lib.hid hhs
  clear hcells hR hH hws hhs hc
  go_enter Try.func52, Try.ntmps52
  go_wp2_with fail
  refine (right_yes _ _ _ _ _ hr).mono ?_
  rintro e w1 ⟨rfl, hb1⟩
  have hz1' := hb1.size
  simp at hz1'
  have k0 : Blk w1 w.heap.size 27 #[.slice (some ⟨b, off, none⟩) ws.length cap, .int .i64 sh] := ((Blk.new w _ _).alloc _).below hb1 (by simp; omega)
  have k1 : Blk w1 (w.heap.size + 1) 27 #[.slice none 0 0, .int .i64 0] := (by simpa using Blk.new (w.alloc (.cells #[.slice (some ⟨b, off, none⟩) ws.length cap, .int .i64 sh] 27)) 27 #[.slice none 0 0, .int .i64 0] : Blk _ (w.heap.size + 1) _ _).below hb1 (by simp)
  have bl1 : Below w.heap.size w w1 := (((Below.refl _ _).alloc (Nat.le_refl _) _).alloc (by simp) _).trans (hb1.mono (by simp; omega))
  have c0 : w1.cell? ⟨w.heap.size, 0, none⟩ = some (.slice (some ⟨b, off, none⟩) ws.length cap) := k0.cell 0 rfl
  have c1 : w1.cell? ⟨w.heap.size, 1, none⟩ = some (.int .i64 sh) := k0.cell 1 rfl
  have f0 := k0.frozen 0
  have K0 := Lib.hid k0
  have K1 := Lib.hid k1
  clear k0 k1
  go_wp2_with (at_builtin; refine wpList_append_own _ rfl _ _ 25 rfl w.heap.size 66 i0 (.int .u64 0) 1 8 Try.underlying25 hi0 hz0 hz1 hz2 rfl (by decide) (.slice none 0 0) 0 [] rfl (World.ownsRow_nil _ _ _ _) ⟨b, off, none⟩ ws.length cap (u64s ws) rfl ?c1 ?c2 (u64s_one _) ?c3 ?c4 ?c5 ?_)
  case c1 => simp [u64s]
  case c2 =>
    intro j u hu
    rw [Addr.add_lit]
    exact (bl1.cell (p := ⟨b, off + j, none⟩) hblt).trans (HC.out j u hu)
  case c3 => unfold maxLen; omega
  case c4 => omega
  case c5 => omega
  intro v2 w2 hown2 hg2 hnil2
  clear hnil2
  obtain ⟨g, c, rfl, hgl, hgs, hnc, hcm⟩ := own_at hown2 (by omega)
  have k0 := K0.out.grown hg2 (by simp [Value.ownBlock])
  have k1 := K1.out.grown hg2 (by simp [Value.ownBlock])
  have bl2 : Below w.heap.size w w2 := bl1.grown hg2 (by omega) (by simp [Value.ownBlock])
  have n0 := own_ne hown2 k0 (by decide)
  have n1 := own_ne hown2 k1 (by decide)
  have z2 := bl2.size
  have c0 : w2.cell? ⟨w.heap.size, 0, none⟩ = some (.slice (some ⟨b, off, none⟩) ws.length cap) := k0.cell 0 rfl
  have f0 := k0.frozen 0
  have K0 := Lib.hid k0
  have K1 := Lib.hid k1
  clear k0 k1
  go_wp2
  have j0 : Blk (w2.setCell ⟨w.heap.size, 0, none⟩ (.slice (some ⟨g, 0, none⟩) ws.length c)) w.heap.size 27 #[.slice (some ⟨g, 0, none⟩) ws.length c, .int .i64 sh] := K0.out.set 0 _
  have j1 : Blk (w2.setCell ⟨w.heap.size, 0, none⟩ (.slice (some ⟨g, 0, none⟩) ws.length c)) (w.heap.size + 1) 27 #[.slice none 0 0, .int .i64 0] := K1.out.far (by simp) _
  have jo : (w2.setCell ⟨w.heap.size, 0, none⟩ (.slice (some ⟨g, 0, none⟩) ws.length c)).ownsRow (w.heap.size) 66 1 (.slice (some ⟨g, 0, none⟩) ws.length c) ws.length (u64s (putAll sh ws (hs.take 0))) := by
    exact own_far (by simpa [putAll] using hown2) (by simp; omega) _
  have jb : Below w.heap.size w (w2.setCell ⟨w.heap.size, 0, none⟩ (.slice (some ⟨g, 0, none⟩) ws.length c)) := bl2.setCell (Nat.le_refl _) _
  generalize w2.setCell ⟨w.heap.size, 0, none⟩ (.slice (some ⟨g, 0, none⟩) ws.length c) = w3 at *
  clear K0 K1 c0 f0 hown2 hg2 bl1 bl2 c1 hb1
  go_loopw [19] (fun i wr => ∃ k : Nat, k ≤ hs.length ∧ i = .int .i64 k ∧ Blk wr w.heap.size 27 #[.slice (some ⟨g, 0, none⟩) ws.length c, .int .i64 sh] ∧ Blk wr (w.heap.size + 1) 27 #[.slice none 0 0, .int .i64 0] ∧
      wr.ownsRow (w.heap.size) 66 1 (.slice (some ⟨g, 0, none⟩) ws.length c) ws.length (u64s (putAll sh ws (hs.take k))) ∧ Below w.heap.size w wr) (fun i _ => hs.length - (intOf i).toNat)
  case atStart => exact ⟨0, Nat.zero_le _, rfl, j0, j1, jo, jb⟩
  case round =>
    clear j0 j1 jo jb
    obtain ⟨k, hk, rfl, j0, j1, jo, jb⟩ := hrel
    have d0 : wr.cell? ⟨w.heap.size, 0, none⟩ = some (.slice (some ⟨g, 0, none⟩) ws.length c) := j0.cell 0 rfl
    have d1 : wr.cell? ⟨w.heap.size, 1, none⟩ = some (.int .i64 sh) := j0.cell 1 rfl
    have r0 : wr.cell? ⟨w.heap.size + 1, 0, none⟩ = some (.slice none 0 0) := j1.cell 0 rfl
    have r1 : wr.cell? ⟨w.heap.size + 1, 1, none⟩ = some (.int .i64 0) := j1.cell 1 rfl
    have g0 := j1.frozen 0
    have g1 := j1.frozen 1
    by_cases hlt : k < hs.length
    · obtain ⟨b2, off2, rfl, hb2, hcH⟩ := HH.out.u32 hlt
      have hcH := ckeep jb hcH hb2
      have hh32 := HHS.out _ (getD_mem (d := 0) hlt)
      have hts := Lib.hid (take_snocL hs k hlt)
      generalize hs.getD k 0 = hh at *
      go_wp2_with fail
      refine (marks_any _ _ _ _ _ _ hr hh32).mono ?_
      rintro e w4 ⟨rfl, hb4⟩
      have z4 := hb4.size
      have j04 := j0.below hb4 j0.lt
      have j14 := j1.below hb4 j1.lt
      have jo4 := own_below jo hb4
      have d04 : w4.cell? ⟨w.heap.size, 0, none⟩ = some (.slice (some ⟨g, 0, none⟩) ws.length c) := j04.cell 0 rfl
      have hkk : hh / 64 % ws.length < ws.length := Nat.mod_lt _ (by omega)
      have hpl := putAll_length sh (hs.take k) ws
      have dx : w4.cell? ⟨g, hh / 64 % ws.length, none⟩ = some (.int .u64 (((putAll sh ws (hs.take k)).getD (hh / 64 % ws.length) 0 : Nat) : Int)) := by
        rw [jo4.cellAt _ (by omega), u64s_get _ _ (by omega)]
      have fx := jo4.frozenAt (hh / 64 % ws.length)
      have lg : g < w4.heap.size := (own_lt jo4).2
      have l0 : w.heap.size < w4.heap.size := j04.lt
      have hxlt : (putAll sh ws (hs.take k)).getD (hh / 64 % ws.length) 0 < 18446744073709551616 := putAll_lt sh _ ws HW.out _ (getD_mem (by omega))
      have hor := bits_or_u64_nat _ _ hxlt (mbits_lt sh hh)
      have hrel : Hid (u64s (putAll sh ws (hs.take (k + 1))) = (u64s (putAll sh ws (hs.take k))).set (hh / 64 % ws.length) (.int .u64 (((putAll sh ws (hs.take k)).getD (hh / 64 % ws.length) 0 ||| mbits sh hh : Nat) : Int))) := by
        show _ = _
        rw [hts.out, putAll_snoc, u64s_set]
        unfold put1
        rw [hpl]
      generalize (putAll sh ws (hs.take k)).getD (hh / 64 % ws.length) 0 ||| mbits sh hh = Y at *
      generalize (putAll sh ws (hs.take k)).getD (hh / 64 % ws.length) 0 = X at *
      generalize mbits sh hh = M at *
      generalize hh / 64 % ws.length = j at *
      have J0 := Lib.hid j04
      have J1 := Lib.hid j14
      have JO := Lib.hid jo4
      clear j04 j14 jo4 j0 j1 jo d0 d1 r0 r1 g0 g1 hcH hts hpl
      go_wp2_with fail
      go_region
      go_wp2
      go_roundw
      case rel =>
        refine ⟨k + 1, by omega, by go_num, ((J0.out.far (p := ⟨g, j, none⟩) n0 _).alloc _).drew, ((J1.out.far (p := ⟨g, j, none⟩) n1 _).alloc _).drew, ?_, ?_⟩
        · rw [hrel.out]
          exact ((JO.out.stored j _).1.alloc _).drew
        · exact (((jb.trans (hb4.mono jb.size)).setCell (p := ⟨g, j, none⟩) hgl _).alloc (by simp; omega) _).drew
      case measure => simp [intOf]; omega
    · go_wp2
      exact bodyPost_ret (v := .tuple #[.agg #[.slice (some ⟨g, 0, none⟩) ws.length c, .int .i64 sh], .int .i64 0]) (by simp [results, Try.results52, go_sem, r0, r1]) rfl ⟨g, c, rfl, own_far (p := ⟨w.heap.size + 1, 1, none⟩) (own_far (p := ⟨w.heap.size + 1, 0, none⟩) (by rw [show hs.take k = hs from List.take_of_length_le (by omega)] at jo; exact jo) n1.symm _) n1.symm _, (jb.setCell (by simp) _).setCell (by simp) _⟩

end Go.Proofs.Ytejdknmlggdndaa
