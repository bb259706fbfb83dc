/- The reference's Add: what it returns. -/
import Derived.Test.YtcjmngonpijeiaaSieve3
import Derived.Test.YtcjmngonpijeiaaSieve4
import Derived.StillTailTactics
import Derived.Test.YtcjmngonpijeiaaApp
namespace Go.Proofs.Ytcjmngonpijeiaa
set_option maxRecDepth 100000
open Go.RowKit Pl
set_option linter.unusedVariables false

/-- a filter of the call's own is returned, alone -/
def RetFilt1 (W : World) (n : Nat) (sh : Int) (xs : List Nat) (e : Ending) (w' : World) : Prop :=
  ∃ A c, e = .returned (.agg #[.slice A n c, .int .i64 sh]) ∧
    w'.ownsRow W.heap.size 82 1 (.slice A n c) n (u64s xs) ∧ Below W.heap.size W w'

theorem own_nilform {w : World} {base : Nat} {e : TypeId} {size : Nat} {v : Value} {n : Nat} {xs : List Value} (h : w.ownsRow base e size v n xs) : ∃ A c, v = .slice A n c := by
  rcases h.2 with ⟨rfl, rfl⟩ | ⟨g, cap, cur, rfl, _⟩
  · exact ⟨_, _, rfl⟩
  · exact ⟨_, _, rfl⟩

theorem put1_with (sh : Nat) (ws : List Nat) (h : Nat) (hn : 0 < ws.length) :
    put1 sh ws h = (ws.set (h / 64 % ws.length) (ws.getD (h / 64 % ws.length) 0 ||| 2 ^ (h % 64))).set (h / 64 % ws.length) ((ws.set (h / 64 % ws.length) (ws.getD (h / 64 % ws.length) 0 ||| 2 ^ (h % 64))).getD (h / 64 % ws.length) 0 ||| 2 ^ (h / 2 ^ sh % 64)) := by
  have hk : h / 64 % ws.length < ws.length := Nat.mod_lt _ hn
  unfold put1 mbits
  rw [List.set_set, List.getD_eq_getElem?_getD (l := ws.set _ _), List.getElem?_set_self hk, Option.getD_some, Nat.or_assoc]

set_option maxHeartbeats 1600000 in
/-- the reference's Add: of no hashes, of whatever filter; or of any hashes, of a right one -/
theorem refAdd_any (A : Option Addr) (cap : Nat) (sh : Int) (ws : List Nat) (H : Option Addr) (hcap : Nat) (hs : List Nat) (w : World)
    (hws : ∀ x ∈ ws, x < 18446744073709551616) (hhs : ∀ x ∈ hs, x < 4294967296) (hlen : hs.length ≤ maxLen) (hlw : ws.length * 8 ≤ 140737488351232)
    (hR : Rd w A (u64s ws)) (hH : Rd w H (u32s hs)) (hr : hs = [] ∨ (rightB ws.length sh = true)) :
    Calls Try.prog 53 #[.agg #[.slice A ws.length cap, .int .i64 sh], .slice H hs.length hcap] w (RetFilt1 w ws.length sh (putAll sh.toNat ws hs)) := by
  unfold maxLen at hlen
  obtain ⟨i0, hi0, hz0, hz1, hz2⟩ := info_parts info_u64
  have HR := Lib.hid hR
  have HH := Lib.hid hH
  have HW := Lib.hid hws
  have HHS := Lib.hid hhs
  have HRR := Lib.hid hr
  clear hR hH hws hhs hr
  go_enter Try.func53, Try.ntmps53
  have hR1 : Rd (((w.alloc (.cells #[.slice A ws.length cap, .int .i64 sh] 53)).alloc (.cells #[.slice none 0 0, .int .i64 0] 53)).alloc (.cells #[.slice none 0 0, .int .i64 sh] 53)) A (u64s ws) :=
    ((HR.out.below ((Below.refl _ _).alloc (Nat.le_refl _) _)).below ((Below.refl _ _).alloc (Nat.le_refl _) _)).below ((Below.refl _ _).alloc (Nat.le_refl _) _)
  have HR1 := Lib.hid hR1
  clear hR1
  go_wp2_with (at_builtin; refine wpList_app_rd rfl _ _ 51 rfl w.heap.size 82 i0 (.int .u64 0) 8 Try.underlying51 hi0 hz0 hz1 hz2 rfl (.slice none 0 0) 0 [] rfl (World.ownsRow_nil _ _ _ _) A cap (u64s ws) ws.length rfl (u64s_length ws) HR1.out (u64s_one ws) ?c3 ?c4 ?c5 ?_)
  case c3 => unfold maxLen; omega
  case c4 => omega
  case c5 => simp; omega
  intro v2 w2 hown2 hg2
  clear HR1
  have b0 : Blk (((w.alloc (.cells #[.slice A ws.length cap, .int .i64 sh] 53)).alloc (.cells #[.slice none 0 0, .int .i64 0] 53)).alloc (.cells #[.slice none 0 0, .int .i64 sh] 53)) w.heap.size 53 #[.slice A ws.length cap, .int .i64 sh] := ((Blk.new _ _ _).alloc _).alloc _
  have b1 : Blk (((w.alloc (.cells #[.slice A ws.length cap, .int .i64 sh] 53)).alloc (.cells #[.slice none 0 0, .int .i64 0] 53)).alloc (.cells #[.slice none 0 0, .int .i64 sh] 53)) (w.heap.size + 1) 53 #[.slice none 0 0, .int .i64 0] :=
    Blk.alloc (by simpa using Blk.new (w.alloc (.cells #[.slice A ws.length cap, .int .i64 sh] 53)) 53 #[.slice none 0 0, .int .i64 0]) _
  have b2 : Blk (((w.alloc (.cells #[.slice A ws.length cap, .int .i64 sh] 53)).alloc (.cells #[.slice none 0 0, .int .i64 0] 53)).alloc (.cells #[.slice none 0 0, .int .i64 sh] 53)) (w.heap.size + 1 + 1) 53 #[.slice none 0 0, .int .i64 sh] := by
    simpa using Blk.new ((w.alloc (.cells #[.slice A ws.length cap, .int .i64 sh] 53)).alloc (.cells #[.slice none 0 0, .int .i64 0] 53)) 53 #[.slice none 0 0, .int .i64 sh]
  replace b0 := b0.grown hg2 (by simp [Value.ownBlock])
  replace b1 := b1.grown hg2 (by simp [Value.ownBlock])
  replace b2 := b2.grown hg2 (by simp [Value.ownBlock])
  have jb : Below w.heap.size w w2 := ((((Below.refl _ _).alloc (Nat.le_refl _) _).alloc (by simp) _).alloc (by simp; omega) _).grown hg2 (by simp; omega) (by simp [Value.ownBlock])
  obtain ⟨A2, c2, rfl⟩ := own_nilform hown2
  have jo : w2.ownsRow w.heap.size 82 1 (.slice A2 (0 + ws.length) c2) (0 + ws.length) (u64s ws) := by simpa using hown2
  rw [Nat.zero_add] at jo
  clear hown2 hg2
  have d2 : w2.cell? ⟨w.heap.size + 1 + 1, 0, none⟩ = some (.slice none 0 0) := b2.cell 0 rfl
  have f2 := b2.frozen 0
  have B0 := Lib.hid b0
  have B1 := Lib.hid b1
  have B2 := Lib.hid b2
  clear b0 b1 b2
  go_wp2
  have b0 : Blk (w2.setCell ⟨w.heap.size + 1 + 1, 0, none⟩ (.slice A2 ws.length c2)) w.heap.size 53 #[.slice A ws.length cap, .int .i64 sh] := B0.out.far (by simp; omega) _
  have b1 : Blk (w2.setCell ⟨w.heap.size + 1 + 1, 0, none⟩ (.slice A2 ws.length c2)) (w.heap.size + 1) 53 #[.slice none 0 0, .int .i64 0] := B1.out.far (by simp) _
  have b2 : Blk (w2.setCell ⟨w.heap.size + 1 + 1, 0, none⟩ (.slice A2 ws.length c2)) (w.heap.size + 1 + 1) 53 #[.slice A2 ws.length c2, .int .i64 sh] := B2.out.set 0 _
  replace jo : (w2.setCell ⟨w.heap.size + 1 + 1, 0, none⟩ (.slice A2 ws.length c2)).ownsRow w.heap.size 82 1 (.slice A2 ws.length c2) ws.length (u64s ws) := own_farB jo B2.out (by decide) _
  replace jb : Below w.heap.size w (w2.setCell ⟨w.heap.size + 1 + 1, 0, none⟩ (.slice A2 ws.length c2)) := jb.setCell (by simp; omega) _
  generalize w2.setCell ⟨w.heap.size + 1 + 1, 0, none⟩ (.slice A2 ws.length c2) = w3 at *
  clear d2 f2 B0 B1 B2
  rcases HRR.out with rfl | hr
  · have r0 : w3.cell? ⟨w.heap.size + 1, 0, none⟩ = some (.slice none 0 0) := b1.cell 0 rfl
    have r1 : w3.cell? ⟨w.heap.size + 1, 1, none⟩ = some (.int .i64 0) := b1.cell 1 rfl
    have g0 := b1.frozen 0
    have g1 := b1.frozen 1
    have d0 : w3.cell? ⟨w.heap.size + 1 + 1, 0, none⟩ = some (.slice A2 ws.length c2) := b2.cell 0 rfl
    have d1 : w3.cell? ⟨w.heap.size + 1 + 1, 1, none⟩ = some (.int .i64 sh) := b2.cell 1 rfl
    have jo2 := Lib.hid (own_farB (i := 1) (own_farB (i := 0) jo b1 (by decide) (.slice A2 ws.length c2)) (b1.set 0 _) (by decide) (.int .i64 sh))
    clear b0 b1 b2 jo
    go_loop [6] (fun i => i = .int .i64 0) (fun i => 0)
    case atStart => exact rfl
    case round =>
      obtain rfl := hrel
      go_wp2
      exact bodyPost_ret (v := .agg #[.slice A2 ws.length c2, .int .i64 sh]) (by simp [results, Try.results53, go_sem, r0, r1]) rfl ⟨A2, c2, rfl, jo2.out, (jb.setCell (by simp) _).setCell (by simp) _⟩
  · have hbd := rightB_bd hr
    obtain ⟨s, rfl⟩ := Int.eq_ofNat_of_zero_le (by omega : 0 ≤ sh)
    obtain ⟨g, c, hv, hgl, hgs, hnc, hcm⟩ := own_at jo (by omega)
    simp only [Value.slice.injEq, true_and] at hv
    obtain ⟨rfl, rfl⟩ := hv
    have n0 := own_ne jo b0 (by decide)
    have n1 := own_ne jo b1 (by decide)
    have n2 := own_ne jo b2 (by decide)
    rw [Int.toNat_natCast]
    replace jo : w3.ownsRow w.heap.size 82 1 (.slice (some ⟨g, 0, none⟩) ws.length c2) ws.length (u64s (putAll s ws (hs.take 0))) := jo
    have z3 := b2.lt
    go_loopw [6] (fun i wr => ∃ k : Nat, k ≤ hs.length ∧ i = .int .i64 k ∧ Blk wr w.heap.size 53 #[.slice A ws.length cap, .int .i64 s] ∧ Blk wr (w.heap.size + 1) 53 #[.slice none 0 0, .int .i64 0] ∧
        Blk wr (w.heap.size + 1 + 1) 53 #[.slice (some ⟨g, 0, none⟩) ws.length c2, .int .i64 s] ∧
        wr.ownsRow (w.heap.size) 82 1 (.slice (some ⟨g, 0, none⟩) ws.length c2) ws.length (u64s (putAll s ws (hs.take k))) ∧ Below w.heap.size w wr) (fun i _ => hs.length - (intOf i).toNat)
    case atStart => exact ⟨0, Nat.zero_le _, rfl, b0, b1, b2, jo, jb⟩
    case round =>
      clear b0 b1 b2 jo jb z3
      obtain ⟨k, hk, rfl, b0, b1, b2, jo, jb⟩ := hrel
      by_cases hlt : k < hs.length
      · obtain ⟨bH, oH, rfl, hbH, hcH⟩ := HH.out.u32 hlt
        have hcH := ckeep jb hcH hbH
        have hh32 := HHS.out _ (getD_mem (d := 0) hlt)
        have hts := take_snocL hs k hlt
        have hpl := putAll_length s (hs.take k) ws
        have hcl := putAll_lt s (hs.take k) ws HW.out
        have HE : Hid (putAll s ws (hs.take (k + 1)) = put1 s (putAll s ws (hs.take k)) (hs.getD k 0)) := by show _ = _; rw [hts, putAll_snoc]
        clear hts
        generalize putAll s ws (hs.take k) = cs at *
        generalize hs.getD k 0 = hh at *
        rw [put1_with s cs hh (by omega), hpl] at HE
        have hkk : hh / 64 % ws.length < ws.length := Nat.mod_lt _ (by omega)
        have hX := hcl _ (getD_mem (d := 0) (show hh / 64 % ws.length < cs.length by omega))
        have hq1 : ((hh : Nat) : Int).tmod 64 = ((hh % 64 : Nat) : Int) := by rw [Int.tmod_eq_emod_of_nonneg (by omega)]; rfl
        have hq2 : (((hh / 2 ^ s : Nat) : Nat) : Int).tmod 64 = ((hh / 2 ^ s % 64 : Nat) : Int) := by
          rw [Int.tmod_eq_emod_of_nonneg (Int.natCast_nonneg _)]; rfl
        have hq3 : (((hh : Nat) : Int) / 64).tmod (ws.length : Int) = ((hh / 64 % ws.length : Nat) : Int) := by
          rw [Int.tmod_eq_emod_of_nonneg (by omega)]; rfl
        have hw3 : IntKind.i64.wrap ((hh / 64 % ws.length : Nat) : Int) = ((hh / 64 % ws.length : Nat) : Int) := IntWalk.i64_in _ (by omega)
        have hp64 : hh % 64 < 64 := Nat.mod_lt _ (by omega)
        have hq64 : hh / 2 ^ s % 64 < 64 := Nat.mod_lt _ (by omega)
        have HS := Lib.hid (refShifted_any hh s)
        have hlt2 : hh / 2 ^ s < 4294967296 := Nat.lt_of_le_of_lt (Nat.div_le_self _ _) hh32
        generalize hh / 2 ^ s % 64 = q at *
        generalize hh / 2 ^ s = Z at *
        generalize hh % 64 = p at *
        generalize hXe : cs.getD (hh / 64 % ws.length) 0 = X at *
        have hdx := jo.cellAt (hh / 64 % ws.length) (by omega)
        rw [u64s_get _ _ (by omega), hXe] at hdx
        clear hXe
        have hP : 2 ^ p < 2 ^ 64 := Nat.pow_lt_pow_right (by omega) hp64
        have hX1 : X ||| 2 ^ p < 2 ^ 64 := Nat.or_lt_two_pow (by omega) hP
        have hg1 : (cs.set (hh / 64 % ws.length) (X ||| 2 ^ p)).getD (hh / 64 % ws.length) 0 = X ||| 2 ^ p := by
          rw [List.getD_eq_getElem?_getD, List.getElem?_set_self (by omega)]; rfl
        rw [hg1, List.set_set] at HE
        clear hg1
        have HC1 := Lib.hid (refWith_any X p)
        have HC2 := Lib.hid (refWith_any (X ||| 2 ^ p) q)
        generalize X ||| 2 ^ p ||| 2 ^ q = Y2 at *
        generalize X ||| 2 ^ p = Y1 at *
        generalize hh / 64 % ws.length = j at *
        have fx := jo.frozenAt j
        have d0 : wr.cell? ⟨w.heap.size + 1 + 1, 0, none⟩ = some (.slice (some ⟨g, 0, none⟩) ws.length c2) := b2.cell 0 rfl
        have JO := Lib.hid jo
        have B0 := Lib.hid b0
        have B1 := Lib.hid b1
        have B2 := Lib.hid b2
        clear jo b0 b1 b2 hP hcl
        go_wp2_with fail
        refine wp_region_still_tail 12 (by kernel_rfl) (by kernel_rfl) ?_
        simp only [List.take_succ_cons, List.take_zero, List.drop_succ_cons, List.drop_zero]
        repeat still_step
        still_call ((HC1.out _ hX hp64).mono fun e w' h => ⟨h.1, h.2.symm⟩)
        repeat still_step
        refine wpStill_nil ?_
        go_wp2_with fail
        have b0 : Blk (wr.setCell ⟨g, j, none⟩ (.int .u64 Y1)).drew w.heap.size 53 #[.slice A ws.length cap, .int .i64 s] := (B0.out.far (p := ⟨g, j, none⟩) n0 _).drew
        have b1 : Blk (wr.setCell ⟨g, j, none⟩ (.int .u64 Y1)).drew (w.heap.size + 1) 53 #[.slice none 0 0, .int .i64 0] := (B1.out.far (p := ⟨g, j, none⟩) n1 _).drew
        have b2 : Blk (wr.setCell ⟨g, j, none⟩ (.int .u64 Y1)).drew (w.heap.size + 1 + 1) 53 #[.slice (some ⟨g, 0, none⟩) ws.length c2, .int .i64 s] := (B2.out.far (p := ⟨g, j, none⟩) n2 _).drew
        have jo : (wr.setCell ⟨g, j, none⟩ (.int .u64 Y1)).drew.ownsRow (w.heap.size) 82 1 (.slice (some ⟨g, 0, none⟩) ws.length c2) ws.length (u64s (cs.set j Y1)) := by
          rw [← u64s_set]; exact (JO.out.stored j _).1.drew
        replace jb : Below w.heap.size w (wr.setCell ⟨g, j, none⟩ (.int .u64 Y1)).drew := (jb.setCell (p := ⟨g, j, none⟩) hgl _).drew
        have hdx := jo.cellAt j (by omega)
        rw [u64s_get _ _ (by rw [List.length_set]; omega), List.getD_eq_getElem?_getD, List.getElem?_set_self (by omega), Option.getD_some] at hdx
        generalize (wr.setCell ⟨g, j, none⟩ (.int .u64 Y1)).drew = wx at *
        clear B0 B1 B2 JO d0 fx hcH
        have fx := jo.frozenAt j
        have d0 : wx.cell? ⟨w.heap.size + 1 + 1, 0, none⟩ = some (.slice (some ⟨g, 0, none⟩) ws.length c2) := b2.cell 0 rfl
        have d1 : wx.cell? ⟨w.heap.size, 1, none⟩ = some (.int .i64 s) := b0.cell 1 rfl
        have JO := Lib.hid jo
        have B0 := Lib.hid b0
        have B1 := Lib.hid b1
        have B2 := Lib.hid b2
        clear jo b0 b1 b2
        refine wp_region_still_tail 15 (by kernel_rfl) (by kernel_rfl) ?_
        simp only [List.take_succ_cons, List.take_zero, List.drop_succ_cons, List.drop_zero]
        repeat still_step
        still_call ((HS.out _ hh32 (by omega)).mono fun e w' h => ⟨h.1, h.2.symm⟩)
        repeat still_step
        still_call ((HC2.out _ hX1 hq64).mono fun e w' h => ⟨h.1, h.2.symm⟩)
        repeat still_step
        refine wpStill_nil ?_
        go_wp2
        go_roundw
        case rel =>
          refine ⟨k + 1, by omega, by go_num, (B0.out.far (p := ⟨g, j, none⟩) n0 _).drew, (B1.out.far (p := ⟨g, j, none⟩) n1 _).drew, (B2.out.far (p := ⟨g, j, none⟩) n2 _).drew, ?_, (jb.setCell (p := ⟨g, j, none⟩) hgl _).drew⟩
          rw [HE.out]
          have := (JO.out.stored j (.int .u64 Y2)).1.drew
          rw [u64s_set, List.set_set] at this
          exact this
        case measure => simp [intOf]; omega
      · have r0 : wr.cell? ⟨w.heap.size + 1, 0, none⟩ = some (.slice none 0 0) := b1.cell 0 rfl
        have r1 : wr.cell? ⟨w.heap.size + 1, 1, none⟩ = some (.int .i64 0) := b1.cell 1 rfl
        have g0 := b1.frozen 0
        have g1 := b1.frozen 1
        have d0 : wr.cell? ⟨w.heap.size + 1 + 1, 0, none⟩ = some (.slice (some ⟨g, 0, none⟩) ws.length c2) := b2.cell 0 rfl
        have d1 : wr.cell? ⟨w.heap.size + 1 + 1, 1, none⟩ = some (.int .i64 s) := b2.cell 1 rfl
        rw [show hs.take k = hs from List.take_of_length_le (by omega)] at jo
        have jo2 := Lib.hid (own_farB (i := 1) (own_farB (i := 0) jo b1 (by decide) (.slice (some ⟨g, 0, none⟩) ws.length c2)) (b1.set 0 _) (by decide) (.int .i64 s))
        clear b0 b1 b2 jo
        go_wp2
        exact bodyPost_ret (v := .agg #[.slice (some ⟨g, 0, none⟩) ws.length c2, .int .i64 s]) (by simp [results, Try.results53, go_sem, r0, r1]) rfl ⟨_, c2, rfl, jo2.out, (jb.setCell (by simp) _).setCell (by simp) _⟩

end Go.Proofs.Ytcjmngonpijeiaa
