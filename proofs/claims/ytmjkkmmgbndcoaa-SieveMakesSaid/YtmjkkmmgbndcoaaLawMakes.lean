/- SieveMakes: a filter of so many words, with that shift, of any hashes, is the reference's, or the error's; what comes out is its owner's. No condition. -/
import Derived.Test.YtmjkkmmgbndcoaaOpen
import Derived.Test.YtmjkkmmgbndcoaaSieve5
import Derived.Test.YtmjkkmmgbndcoaaSieve7
import Derived.Test.YtmjkkmmgbndcoaaSieve8
namespace Go.Proofs.Ytmjkkmmgbndcoaa
open Go.ChangeShapes Go.WideShapes Go.ChangeAt Go.RowKit Pl
set_option linter.unusedVariables false

theorem not_right {n sh : Int} (h : rightB n sh = false) : wordsB n = false ∨ (wordsB n = true ∧ sh < 1) ∨ (wordsB n = true ∧ 1 ≤ sh ∧ 31 < sh) := by
  unfold rightB at h
  cases hw : wordsB n
  · exact .inl rfl
  · rw [hw] at h
    by_cases h1 : sh < 1
    · exact .inr (.inl ⟨rfl, h1⟩)
    · refine .inr (.inr ⟨rfl, by omega, ?_⟩)
      simp at h
      omega

set_option maxHeartbeats 1600000 in
theorem makes_no (n sh : Int) (H : Option Addr) (hcap : Nat) (hl : Nat) (w : World) (hr : rightB n sh = false) :
    Calls Try.prog 3 #[.int .i64 n, .int .i64 sh, .slice H hl hcap] w fun e w' => e = .returned (.bool true) ∧ Below w.heap.size w w' := by
  have HR := Lib.hid hr
  have hnr := not_right hr
  clear hr
  rcases hnr with hw | ⟨hw, hs⟩ | ⟨hw, hs, hs'⟩
  all_goals
    have HW := Lib.hid hw
    clear hw
    go_enter Try.func3, Try.ntmps3
    go_wp2_with fail
    refine (awake_any _).mono ?_
    rintro e w1 ⟨rfl, hb1⟩
    have x1 : Ext w w1 := hb1
    go_wp2_with fail
    refine (make_no _ _ _ _ HR.out).mono ?_
    rintro e w2 ⟨rfl, hb2⟩
    have x2 : Ext w1 w2 := hb2
    go_wp2_with fail
    refine (make_no _ _ _ _ HR.out).mono ?_
    rintro e w3 ⟨rfl, hb3⟩
    have x3 : Ext (w2.alloc (.cells #[.slice none 0 0, .int .i64 0] 26)) w3 := hb3
    have k2 := x3.blk (Blk.new w2 26 #[.slice none 0 0, .int .i64 0])
    have x4 := x3.trans (Ext.alloc w3 (.cells #[.slice none 0 0, .int .i64 0] 26))
    have c0 : (w3.alloc (.cells #[.slice none 0 0, .int .i64 0] 26)).cell? ⟨w2.heap.size, 0, none⟩ = some (.slice none 0 0) := cold (k2.cell 0 rfl)
    have c1 : (w3.alloc (.cells #[.slice none 0 0, .int .i64 0] 26)).cell? ⟨w2.heap.size, 1, none⟩ = some (.int .i64 0) := cold (k2.cell 1 rfl)
    have d0 : (w3.alloc (.cells #[.slice none 0 0, .int .i64 0] 26)).cell? ⟨w3.heap.size, 0, none⟩ = some (.slice none 0 0) := cnew _ _ _ 0 rfl
    have d1 : (w3.alloc (.cells #[.slice none 0 0, .int .i64 0] 26)).cell? ⟨w3.heap.size, 1, none⟩ = some (.int .i64 0) := cnew _ _ _ 1 rfl
    have xx : Ext w (w3.alloc (.cells #[.slice none 0 0, .int .i64 0] 26)) := ((x1.trans x2).trans (Ext.alloc _ _)).trans x4
    clear hb1 hb2 hb3 x1 x2 x3 x4 k2
    go_wp2_with fail
    generalize w3.alloc (.cells #[.slice none 0 0, .int .i64 0] 26) = w4 at *
    refine (spoil_nil _ _).mono ?_
    rintro e w5 ⟨rfl, hb5⟩
    have x5 : Ext w4 w5 := hb5
    replace d0 := x5.cell d0
    replace d1 := x5.cell d1
    clear c0 c1 hb5
    go_wp2_with fail
    refine (refWords_any _ _).mono ?_
    rintro e w6 ⟨rfl, rfl⟩
    rw [HW.out]
    go_wp2
    go_ret
    exact ⟨rfl, xx.trans x5⟩

set_option maxHeartbeats 1600000 in
theorem makes_yes (n sh : Nat) (H : Option Addr) (hcap : Nat) (hs : List Nat) (w : World) (hhs : ∀ x ∈ hs, x < 4294967296) (hlen : hs.length ≤ maxLen) (hH : Rd w H (u32s hs)) (hr : rightB n sh = true) :
    Calls Try.prog 3 #[.int .i64 n, .int .i64 sh, .slice H hs.length hcap] w fun e w' => e = .returned (.bool true) ∧ Below w.heap.size w w' := by
  have hbd := rightB_bd hr
  have HR := Lib.hid hr
  have HW := Lib.hid (rightB_parts hr).1
  have HH := Lib.hid hH
  have HHS := Lib.hid hhs
  obtain ⟨i0, hi0, hz0, hz1, hz2⟩ := info_parts info_u64
  have HPL : Hid ((putAll sh (List.replicate n 0) hs).length = n) := Lib.hid (by rw [putAll_length, List.length_replicate])
  clear hr hH hhs
  go_enter Try.func3, Try.ntmps3
  go_wp2_with fail
  refine (awake_any _).mono ?_
  rintro e w1 ⟨rfl, hb1⟩
  have x1 : Ext w w1 := hb1
  go_wp2_with fail
  refine (make_yes n sh H hcap hs _ HHS.out hlen (x1.rd HH.out) HR.out).mono ?_
  rintro e w2 ⟨gf, cf, rfl, of, hb2⟩
  have x2 : Ext w1 w2 := hb2
  go_wp2_with fail
  refine (make_yes n sh H hcap hs _ HHS.out hlen (((x1.trans x2).trans (Ext.alloc _ _)).rd HH.out) HR.out).mono ?_
  rintro e w3 ⟨gg, cg, rfl, og, hb3⟩
  have x3 : Ext (w2.alloc (.cells #[.slice (some ⟨gf, 0, none⟩) n cf, .int .i64 sh] 26)) w3 := hb3
  have lf := own_lt of
  have lg := own_lt og
  simp at lg
  have k2 := (x3.trans (Ext.alloc w3 (.cells #[.slice (some ⟨gg, 0, none⟩) n cg, .int .i64 sh] 26))).blk (Blk.new w2 26 #[.slice (some ⟨gf, 0, none⟩) n cf, .int .i64 sh])
  have k3 := Blk.new w3 26 #[.slice (some ⟨gg, 0, none⟩) n cg, .int .i64 sh]
  have c0 : (w3.alloc (.cells #[.slice (some ⟨gg, 0, none⟩) n cg, .int .i64 sh] 26)).cell? ⟨w2.heap.size, 0, none⟩ = some (.slice (some ⟨gf, 0, none⟩) n cf) := k2.cell 0 rfl
  have c1 : (w3.alloc (.cells #[.slice (some ⟨gg, 0, none⟩) n cg, .int .i64 sh] 26)).cell? ⟨w2.heap.size, 1, none⟩ = some (.int .i64 sh) := k2.cell 1 rfl
  have xx : Ext w (w3.alloc (.cells #[.slice (some ⟨gg, 0, none⟩) n cg, .int .i64 sh] 26)) := (((x1.trans x2).trans (Ext.alloc _ _)).trans x3).trans (Ext.alloc _ _)
  have of4 := ((Ext.alloc w2 (.cells #[.slice (some ⟨gf, 0, none⟩) n cf, .int .i64 sh] 26)).trans (x3.trans (Ext.alloc w3 (.cells #[.slice (some ⟨gg, 0, none⟩) n cg, .int .i64 sh] 26)))).own of
  have og4 := (Ext.alloc w3 (.cells #[.slice (some ⟨gg, 0, none⟩) n cg, .int .i64 sh] 26)).own og
  have z1 := x1.size
  have z2 := x2.size
  have z3 := x3.size
  simp at z3
  have K2 := Lib.hid k2
  have K3 := Lib.hid k3
  clear hb1 hb2 hb3 x1 x2 x3 k2 k3 of og
  go_wp2_with fail
  generalize w3.alloc (.cells #[.slice (some ⟨gg, 0, none⟩) n cg, .int .i64 sh] 26) = w4 at *
  refine (spoil_any _ gf n cf sh _ _ (by unfold maxLen; omega) of4).mono ?_
  rintro e w5 ⟨rfl, hg5⟩
  have k3 := K3.out.grown hg5 (by simp; omega)
  have og5 := og4.kept hg5 (.inr (by simp [Value.ownBlock]; omega))
  have xb : Below w.heap.size w w5 := Below.grown xx.below hg5 xx.size (fun k hk => by simp at hk; omega)
  have z5 := hg5.size
  have d0 : w5.cell? ⟨w3.heap.size, 0, none⟩ = some (.slice (some ⟨gg, 0, none⟩) n cg) := k3.cell 0 rfl
  have d1 : w5.cell? ⟨w3.heap.size, 1, none⟩ = some (.int .i64 sh) := k3.cell 1 rfl
  have K3' := Lib.hid k3
  clear k3 c0 c1 of4 og4 hg5
  go_wp2_with fail
  refine (refWords_any _ _).mono ?_
  rintro e w6 ⟨rfl, rfl⟩
  rw [HW.out]
  go_wp2_with (at_make; refine wpList_make_full _ rfl _ _ 24 rfl w.heap.size 53 i0 (.int .u64 0) 1 Try.underlying24 hi0 hz0 hz1 .i64 .i64 n n n rfl rfl rfl rfl ?c1 ?c2 ?c3 ?_)
  case c1 => rw [hz2]; omega
  case c2 => unfold maxLen; omega
  case c3 => exact xb.size
  intro w6 hown6 hg6
  have e6 : (madeCells #[Value.int IntKind.u64 0] n).toList = u64s (List.replicate n 0) := by
    rw [toList_madeCells_one]; simp [u64s]
  have hown6 : w6.ownsRow w.heap.size 53 1 (.slice (some ⟨w5.heap.size, 0, none⟩) n n) n (u64s (List.replicate n 0)) := by rw [← e6]; exact hown6
  have x6 : Ext w5 w6 := (Below.refl _ _).grown hg6 (Nat.le_refl _) (fun k h => by cases h)
  have HA := Lib.hid (refAdd_any (some ⟨w5.heap.size, 0, none⟩) n sh (List.replicate n 0) H hcap hs w6 (fun x hx => by rw [List.eq_of_mem_replicate hx]; omega) HHS.out hlen (by rw [List.length_replicate]; omega) (Rd.of_own hown6)
    ((HH.out.of_below xb (fun _ _ _ hc => cell_lt hc)).below x6.below) (.inr (by rw [List.length_replicate]; exact HR.out)))
  rw [List.length_replicate, Int.toNat_natCast] at HA
  replace d0 := x6.cell d0
  replace d1 := x6.cell d1
  have og6 := x6.own og5
  clear hown6 hg6 e6 og5
  go_wp2_with fail
  refine HA.out.mono ?_
  rintro e w7 ⟨gw, cw, rfl, ow, hb7⟩
  have x7 : Ext w6 w7 := hb7
  replace d0 := x7.cell d0
  replace d1 := x7.cell d1
  have og7 := x7.own og6
  have l0 : w3.heap.size < w7.heap.size := cell_lt d0
  have r1 := (Ext.alloc w7 (.cells #[.slice gw n cw, .int .i64 sh] 26)).rd (Rd.of_own ow)
  have r2 := (Ext.alloc w7 (.cells #[.slice gw n cw, .int .i64 sh] 26)).rd (Rd.of_own og7)
  have HS := Lib.hid (same_any (some ⟨gg, 0, none⟩) gw cg cw _ _ sh sh _ r2 r1 (by rw [HPL.out]; unfold maxLen; omega) (by rw [HPL.out]; unfold maxLen; omega))
  rw [HPL.out] at HS
  clear r1 r2 og6 og7 ow hb7 HA
  go_wp2_with fail
  refine HS.out.mono ?_
  rintro e w8 ⟨rfl, hb8⟩
  have x8 : Ext _ w8 := hb8
  have e8 : sameB (putAll sh (List.replicate n 0) hs, ((sh : Nat) : Int)) (putAll sh (List.replicate n 0) hs, ((sh : Nat) : Int)) = true := by unfold sameB; simp
  rw [e8]
  clear e8
  go_wp2
  go_ret
  exact ⟨rfl, xb.trans ((x6.trans (x7.trans ((Ext.alloc _ _).trans x8))).below.mono xb.size)⟩

theorem walk_SieveMakes (v0 v1 v2 : Value) (x0 x1 : Int) (x2 : List Nat) (w : World) (h0 : InInt w v0 x0) (h1 : InInt w v1 x1) (h2 : InU32s w v2 x2) :
    Calls Try.prog 3 #[v0, v1, v2] w fun e w' => e = .returned (.bool true) ∧ Below w.heap.size w w' := by
  obtain ⟨rfl, hx0⟩ := h0
  obtain ⟨rfl, hx1⟩ := h1
  obtain ⟨H, hcap, rfl, hR, hb, hm⟩ := h2
  cases hr : rightB x0 x1
  · exact makes_no x0 x1 H hcap _ w hr
  · have hbd := rightB_bd hr
    obtain ⟨n, rfl⟩ := Int.eq_ofNat_of_zero_le (by omega : 0 ≤ x0)
    obtain ⟨s, rfl⟩ := Int.eq_ofNat_of_zero_le (by omega : 0 ≤ x1)
    exact makes_yes n s H hcap x2 w hb (by unfold maxLen; omega) hR hr

set_option maxRecDepth 100000 in
theorem lifted_SieveMakes (os : Os) (started : os.Started) (H : Type) (enc : TypeId × Value → H) :
    ReturnsInHanded {} Try.checked os 3 .any (Rows.sieveMakesSpec.pre6 enc Try.prog Try.f3 Rows.sieveMakesRow.domain false) (Rows.sieveMakesSpec.post enc Try.prog Try.f3 false true false false) := by
  refine returnsInHanded_of_change_sized (C := Try.checked) own started (by kernel_rfl) Try.func3
    (ChangeSpec.witness6 (enc := enc) (C := Try.checked) false ⟨#[], #[.int .i64 0, .int .i64 0, .slice none 0 0], []⟩ 8 (by kernel_rfl) (by kernel_rfl) (by kernel_rfl) (by kernel_rfl)) ?_
  intro W base args ds gs before hval0 hW hcnd hsz0 _
  have hsz : (DataW.weightsEach Try.prog (Try.f3.params.toList ++ Rows.sieveMakesSpec.plain.varTypes Try.prog) (ds ++ gs)).all (· ≤ reachBytes) = true := hsz0
  clear hsz0
  have hval : ∀ (j : Nat) t v, Try.f3.params[j]? = some t → args[j]? = some v → Value.okWide Try.prog W .any base t v := hval0
  have hW' := hW
  obtain ⟨p, q, hA0, hV, rfl, hfz, hnd⟩ := hW
  have hA : DataW.TrodAll enc Try.prog W 0 (fun _ => true) true Try.f3.params.toList args.toList ds p := hA0
  rw [Try.params3] at hA hval hsz
  obtain ⟨v0, vs0, d0, ds0, p0, q0, hargs, rfl, rfl, h0, r0⟩ := trodAll_cons hA
  obtain ⟨v1, vs1, d1, ds1, p1, q1, rfl, rfl, rfl, h1, r1⟩ := trodAll_cons r0
  obtain ⟨v2, vs2, d2, ds2, p2, q2, rfl, rfl, rfl, h2, r2⟩ := trodAll_cons r1
  obtain ⟨rfl, rfl, rfl⟩ := trodAll_nil r2
  obtain rfl : args = #[v0, v1, v2] := by cases args; simp_all
  obtain ⟨rfl, rfl⟩ := trodVars_none hV
  have lt0 : ∀ x ∈ p0, x.block < W.heap.size := by obtain ⟨m, hm⟩ := h0; exact DataW.trod_lt m _ _ _ hm
  obtain ⟨x0, hx0⟩ := open_InInt Try.underlying3 (hval 0 3 v0 rfl rfl) h0 (light_each (j := 0) hsz rfl rfl)
  have lt1 : ∀ x ∈ p1, x.block < W.heap.size := by obtain ⟨m, hm⟩ := h1; exact DataW.trod_lt m _ _ _ hm
  obtain ⟨x1, hx1⟩ := open_InInt Try.underlying3 (hval 1 3 v1 rfl rfl) h1 (light_each (j := 1) hsz rfl rfl)
  have lt2 : ∀ x ∈ p2, x.block < W.heap.size := by obtain ⟨m, hm⟩ := h2; exact DataW.trod_lt m _ _ _ hm
  obtain ⟨x2, hx2⟩ := open_InU32s Try.underlying22 Try.underlying39 (by kernel_rfl) (by kernel_rfl) (hval 2 22 v2 rfl rfl) h2 (light_each (j := 2) hsz rfl rfl)
  clear hA0 hval0
  refine (walk_SieveMakes v0 v1 v2 x0 x1 x2 W hx0 hx1 hx2).mono fun e W' ⟨he, bel⟩ => ?_
  subst he
  exact ⟨_, rfl, _, _, _, [], _, [], hW', trodAll_mk1 (shut_bool Try.underlying4 _), (trodAll_cons_mk (Below.trod laidOut (by kernel_rfl) (of_decide_eq_true (by kernel_rfl)) h0 bel lt0) (trodAll_cons_mk (Below.trod laidOut (by kernel_rfl) (of_decide_eq_true (by kernel_rfl)) h1 bel lt1) (trodAll_cons_mk (Below.trod laidOut (by kernel_rfl) (of_decide_eq_true (by kernel_rfl)) h2 bel lt2) trodAll_mk0))), rfl, bel.frame _, fun h => by cases h⟩

theorem over_SieveMakes : Rows.sieveMakesRow.holds Try.pinned (OpenSpec.ofChange Rows.sieveMakesSpec) :=
  OpenClaim.holds_of_wide 3 Try.f3 rfl rfl rfl rfl rfl rfl rfl ⟨rfl, rfl, rfl, rfl, rfl⟩ rfl rfl rfl rfl rfl (by kernel_rfl) Try.func3 (by kernel_rfl)
    (of_decide_eq_true (by kernel_rfl)) (by unfold Func.isWrapper; first | (rw [if_pos (by decide +kernel)]; kernel_rfl) | (rw [if_neg (by decide +kernel)]; exact ⟨rfl, rfl⟩))
    (fun os started H enc _ => lifted_SieveMakes os started H enc)

/-- the statement -/
theorem holds_SieveMakes : Rows.SieveMakesSaid := over_SieveMakes
#print axioms holds_SieveMakes

end Go.Proofs.Ytmjkkmmgbndcoaa
