/- SieveLacks: what any filter lacks is what the reference says. No condition. -/
import Derived.Test.YtmjkkmmgbndcoaaOpen
import Derived.Test.YtmjkkmmgbndcoaaSieve5
import Derived.Test.YtmjkkmmgbndcoaaSieve6
import Derived.Deep.RegionHeld3
namespace Go.Proofs.Ytmjkkmmgbndcoaa
open Go.ChangeShapes Go.WideShapes Go.ChangeAt Go.RowKit Pl
set_option linter.unusedVariables false

/-- what a region keeps: the two cells of a box, and all that was there -/
def Box2 (W0 : World) (b : Nat) (v0 v1 : Value) (w : World) : Prop :=
  w.cell? ⟨b, 0, none⟩ = some v0 ∧ w.cell? ⟨b, 1, none⟩ = some v1 ∧ Hid (Below W0.heap.size W0 w)

theorem Box2.next {W0 w w' : World} {b : Nat} {v0 v1 : Value} (h : w.cell? ⟨b, 0, none⟩ = some v0 ∧ w.cell? ⟨b, 1, none⟩ = some v1 ∧ Hid (Below W0.heap.size W0 w)) (hb : Below w.heap.size w w') :
    w'.cell? ⟨b, 0, none⟩ = some v0 ∧ w'.cell? ⟨b, 1, none⟩ = some v1 ∧ Hid (Below W0.heap.size W0 w') :=
  ⟨ckeep hb h.1 (cell_lt h.1), ckeep hb h.2.1 (cell_lt h.2.1), Lib.hid (h.2.2.out.trans (hb.mono h.2.2.out.size))⟩

theorem lacks_both (A : Option Addr) (cap : Nat) (sh : Int) (h : Nat) (ws : List Nat) (hh : h < 4294967296) (hsh : -9223372036854775808 ≤ sh ∧ sh ≤ 9223372036854775807) (hws : ∀ x ∈ ws, x < 18446744073709551616) (hm : ws.length ≤ maxLen) :
    ∃ L : Bool, ∀ w : World, Rd w A (u64s ws) →
      Calls Try.prog 21 #[.agg #[.slice A ws.length cap, .int .i64 sh], .int .u32 h] w (fun e w' => e = .returned (.bool L) ∧ Below w.heap.size w w') ∧
      Calls Try.prog 22 #[.agg #[.slice A ws.length cap, .int .i64 sh], .int .u32 h] w (fun e w' => e = .returned (.bool L) ∧ Below w.heap.size w w') := by
  cases hr : rightB ws.length sh
  · exact ⟨false, fun w _ => ⟨lacks_no A _ cap sh h w hm hr, refLacks_no A _ cap sh h w hm hr⟩⟩
  · have hbd := rightB_bd hr
    obtain ⟨s, rfl⟩ := Int.eq_ofNat_of_zero_le (by omega : 0 ≤ sh)
    exact ⟨lacksB s ws h, fun w hR => ⟨lacks_yes A cap s h ws w hh hws hR hr, refLacks_yes A cap s h ws w hh hws hR hr⟩⟩

set_option maxHeartbeats 800000 in
theorem walk_SieveLacks (v0 v1 : Value) (x0 : List Nat × Int) (x1 : Nat) (w : World) (h0 : InFilter w v0 x0) (h1 : InU32 w v1 x1) :
    Calls Try.prog 5 #[v0, v1] w fun e w' => e = .returned (.bool true) ∧ Below w.heap.size w w' := by
  obtain ⟨ws, sh⟩ := x0
  obtain ⟨A, cap, rfl, hR, hws, hm, hs0, hs1⟩ := h0
  obtain ⟨rfl, hx1⟩ := h1
  simp only at hR hws hm hs0 hs1 ⊢
  obtain ⟨L, hL⟩ := lacks_both A cap sh x1 ws hx1 ⟨hs0, hs1⟩ hws (by unfold maxLen; omega)
  have HL := Lib.hid hL
  have HR := Lib.hid (hR.below ((Below.refl w.heap.size w).alloc (Nat.le_refl _) (.cells #[.slice A ws.length cap, .int .i64 sh] 26)))
  have jb : Below w.heap.size w (w.alloc (.cells #[.slice A ws.length cap, .int .i64 sh] 26)) := (Below.refl w.heap.size w).alloc (Nat.le_refl _) _
  clear hL hR hws hm
  go_enter Try.func5, Try.ntmps5
  go_wp2_with fail
  have k0 : (w.alloc (.cells #[.slice A ws.length cap, .int .i64 sh] 26)).drew.cell? ⟨w.heap.size, 0, none⟩ = some (.slice A ws.length cap) := cnew w _ _ 0 rfl
  have k1 : (w.alloc (.cells #[.slice A ws.length cap, .int .i64 sh] 26)).drew.cell? ⟨w.heap.size, 1, none⟩ = some (.int .i64 sh) := cnew w _ _ 1 rfl
  have kb : Hid (Below (w.alloc (.cells #[.slice A ws.length cap, .int .i64 sh] 26)).heap.size (w.alloc (.cells #[.slice A ws.length cap, .int .i64 sh] 26)) (w.alloc (.cells #[.slice A ws.length cap, .int .i64 sh] 26)).drew) := Lib.hid (Below.refl _ _).drew
  generalize w.alloc (.cells #[.slice A ws.length cap, .int .i64 sh] 26) = W0 at *
  go_region_held3 (fun w' => w'.cell? ⟨w.heap.size, 0, none⟩ = some (.slice A ws.length cap) ∧ w'.cell? ⟨w.heap.size, 1, none⟩ = some (.int .i64 sh) ∧ Hid (Below W0.heap.size W0 w')) (first | exact ⟨k0, k1, kb⟩ | exact Box2.next (by assumption) (by assumption))
    (first | (go_at_call 12; refine (awake_any _).mono ?_; rintro e w1 ⟨rfl, hb1⟩) | (go_at_call 21; refine (HL.out _ ?_).1.mono ?_; (exact Rd.below HR.out (Hid.out (And.right (And.right (by assumption))))); rintro e w1 ⟨rfl, hb1⟩) | (go_at_call 22; refine (HL.out _ ?_).2.mono ?_; (exact Rd.below HR.out (Hid.out (And.right (And.right (by assumption))))); rintro e w1 ⟨rfl, hb1⟩))
  have hS : Hid (Below W0.heap.size W0 w1) := And.right (And.right (by assumption))
  have hb := jb.trans (hS.out.mono jb.size)
  clear hS
  go_wp2
  go_ret
  exact ⟨rfl, hb⟩

set_option maxRecDepth 100000 in
theorem lifted_SieveLacks (os : Os) (started : os.Started) (H : Type) (enc : TypeId × Value → H) :
    ReturnsInHanded {} Try.checked os 5 .any (Rows.sieveLacksSpec.pre6 enc Try.prog Try.f5 Rows.sieveLacksRow.domain false) (Rows.sieveLacksSpec.post enc Try.prog Try.f5 false true false false) := by
  refine returnsInHanded_of_change_sized (C := Try.checked) own started (by kernel_rfl) Try.func5
    (ChangeSpec.witness6 (enc := enc) (C := Try.checked) false ⟨#[], #[.agg #[.slice none 0 0, .int .i64 0], .int .u32 0], []⟩ 8 (by kernel_rfl) (by kernel_rfl) (by kernel_rfl) (by kernel_rfl)) ?_
  intro W base args ds gs before hval0 hW hcnd hsz0 _
  have hsz : (DataW.weightsEach Try.prog (Try.f5.params.toList ++ Rows.sieveLacksSpec.plain.varTypes Try.prog) (ds ++ gs)).all (· ≤ reachBytes) = true := hsz0
  clear hsz0
  have hval : ∀ (j : Nat) t v, Try.f5.params[j]? = some t → args[j]? = some v → Value.okWide Try.prog W .any base t v := hval0
  have hW' := hW
  obtain ⟨p, q, hA0, hV, rfl, hfz, hnd⟩ := hW
  have hA : DataW.TrodAll enc Try.prog W 0 (fun _ => true) true Try.f5.params.toList args.toList ds p := hA0
  rw [Try.params5] at hA hval hsz
  obtain ⟨v0, vs0, d0, ds0, p0, q0, hargs, rfl, rfl, h0, r0⟩ := trodAll_cons hA
  obtain ⟨v1, vs1, d1, ds1, p1, q1, rfl, rfl, rfl, h1, r1⟩ := trodAll_cons r0
  obtain ⟨rfl, rfl, rfl⟩ := trodAll_nil r1
  obtain rfl : args = #[v0, v1] := by cases args; simp_all
  obtain ⟨rfl, rfl⟩ := trodVars_none hV
  have lt0 : ∀ x ∈ p0, x.block < W.heap.size := by obtain ⟨m, hm⟩ := h0; exact DataW.trod_lt m _ _ _ hm
  obtain ⟨x0, hx0⟩ := open_InFilter (hval 0 26 v0 rfl rfl) h0 (light_each (j := 0) hsz rfl rfl)
  have lt1 : ∀ x ∈ p1, x.block < W.heap.size := by obtain ⟨m, hm⟩ := h1; exact DataW.trod_lt m _ _ _ hm
  obtain ⟨x1, hx1⟩ := open_InU32 Try.underlying39 (hval 1 39 v1 rfl rfl) h1 (light_each (j := 1) hsz rfl rfl)
  clear hA0 hval0
  refine (walk_SieveLacks v0 v1 x0 x1 W hx0 hx1).mono fun e W' ⟨he, bel⟩ => ?_
  subst he
  exact ⟨_, rfl, _, _, _, [], _, [], hW', trodAll_mk1 (shut_bool Try.underlying4 _), (trodAll_cons_mk (Below.trod laidOut (by kernel_rfl) (of_decide_eq_true (by kernel_rfl)) h0 bel lt0) (trodAll_cons_mk (Below.trod laidOut (by kernel_rfl) (of_decide_eq_true (by kernel_rfl)) h1 bel lt1) trodAll_mk0)), rfl, bel.frame _, fun h => by cases h⟩

theorem over_SieveLacks : Rows.sieveLacksRow.holds Try.pinned (OpenSpec.ofChange Rows.sieveLacksSpec) :=
  OpenClaim.holds_of_wide 5 Try.f5 rfl rfl rfl rfl rfl rfl rfl ⟨rfl, rfl, rfl, rfl, rfl⟩ rfl rfl rfl rfl rfl (by kernel_rfl) Try.func5 (by kernel_rfl)
    (of_decide_eq_true (by kernel_rfl)) (by unfold Func.isWrapper; first | (rw [if_pos (by decide +kernel)]; kernel_rfl) | (rw [if_neg (by decide +kernel)]; exact ⟨rfl, rfl⟩))
    (fun os started H enc _ => lifted_SieveLacks os started H enc)

/-- the statement -/
theorem holds_SieveLacks : Rows.SieveLacksSaid := over_SieveLacks
#print axioms holds_SieveLacks

end Go.Proofs.Ytmjkkmmgbndcoaa
