/- SieveHashes and SieveParts: the hashes of any texts are the reference's; the hash of two texts is the second one's behind the first one's. No condition. -/
import Derived.Test.YtmjkkmmgbndcoaaOpen
import Derived.Test.YtmjkkmmgbndcoaaSieve5
import Derived.Deep.QuietTactic
import Derived.BigQuiet
namespace Go.Proofs.Ytmjkkmmgbndcoaa
open Go.ChangeShapes Go.WideShapes Go.ChangeAt Go.RowKit Pl
set_option linter.unusedVariables false

set_option maxHeartbeats 400000 in
theorem walk_SieveHashes (v0 v1 : Value) (x0 : Nat) (x1 : ByteArray) (w : World) (h0 : InU32 w v0 x0) (h1 : InStr w v1 x1) :
    Calls Try.prog 7 #[v0, v1] w fun e w' => e = .returned (.bool true) ∧ Below w.heap.size w w' := by
  obtain ⟨rfl, hx0⟩ := h0
  obtain ⟨rfl, hx1'⟩ := h1
  have hx1 : x1.size ≤ maxLen := by unfold maxLen; omega
  clear hx1'
  go_enter Try.func7, Try.ntmps7
  go_wp2_with fail
  refine (awake_any _).mono ?_
  rintro e w1 ⟨rfl, hb1⟩
  go_wp2_with fail
  refine (hash_any _ _ hx1).mono ?_
  rintro e w2 ⟨rfl, rfl⟩
  go_wp2_with fail
  refine (refHash_any _ _ hx1).mono ?_
  rintro e w2 ⟨rfl, rfl⟩
  go_wp2_with fail
  refine (more_any _ _ _ (by omega) (by omega) hx1).mono ?_
  rintro e w2 ⟨rfl, hb2⟩
  go_wp2_with fail
  refine (refMore_any _ _ _ (by omega) (by omega) hx1).mono ?_
  rintro e w3 ⟨rfl, rfl⟩
  go_wp2_with fail
  go_ret
  exact ⟨rfl, hb1.trans (hb2.mono hb1.size)⟩

set_option maxRecDepth 100000 in
theorem lifted_SieveHashes (os : Os) (started : os.Started) (H : Type) (enc : TypeId × Value → H) :
    ReturnsInHanded {} Try.checked os 7 .any (Rows.sieveHashesSpec.pre6 enc Try.prog Try.f7 Rows.sieveHashesRow.domain false) (Rows.sieveHashesSpec.post enc Try.prog Try.f7 false true false false) := by
  refine returnsInHanded_of_change_sized (C := Try.checked) own started (by kernel_rfl) Try.func7
    (ChangeSpec.witness6 (enc := enc) (C := Try.checked) false ⟨#[], #[.int .u32 0, .string ByteArray.empty], []⟩ 8 (by kernel_rfl) (by kernel_rfl) (by kernel_rfl) (by kernel_rfl)) ?_
  intro W base args ds gs before hval0 hW hcnd hsz0 _
  have hsz : (DataW.weightsEach Try.prog (Try.f7.params.toList ++ Rows.sieveHashesSpec.plain.varTypes Try.prog) (ds ++ gs)).all (· ≤ reachBytes) = true := hsz0
  clear hsz0
  have hval : ∀ (j : Nat) t v, Try.f7.params[j]? = some t → args[j]? = some v → Value.okWide Try.prog W .any base t v := hval0
  have hW' := hW
  obtain ⟨p, q, hA0, hV, rfl, hfz, hnd⟩ := hW
  have hA : DataW.TrodAll enc Try.prog W 0 (fun _ => true) true Try.f7.params.toList args.toList ds p := hA0
  rw [Try.params7] at hA hval hsz
  obtain ⟨v0, vs0, d0, ds0, p0, q0, hargs, rfl, rfl, h0, r0⟩ := trodAll_cons hA
  obtain ⟨v1, vs1, d1, ds1, p1, q1, rfl, rfl, rfl, h1, r1⟩ := trodAll_cons r0
  obtain ⟨rfl, rfl, rfl⟩ := trodAll_nil r1
  obtain rfl : args = #[v0, v1] := by cases args; simp_all
  obtain ⟨rfl, rfl⟩ := trodVars_none hV
  have lt0 : ∀ x ∈ p0, x.block < W.heap.size := by obtain ⟨m, hm⟩ := h0; exact DataW.trod_lt m _ _ _ hm
  obtain ⟨x0, hx0⟩ := open_InU32 Try.underlying39 (hval 0 39 v0 rfl rfl) h0 (light_each (j := 0) hsz rfl rfl)
  have lt1 : ∀ x ∈ p1, x.block < W.heap.size := by obtain ⟨m, hm⟩ := h1; exact DataW.trod_lt m _ _ _ hm
  obtain ⟨x1, hx1⟩ := open_InStr Try.underlying9 (hval 1 9 v1 rfl rfl) h1 (light_each (j := 1) hsz rfl rfl)
  clear hA0 hval0
  refine (walk_SieveHashes v0 v1 x0 x1 W hx0 hx1).mono fun e W' ⟨he, bel⟩ => ?_
  subst he
  exact ⟨_, rfl, _, _, _, [], _, [], hW', trodAll_mk1 (shut_bool Try.underlying4 _), (trodAll_cons_mk (Below.trod laidOut (by kernel_rfl) (of_decide_eq_true (by kernel_rfl)) h0 bel lt0) (trodAll_cons_mk (Below.trod laidOut (by kernel_rfl) (of_decide_eq_true (by kernel_rfl)) h1 bel lt1) trodAll_mk0)), rfl, bel.frame _, fun h => by cases h⟩

theorem over_SieveHashes : Rows.sieveHashesRow.holds Try.pinned (OpenSpec.ofChange Rows.sieveHashesSpec) :=
  OpenClaim.holds_of_wide 7 Try.f7 rfl rfl rfl rfl rfl rfl rfl ⟨rfl, rfl, rfl, rfl, rfl⟩ rfl rfl rfl rfl rfl (by kernel_rfl) Try.func7 (by kernel_rfl)
    (of_decide_eq_true (by kernel_rfl)) (by unfold Func.isWrapper; first | (rw [if_pos (by decide +kernel)]; kernel_rfl) | (rw [if_neg (by decide +kernel)]; exact ⟨rfl, rfl⟩))
    (fun os started H enc _ => lifted_SieveHashes os started H enc)

/-- the statement -/
theorem holds_SieveHashes : Rows.SieveHashesSaid := over_SieveHashes
#print axioms holds_SieveHashes

set_option maxHeartbeats 400000 in
theorem walk_SieveParts (v0 v1 : Value) (x0 : ByteArray) (x1 : ByteArray) (w : World) (h0 : InStr w v0 x0) (h1 : InStr w v1 x1) :
    Calls Try.prog 8 #[v0, v1] w fun e w' => e = .returned (.bool true) ∧ Below w.heap.size w w' := by
  obtain ⟨rfl, hx0⟩ := h0
  obtain ⟨rfl, hx1⟩ := h1
  have hsum : x0.size + x1.size ≤ 9223372036854775807 := by omega
  have hm0 : x0.size ≤ maxLen := by unfold maxLen; omega
  have hm1 : x1.size ≤ maxLen := by unfold maxLen; omega
  have hm2 : (x0 ++ x1).size ≤ maxLen := by rw [ByteArray.size_append]; unfold maxLen; omega
  have hbd := hmore_bd 5381 x0.data.toList (by omega) (by omega)
  have HE : Hid (hmore 5381 (x0 ++ x1).data.toList = hmore (hmore 5381 x0.data.toList) x1.data.toList) := by
    show _ = _
    rw [← hmore_append]; simp
  have HM2 := Lib.hid hm2
  clear hm2 hx0 hx1
  go_enter Try.func8, Try.ntmps8
  go_wp2_with fail
  refine (awake_any _).mono ?_
  rintro e w1 ⟨rfl, hb1⟩
  go_wp2_with fail
  refine (hash_any _ _ HM2.out).mono ?_
  rintro e w2 ⟨rfl, rfl⟩
  rw [HE.out]
  go_wp2_with fail
  refine (hash_any _ _ hm0).mono ?_
  rintro e w2 ⟨rfl, rfl⟩
  go_wp2_with fail
  refine (more_any _ _ _ hbd.1 hbd.2 hm1).mono ?_
  rintro e w2 ⟨rfl, hb2⟩
  go_wp2_with fail
  refine (more_any 7 ⟨#[]⟩ _ (by omega) (by omega) (by decide)).mono ?_
  rintro e w3 ⟨rfl, hb3⟩
  have e7 : hmore 7 (ByteArray.mk #[]).data.toList = 7 := rfl
  rw [e7]
  go_wp2_with fail
  go_ret
  exact ⟨rfl, (hb1.trans (hb2.mono hb1.size)).trans (hb3.mono (Nat.le_trans hb1.size hb2.size))⟩

set_option maxRecDepth 100000 in
theorem lifted_SieveParts (os : Os) (started : os.Started) (H : Type) (enc : TypeId × Value → H) :
    ReturnsInHanded {} Try.checked os 8 .any (Rows.sievePartsSpec.pre6 enc Try.prog Try.f8 Rows.sievePartsRow.domain false) (Rows.sievePartsSpec.post enc Try.prog Try.f8 false true false false) := by
  refine returnsInHanded_of_change_sized (C := Try.checked) own started (by kernel_rfl) Try.func8
    (ChangeSpec.witness6 (enc := enc) (C := Try.checked) false ⟨#[], #[.string ByteArray.empty, .string ByteArray.empty], []⟩ 8 (by kernel_rfl) (by kernel_rfl) (by kernel_rfl) (by kernel_rfl)) ?_
  intro W base args ds gs before hval0 hW hcnd hsz0 _
  have hsz : (DataW.weightsEach Try.prog (Try.f8.params.toList ++ Rows.sievePartsSpec.plain.varTypes Try.prog) (ds ++ gs)).all (· ≤ reachBytes) = true := hsz0
  clear hsz0
  have hval : ∀ (j : Nat) t v, Try.f8.params[j]? = some t → args[j]? = some v → Value.okWide Try.prog W .any base t v := hval0
  have hW' := hW
  obtain ⟨p, q, hA0, hV, rfl, hfz, hnd⟩ := hW
  have hA : DataW.TrodAll enc Try.prog W 0 (fun _ => true) true Try.f8.params.toList args.toList ds p := hA0
  rw [Try.params8] at hA hval hsz
  obtain ⟨v0, vs0, d0, ds0, p0, q0, hargs, rfl, rfl, h0, r0⟩ := trodAll_cons hA
  obtain ⟨v1, vs1, d1, ds1, p1, q1, rfl, rfl, rfl, h1, r1⟩ := trodAll_cons r0
  obtain ⟨rfl, rfl, rfl⟩ := trodAll_nil r1
  obtain rfl : args = #[v0, v1] := by cases args; simp_all
  obtain ⟨rfl, rfl⟩ := trodVars_none hV
  have lt0 : ∀ x ∈ p0, x.block < W.heap.size := by obtain ⟨m, hm⟩ := h0; exact DataW.trod_lt m _ _ _ hm
  obtain ⟨x0, hx0⟩ := open_InStr Try.underlying9 (hval 0 9 v0 rfl rfl) h0 (light_each (j := 0) hsz rfl rfl)
  have lt1 : ∀ x ∈ p1, x.block < W.heap.size := by obtain ⟨m, hm⟩ := h1; exact DataW.trod_lt m _ _ _ hm
  obtain ⟨x1, hx1⟩ := open_InStr Try.underlying9 (hval 1 9 v1 rfl rfl) h1 (light_each (j := 1) hsz rfl rfl)
  clear hA0 hval0
  refine (walk_SieveParts v0 v1 x0 x1 W hx0 hx1).mono fun e W' ⟨he, bel⟩ => ?_
  subst he
  exact ⟨_, rfl, _, _, _, [], _, [], hW', trodAll_mk1 (shut_bool Try.underlying4 _), (trodAll_cons_mk (Below.trod laidOut (by kernel_rfl) (of_decide_eq_true (by kernel_rfl)) h0 bel lt0) (trodAll_cons_mk (Below.trod laidOut (by kernel_rfl) (of_decide_eq_true (by kernel_rfl)) h1 bel lt1) trodAll_mk0)), rfl, bel.frame _, fun h => by cases h⟩

theorem over_SieveParts : Rows.sievePartsRow.holds Try.pinned (OpenSpec.ofChange Rows.sievePartsSpec) :=
  OpenClaim.holds_of_wide 8 Try.f8 rfl rfl rfl rfl rfl rfl rfl ⟨rfl, rfl, rfl, rfl, rfl⟩ rfl rfl rfl rfl rfl (by kernel_rfl) Try.func8 (by kernel_rfl)
    (of_decide_eq_true (by kernel_rfl)) (by unfold Func.isWrapper; first | (rw [if_pos (by decide +kernel)]; kernel_rfl) | (rw [if_neg (by decide +kernel)]; exact ⟨rfl, rfl⟩))
    (fun os started H enc _ => lifted_SieveParts os started H enc)

/-- the statement -/
theorem holds_SieveParts : Rows.SievePartsSaid := over_SieveParts
#print axioms holds_SieveParts

end Go.Proofs.Ytmjkkmmgbndcoaa
