/- clevislaw08.TableCounts, and what the document counts. -/
import Derived.Test.YtejdknmlggdndaaAw8
import Derived.Test.YtejdknmlggdndaaMk1
namespace Go.Proofs.Ytejdknmlggdndaa
open Go.ChangeShapes Go.WideShapes Go.ChangeAt Go.RowKit Pl
set_option linter.unusedVariables false

theorem rcount_any (n : Nat) (w : World) (h1 : n ≤ 4611686018427387904) :
    Calls Try.prog 22 #[.int .i64 n] w fun e w' => e = .returned (.int .i64 (cntN n : Nat)) ∧ w = w' := by
  by_cases h0 : n < 1
  · have HC : Hid (cntN n = 1) := Lib.hid (by unfold cntN; rw [if_pos (by omega)])
    go_enter Try.func22, Try.ntmps22
    go_wp2
    go_ret
    exact ⟨retv (by rw [HC.out]; rfl), rfl⟩
  · by_cases hm : (n : Int) % 4 = 0
    · have HC : Hid (cntN n = n / 4) := Lib.hid (by unfold cntN; split <;> omega)
      go_enter Try.func22, Try.ntmps22
      go_wp2
      go_ret
      exact ⟨retv (by rw [HC.out]; rfl), rfl⟩
    · have HC : Hid (cntN n = n / 4 + 1) := Lib.hid (by unfold cntN; split <;> omega)
      go_enter Try.func22, Try.ntmps22
      go_wp2
      go_ret
      exact ⟨retv (by rw [HC.out]; rfl), rfl⟩

theorem walk_TableCounts (v0 : Value) (x0 : Int) (w : World) (h0 : InInt w v0 x0) :
    Calls Try.prog 6 #[v0] w fun e w' => e = .returned (.bool true) ∧ Below w.heap.size w w' := by
  obtain ⟨rfl, hb0, hb1⟩ := h0
  by_cases hbig : 4611686018427387904 < x0
  · go_enter Try.func6, Try.ntmps6
    go_wp2_with fail
    refine (awake_any _).mono ?_
    rintro e w1 ⟨rfl, hx1⟩
    go_wp2
    go_ret
    exact ⟨rfl, hx1⟩
  have HC := Lib.hid (fun w' => count_any x0 w' hb0 (by omega))
  by_cases h4 : x0 ≤ 4
  · have HV : Hid (cntN x0.toNat = 1) := Lib.hid (by unfold cntN; rw [if_pos (by omega)])
    go_enter Try.func6, Try.ntmps6
    go_wp2_with fail
    refine (awake_any _).mono ?_
    rintro e w1 ⟨rfl, hx1⟩
    go_wp2_with fail
    refine (HC.out _).mono ?_
    rintro e w2 ⟨rfl, rfl⟩
    rw [HV.out]
    go_wp2
    go_ret
    exact ⟨rfl, hx1⟩
  · obtain ⟨n, rfl⟩ := Int.eq_ofNat_of_zero_le (by omega : 0 ≤ x0)
    have hk : cntN (n : Int).toNat = (n + 3) / 4 := by unfold cntN; rw [Int.toNat_natCast, if_neg (by omega)]
    have HR : Hid (∀ w', Calls Try.prog 22 #[.int .i64 n] w' fun e w2 => e = .returned (.int .i64 ((n + 3) / 4 : Nat)) ∧ w' = w2) := Lib.hid (fun w' => by
      have := rcount_any n w' (by omega)
      rw [show cntN n = (n + 3) / 4 from hk] at this
      exact this)
    have HV := Lib.hid hk
    clear hk
    go_enter Try.func6, Try.ntmps6
    go_wp2_with fail
    refine (awake_any _).mono ?_
    rintro e w1 ⟨rfl, hx1⟩
    go_wp2_with fail
    refine (HC.out _).mono ?_
    rintro e w2 ⟨rfl, rfl⟩
    rw [HV.out]
    generalize hk : (n + 3) / 4 = k at *
    have hk4 : k ≤ 2305843009213693952 := by omega
    go_wp2_with fail
    refine (HR.out _).mono ?_
    rintro e w3 ⟨rfl, rfl⟩
    go_wp2
    go_ret
    refine ⟨retv ?_, hx1⟩
    show Value.bool (decide (((k : Int) - 1) * 4 < n)) = _
    rw [decide_eq_true (by omega)]

set_option maxRecDepth 100000 in
theorem lifted_TableCounts (os : Os) (started : os.Started) (H : Type) (enc : TypeId × Value → H) :
    ReturnsInHanded {} Try.checked os 6 .any (Rows.tableCountsSpec.pre6 enc Try.prog Try.f6 Rows.tableCountsRow.domain false) (Rows.tableCountsSpec.post enc Try.prog Try.f6 false true false false) := by
  refine returnsInHanded_of_change_sized (C := Try.checked) own started (by kernel_rfl) Try.func6
    (ChangeSpec.witness6 (enc := enc) (C := Try.checked) false ⟨#[], #[.int .i64 0], []⟩ 8 (by kernel_rfl) (by kernel_rfl) (by kernel_rfl) (by kernel_rfl)) ?_
  intro W base args ds gs before hval0 hW hcnd hsz0 _
  have hsz : (DataW.weightsEach Try.prog (Try.f6.params.toList ++ Rows.tableCountsSpec.plain.varTypes Try.prog) (ds ++ gs)).all (· ≤ reachBytes) = true := hsz0
  clear hsz0
  have hval : ∀ (j : Nat) t v, Try.f6.params[j]? = some t → args[j]? = some v → Value.okWide Try.prog W .any base t v := hval0
  have hW' := hW
  obtain ⟨p, q, hA0, hV, rfl, hfz, hnd⟩ := hW
  have hA : DataW.TrodAll enc Try.prog W 0 (fun _ => true) true Try.f6.params.toList args.toList ds p := hA0
  rw [Try.params6] at hA hval hsz
  obtain ⟨v0, vs0, d0, ds0, p0, q0, hargs, rfl, rfl, h0, r0⟩ := trodAll_cons hA
  obtain ⟨rfl, rfl, rfl⟩ := trodAll_nil r0
  obtain rfl : args = #[v0] := by cases args; simp_all
  obtain ⟨rfl, rfl⟩ := trodVars_none hV
  have lt0 : ∀ x ∈ p0, x.block < W.heap.size := by obtain ⟨m, hm⟩ := h0; exact DataW.trod_lt m _ _ _ hm
  obtain ⟨x0, hx0⟩ := open_InInt Try.underlying3 (hval 0 3 v0 rfl rfl) h0 (light_each (j := 0) hsz rfl rfl)
  clear hA0 hval0
  refine (walk_TableCounts v0 x0 W hx0).mono fun e W' ⟨he, bel⟩ => ?_
  subst he
  exact ⟨_, rfl, _, _, _, [], _, [], hW', trodAll_mk1 (shut_bool Try.underlying4 _), (trodAll_cons_mk (Below.trod laidOut (by kernel_rfl) (of_decide_eq_true (by kernel_rfl)) h0 bel lt0) trodAll_mk0), rfl, bel.frame _, fun h => by cases h⟩

theorem over_TableCounts : Rows.tableCountsRow.holds Try.pinned (OpenSpec.ofChange Rows.tableCountsSpec) :=
  OpenClaim.holds_of_wide 6 Try.f6 rfl rfl rfl rfl rfl rfl rfl ⟨rfl, rfl, rfl, rfl, rfl⟩ rfl rfl rfl rfl rfl (by kernel_rfl) Try.func6 (by kernel_rfl)
    (of_decide_eq_true (by kernel_rfl)) (by unfold Func.isWrapper; first | (rw [if_pos (by decide +kernel)]; kernel_rfl) | (rw [if_neg (by decide +kernel)]; exact ⟨rfl, rfl⟩))
    (fun os started H enc _ => lifted_TableCounts os started H enc)

/-- the statement -/
theorem holds_TableCounts : Rows.TableCountsSaid := over_TableCounts
#print axioms holds_TableCounts
end Go.Proofs.Ytejdknmlggdndaa
