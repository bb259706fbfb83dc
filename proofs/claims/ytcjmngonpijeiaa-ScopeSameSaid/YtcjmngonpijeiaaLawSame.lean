/- clevislaw14.ScopeSame: by right tables the same is found as by going through all symbols. -/
import Derived.Test.YtcjmngonpijeiaaAwk14
import Derived.Test.YtcjmngonpijeiaaRRt
namespace Go.Proofs.Ytcjmngonpijeiaa
set_option maxRecDepth 100000
open Go.ChangeShapes Go.WideShapes Go.ChangeAt Go.RowKit Go.Joins Pl
set_option linter.unusedVariables false

set_option maxRecDepth 100000 in
set_option maxHeartbeats 3200000 in
theorem walk_ScopeSame (v0 v1 v2 : Value) (r : Sym) (skip : Int) (ims : List Im) (w : World) (h0 : InSym w v0 r) (h1 : InInt w v1 skip) (h2 : InImgs w v2 ims) :
    Calls Try.prog 10 #[v0, v1, v2] w fun e w' => e = .returned (.bool true) ∧ Below w.heap.size w w' := by
  obtain ⟨A, c, rfl, hI, hlc, hcm⟩ := h2
  obtain ⟨rfl, hs0, hs1⟩ := h1
  obtain ⟨rfl, hr⟩ := h0
  have HR := Lib.hid (fun w' (hx : Ext w w') => rright14_any A c ims w' (hI.ext hx))
  have HA : Hid (allR ims = true → ∀ w', Ext w w' → Calls Try.prog 13 #[.agg r.vals.toArray, .int .i64 skip, .slice A ims.length c] w' (LkP r skip ims w')) := Lib.hid (fun ha w' hx => look_any r skip A c ims w' hr (hI.ext hx) (allR_len ha))
  have HB := Lib.hid (fun w' (hx : Ext w w') => linear_any r skip A c ims w' (hI.ext hx))
  have HEQ : Hid (allR ims = true → lookF r skip ims = linF r skip ims) := Lib.hid (fun ha => look_lin ha)
  clear hI hr
  unfold LnP at HB
  unfold LkP at HA
  generalize allR ims = al at *
  generalize linF r skip ims = lf at *
  generalize lookF r skip ims = kf at *
  generalize lookN r skip ims = ln at *
  obtain ⟨fi, fk, fb⟩ := lf
  simp only at HB
  obtain ⟨rname, rver, rold, rkind, rweak, rvis, rdefd, rval, rsize⟩ := r
  simp only [Sym.vals] at HA HB ⊢
  go_enter Try.func10, Try.ntmps10
  go_wp2_with fail
  have hb1 : Blk (w.alloc (.cells #[.string rname, .string rver, .bool rold, .int .i64 rkind, .bool rweak, .int .i64 rvis, .bool rdefd, .int .i64 rval, .int .i64 rsize] 25)) w.heap.size 25 #[.string rname, .string rver, .bool rold, .int .i64 rkind, .bool rweak, .int .i64 rvis, .bool rdefd, .int .i64 rval, .int .i64 rsize] := Blk.new _ _ _
  have hxb := Ext.alloc w (.cells #[.string rname, .string rver, .bool rold, .int .i64 rkind, .bool rweak, .int .i64 rvis, .bool rdefd, .int .i64 rval, .int .i64 rsize] 25)
  generalize w.alloc (.cells #[.string rname, .string rver, .bool rold, .int .i64 rkind, .bool rweak, .int .i64 rvis, .bool rdefd, .int .i64 rval, .int .i64 rsize] 25) = wb at *
  refine (awake14_any _).mono ?_
  rintro e w1 ⟨rfl, hx1⟩
  have HX1 := Lib.hid (hxb.trans hx1)
  have HRB := Lib.hid (hx1.blk hb1)
  clear hb1 hxb hx1
  go_wp2_with fail
  refine (HR.out _ HX1.out).mono ?_
  rintro e w2 ⟨rfl, hx2⟩
  have HX2 := Lib.hid (HX1.out.trans hx2)
  have HRB2 := Lib.hid (hx2.blk HRB.out)
  clear hx2
  cases al
  · go_wp2
    go_ret
    first | exact ⟨rfl, HX2.out⟩ | exact HX2.out
  obtain ⟨q0, q1, q2, q3, q4, q5, q6, q7, q8⟩ := HRB2.out.nine
  have HA2 := Lib.hid (HA.out rfl)
  have hkf : kf = (fi, fk, fb) := HEQ.out rfl
  subst hkf
  simp only at HA2
  clear HA HEQ HR
  go_wp2_with fail
  refine (HA2.out _ HX2.out).mono ?_
  rintro e w3 ⟨n1, rfl, ho1, hx3⟩
  obtain ⟨A1, c1, rfl⟩ := own_slice ho1
  have HX3 := Lib.hid (HX2.out.trans hx3)
  have HRB3 := Lib.hid (hx3.blk HRB2.out)
  clear ho1 hx3 q0 q1 q2 q3 q4 q5 q6 q7 q8
  have hkg := Blk.new w3 29 #[.int .i64 fi, .int .i64 fk, .bool fb]
  have hxg := Ext.alloc w3 (.cells #[.int .i64 fi, .int .i64 fk, .bool fb] 29)
  have HX4 := Lib.hid (HX3.out.trans hxg)
  have HRB4 := Lib.hid (hxg.blk HRB3.out)
  have HKG := Lib.hid hkg
  clear hkg hxg
  go_wp2_with fail
  generalize w3.alloc (.cells #[.int .i64 fi, .int .i64 fk, .bool fb] 29) = w4 at *
  generalize w3.heap.size = t8 at *
  obtain ⟨q0, q1, q2, q3, q4, q5, q6, q7, q8⟩ := HRB4.out.nine
  have f0 : ∀ u : EW w4, u.w.cell? _ = _ := fun u => u.cell q0
  have f1 : ∀ u : EW w4, u.w.cell? _ = _ := fun u => u.cell q1
  have f2 : ∀ u : EW w4, u.w.cell? _ = _ := fun u => u.cell q2
  have f3 : ∀ u : EW w4, u.w.cell? _ = _ := fun u => u.cell q3
  have f4 : ∀ u : EW w4, u.w.cell? _ = _ := fun u => u.cell q4
  have f5 : ∀ u : EW w4, u.w.cell? _ = _ := fun u => u.cell q5
  have f6 : ∀ u : EW w4, u.w.cell? _ = _ := fun u => u.cell q6
  have f7 : ∀ u : EW w4, u.w.cell? _ = _ := fun u => u.cell q7
  have f8 : ∀ u : EW w4, u.w.cell? _ = _ := fun u => u.cell q8
  have g0 : ∀ u : EW w4, u.w.cell? ⟨t8, 0, none⟩ = some (.int .i64 fi) := fun u => u.cell (HKG.out.cell 0 rfl)
  have g1 : ∀ u : EW w4, u.w.cell? ⟨t8, 1, none⟩ = some (.int .i64 fk) := fun u => u.cell (HKG.out.cell 1 rfl)
  have g2 : ∀ u : EW w4, u.w.cell? ⟨t8, 2, none⟩ = some (.bool fb) := fun u => u.cell (HKG.out.cell 2 rfl)
  have HB2 : Hid (∀ u : EW w4, _) := Lib.hid (fun u : EW w4 => HB.out u.w (HX4.out.trans u.ext))
  clear q0 q1 q2 q3 q4 q5 q6 q7 q8 HB HA2
  refine wp_region_ext (by kernel_rfl) (by kernel_rfl) ?_
  repeat (go_big_quiet_step ((go_at_call 26; exact ext_call (HB2.out _))))
  refine wpQuiet_nil ?_
  rintro w9 ⟨u9, rfl⟩
  go_wp2
  go_ret
  first | exact ⟨rfl, HX4.out.trans u9.ext⟩ | exact ⟨retv (by simp), HX4.out.trans u9.ext⟩ | exact HX4.out.trans u9.ext

set_option maxRecDepth 100000 in
theorem lifted_ScopeSame (os : Os) (started : os.Started) (H : Type) (enc : TypeId × Value → H) :
    ReturnsInHanded {} Try.checked os 10 .any (Rows.scopeSameSpec.pre6 enc Try.prog Try.f10 Rows.scopeSameRow.domain false) (Rows.scopeSameSpec.post enc Try.prog Try.f10 false true false false) := by
  refine returnsInHanded_of_change_sized (C := Try.checked) own started (by kernel_rfl) Try.func10
    (ChangeSpec.witness6 (enc := enc) (C := Try.checked) false ⟨#[], #[.agg #[.string ByteArray.empty, .string ByteArray.empty, .bool false, .int .i64 0, .bool false, .int .i64 0, .bool false, .int .i64 0, .int .i64 0], .int .i64 0, .slice none 0 0], []⟩ 8 (by kernel_rfl) (by kernel_rfl) (by kernel_rfl) (by kernel_rfl)) ?_
  intro W base args ds gs before hval0 hW hcnd hsz0 _
  have hsz : (DataW.weightsEach Try.prog (Try.f10.params.toList ++ Rows.scopeSameSpec.plain.varTypes Try.prog) (ds ++ gs)).all (· ≤ reachBytes) = true := hsz0
  clear hsz0
  have hval : ∀ (j : Nat) t v, Try.f10.params[j]? = some t → args[j]? = some v → Value.okWide Try.prog W .any base t v := hval0
  have hW' := hW
  obtain ⟨p, q, hA0, hV, rfl, hfz, hnd⟩ := hW
  have hA : DataW.TrodAll enc Try.prog W 0 (fun _ => true) true Try.f10.params.toList args.toList ds p := hA0
  rw [Try.params10] at hA hval hsz
  obtain ⟨v0, vs0, d0, ds0, p0, q0, hargs, rfl, rfl, h0, r0⟩ := trodAll_cons hA
  obtain ⟨v1, vs1, d1, ds1, p1, q1, rfl, rfl, rfl, h1, r1⟩ := trodAll_cons r0
  obtain ⟨v2, vs2, d2, ds2, p2, q2, rfl, rfl, rfl, h2, r2⟩ := trodAll_cons r1
  obtain ⟨rfl, rfl, rfl⟩ := trodAll_nil r2
  obtain rfl : args = #[v0, v1, v2] := by cases args; simp_all
  obtain ⟨rfl, rfl⟩ := trodVars_none hV
  have lt0 : ∀ x ∈ p0, x.block < W.heap.size := by obtain ⟨m, hm⟩ := h0; exact DataW.trod_lt m _ _ _ hm
  obtain ⟨x0, hx0⟩ := open_InSym (hval 0 25 v0 rfl rfl) h0 (light_each (j := 0) hsz rfl rfl)
  have lt1 : ∀ x ∈ p1, x.block < W.heap.size := by obtain ⟨m, hm⟩ := h1; exact DataW.trod_lt m _ _ _ hm
  obtain ⟨x1, hx1⟩ := open_InInt Try.underlying3 (hval 1 3 v1 rfl rfl) h1 (light_each (j := 1) hsz rfl rfl)
  have lt2 : ∀ x ∈ p2, x.block < W.heap.size := by obtain ⟨m, hm⟩ := h2; exact DataW.trod_lt m _ _ _ hm
  obtain ⟨x2, hx2⟩ := open_InImgs (hval 2 26 v2 rfl rfl) h2 (light_each (j := 2) hsz rfl rfl)
  clear hA0 hval0
  refine (walk_ScopeSame v0 v1 v2 x0 x1 x2 W hx0 hx1 hx2).mono fun e W' ⟨he, bel⟩ => ?_
  subst he
  exact ⟨_, rfl, _, _, _, [], _, [], hW', trodAll_mk1 (shut_bool Try.underlying4 _), (trodAll_cons_mk (Below.trod laidOut (by kernel_rfl) (of_decide_eq_true (by kernel_rfl)) h0 bel lt0) (trodAll_cons_mk (Below.trod laidOut (by kernel_rfl) (of_decide_eq_true (by kernel_rfl)) h1 bel lt1) (trodAll_cons_mk (Below.trod laidOut (by kernel_rfl) (of_decide_eq_true (by kernel_rfl)) h2 bel lt2) trodAll_mk0))), rfl, bel.frame _, fun h => by cases h⟩

theorem over_ScopeSame : Rows.scopeSameRow.holds Try.pinned (OpenSpec.ofChange Rows.scopeSameSpec) :=
  OpenClaim.holds_of_wide 10 Try.f10 rfl rfl rfl rfl rfl rfl rfl ⟨rfl, rfl, rfl, rfl, rfl⟩ rfl rfl rfl rfl rfl (by kernel_rfl) Try.func10 (by kernel_rfl)
    (of_decide_eq_true (by kernel_rfl)) (by unfold Func.isWrapper; first | (rw [if_pos (by decide +kernel)]; kernel_rfl) | (rw [if_neg (by decide +kernel)]; exact ⟨rfl, rfl⟩))
    (fun os started H enc _ => lifted_ScopeSame os started H enc)

/-- the statement -/
theorem holds_ScopeSame : Rows.ScopeSameSaid := over_ScopeSame
#print axioms holds_ScopeSame

end Go.Proofs.Ytcjmngonpijeiaa
