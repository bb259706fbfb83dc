/- clevislaw08.TableRights: whether any table is right for any symbols is what the document says. -/
import Derived.Test.YtejdknmlggdndaaRRight
import Derived.Test.YtejdknmlggdndaaSameT
import Derived.Test.YtejdknmlggdndaaCop2
import Derived.Test.YtejdknmlggdndaaLawLook
namespace Go.Proofs.Ytejdknmlggdndaa
open Go.ChangeShapes Go.WideShapes Go.ChangeAt Go.RowKit Pl
set_option linter.unusedVariables false

theorem rightT_same (t u : Tb) (l : List Sym) (h1 : t.bs.map Bk.is = u.bs.map Bk.is) (h2 : t.ws = u.ws) (h3 : t.sh = u.sh) : rightT u l = rightT t l := by
  have hl : u.bs.length = t.bs.length := by have := congrArg List.length h1; simpa using this.symm
  rw [right_eq, right_eq]
  unfold refR total goodI
  have e1 : ∀ bs : List Bk, (bs.all fun k => incB k.is) = (bs.map Bk.is).all incB := by intro bs; simp [List.all_map, Function.comp_def]
  have e2 : ∀ bs : List Bk, (bs.map fun k => k.is.length) = (bs.map Bk.is).map List.length := by intro bs; simp
  rw [e1, e1, e2, e2, hl, h1, h2, h3]
  congr 2
  congr 1
  funext i
  rw [map_is_get h1]

set_option maxRecDepth 100000 in
set_option maxHeartbeats 3200000 in
theorem walk_TableRights (v0 v1 : Value) (t : Tb) (l : List Sym) (w : World) (h0 : InTb w v0 t) (h1 : InSyms w v1 l) :
    Calls Try.prog 4 #[v0, v1] w fun e w' => e = .returned (.bool true) ∧ Below w.heap.size w w' := by
  obtain ⟨A, c, rfl, hA, hf, hl, hlc, hcm⟩ := h1
  obtain ⟨rfl, ht⟩ := h0
  have HT := Lib.hid ht
  have HA := Lib.hid hA
  have HCP := Lib.hid (fun w' hx => copied_any t w' (ht.ext (show Ext w w' from hx)))
  have HRR := Lib.hid (fun w' hx => rright_any t A c l w' (ht.ext (show Ext w w' from hx)) (Ext.rdy hx hA) hf hl)
  have HRT := Lib.hid (fun u w' hx hu => right_any u A c l w' hu (Ext.rdy (show Ext w w' from hx) hA) hf hl)
  have HFS := Lib.hid (fun u a b d => rightT_same t u l a b d)
  have HSY := Lib.hid (fun u w' hx hu a b d => rtsame_yes u t w' hu (ht.ext (show Ext w w' from hx)) a b d)
  have HEQ := Lib.hid (right_eq t l)
  clear hA ht hf HT HA
  generalize rightT t l = rb at *
  generalize refR t l = rf at *
  obtain rfl : rb = rf := HEQ.out
  clear HEQ
  obtain ⟨BA, bc, bs, WA, wc, ws, sh⟩ := t
  simp only [Tb.vals] at *
  go_enter Try.func4, Try.ntmps4
  go_wp2_with fail
  have hb1 : Blk (w.alloc (.cells #[.slice BA bs.length bc, .slice WA ws.length wc, .int .i64 sh] 29)) w.heap.size 29 #[.slice BA bs.length bc, .slice WA ws.length wc, .int .i64 sh] := Blk.new _ _ _
  have hxb := Ext.alloc w (.cells #[.slice BA bs.length bc, .slice WA ws.length wc, .int .i64 sh] 29)
  generalize w.alloc (.cells #[.slice BA bs.length bc, .slice WA ws.length wc, .int .i64 sh] 29) = wb at *
  generalize hta : w.heap.size = ta at *
  refine (awake_any _).mono ?_
  rintro e w1 ⟨rfl, hx1⟩
  have HX1 := Lib.hid (hxb.trans hx1)
  have HT1 := Lib.hid (hx1.blk hb1)
  clear hb1 hxb hx1
  have t0 : w1.cell? ⟨ta, 0, none⟩ = some (.slice BA bs.length bc) := HT1.out.cell 0 rfl
  have t1 : w1.cell? ⟨ta, 1, none⟩ = some (.slice WA ws.length wc) := HT1.out.cell 1 rfl
  have t2 : w1.cell? ⟨ta, 2, none⟩ = some (.int .i64 sh) := HT1.out.cell 2 rfl
  go_wp2_with fail
  refine (HCP.out w1 HX1.out).mono ?_
  rintro e w2 ⟨u, rfl, a1, a2, a3, hu, hx2⟩
  have HFU := HFS.out u a1 a2 a3
  have hul : u.bs.length = bs.length := by have := congrArg List.length a1; simpa using this.symm
  clear t0 t1 t2 HCP
  obtain ⟨UA, uc, us, VA, vc, vs, su⟩ := u
  simp only at hul a1 a2 a3 HFU
  simp only [Tb.vals]
  rw [hul]
  have hxa := Ext.alloc w2 (.cells #[.slice UA bs.length uc, .slice VA vs.length vc, .int .i64 su] 29)
  have hfa := HRT.out ⟨UA, uc, us, VA, vc, vs, su⟩ _ (HX1.out.trans (hx2.trans hxa)) (hu.ext hxa)
  unfold RtP at hfa
  rw [HFU] at hfa
  simp only [hul] at hfa
  have HFA2 := Lib.hid hfa
  have hsy := fun w' hx hu' => HSY.out ⟨UA, uc, us, VA, vc, vs, su⟩ w' hx hu' a1.symm a2.symm a3.symm
  simp only [hul] at hsy
  have HSY2 := Lib.hid hsy
  have HU := Lib.hid hu
  have HX2 := Lib.hid hx2
  clear hfa hsy HRT HSY HFS HFU a1 a2 a3 hxa hu hx2
  go_wp2_with fail
  have hub : Blk (w2.alloc (.cells #[.slice UA bs.length uc, .slice VA vs.length vc, .int .i64 su] 29)) w2.heap.size 29 #[.slice UA bs.length uc, .slice VA vs.length vc, .int .i64 su] := Blk.new _ _ _
  have hxa := Ext.alloc w2 (.cells #[.slice UA bs.length uc, .slice VA vs.length vc, .int .i64 su] 29)
  generalize w2.alloc (.cells #[.slice UA bs.length uc, .slice VA vs.length vc, .int .i64 su] 29) = w3 at *
  generalize w2.heap.size = ua at *
  refine (HFA2.out).mono ?_
  rintro e w4 ⟨rfl, hx4⟩
  have HX4 := Lib.hid (HX2.out.trans (hxa.trans hx4))
  have HU4 := Lib.hid (hx4.blk hub)
  have HUI := Lib.hid (HU.out.ext (hxa.trans hx4))
  clear hub hxa hx4 HFA2
  have t0 : w4.cell? ⟨ta, 0, none⟩ = some (.slice BA bs.length bc) := (HX4.out.blk HT1.out).cell 0 rfl
  have t1 : w4.cell? ⟨ta, 1, none⟩ = some (.slice WA ws.length wc) := (HX4.out.blk HT1.out).cell 1 rfl
  have t2 : w4.cell? ⟨ta, 2, none⟩ = some (.int .i64 sh) := (HX4.out.blk HT1.out).cell 2 rfl
  cases rb <;> simp only [if_true, if_false, Bool.false_eq_true]
  all_goals
    go_wp2_with fail
    refine (HRR.out w4 (HX1.out.trans HX4.out)).mono ?_
    rintro e w5 ⟨rfl, hx5⟩
    replace t0 := hx5.cell t0
    replace t1 := hx5.cell t1
    replace t2 := hx5.cell t2
    have u0 : w5.cell? ⟨ua, 0, none⟩ = some (.slice UA bs.length uc) := (hx5.blk HU4.out).cell 0 rfl
    have u1 : w5.cell? ⟨ua, 1, none⟩ = some (.slice VA vs.length vc) := (hx5.blk HU4.out).cell 1 rfl
    have u2 : w5.cell? ⟨ua, 2, none⟩ = some (.int .i64 su) := (hx5.blk HU4.out).cell 2 rfl
    go_wp2_with fail
    refine (HSY2.out w5 (HX1.out.trans (HX4.out.trans hx5)) (HUI.out.ext hx5)).mono ?_
    rintro e w6 ⟨rfl, hx6⟩
    go_wp2
    go_ret
    first | exact ⟨rfl, HX1.out.trans (HX4.out.trans (hx5.trans hx6))⟩ | exact HX1.out.trans (HX4.out.trans (hx5.trans hx6))

set_option maxRecDepth 100000 in
theorem lifted_TableRights (os : Os) (started : os.Started) (H : Type) (enc : TypeId × Value → H) :
    ReturnsInHanded {} Try.checked os 4 .any (Rows.tableRightsSpec.pre6 enc Try.prog Try.f4 Rows.tableRightsRow.domain false) (Rows.tableRightsSpec.post enc Try.prog Try.f4 false true false false) := by
  refine returnsInHanded_of_change_sized (C := Try.checked) own started (by kernel_rfl) Try.func4
    (ChangeSpec.witness6 (enc := enc) (C := Try.checked) false ⟨#[], #[.agg #[.slice none 0 0, .slice none 0 0, .int .i64 0], .slice none 0 0], []⟩ 8 (by kernel_rfl) (by kernel_rfl) (by kernel_rfl) (by kernel_rfl)) ?_
  intro W base args ds gs before hval0 hW hcnd hsz0 _
  have hsz : (DataW.weightsEach Try.prog (Try.f4.params.toList ++ Rows.tableRightsSpec.plain.varTypes Try.prog) (ds ++ gs)).all (· ≤ reachBytes) = true := hsz0
  clear hsz0
  have hval : ∀ (j : Nat) t v, Try.f4.params[j]? = some t → args[j]? = some v → Value.okWide Try.prog W .any base t v := hval0
  have hW' := hW
  obtain ⟨p, q, hA0, hV, rfl, hfz, hnd⟩ := hW
  have hA : DataW.TrodAll enc Try.prog W 0 (fun _ => true) true Try.f4.params.toList args.toList ds p := hA0
  rw [Try.params4] at hA hval hsz
  obtain ⟨v0, vs0, d0, ds0, p0, q0, hargs, rfl, rfl, h0, r0⟩ := trodAll_cons hA
  obtain ⟨v1, vs1, d1, ds1, p1, q1, rfl, rfl, rfl, h1, r1⟩ := trodAll_cons r0
  obtain ⟨rfl, rfl, rfl⟩ := trodAll_nil r1
  obtain rfl : args = #[v0, v1] := by cases args; simp_all
  obtain ⟨rfl, rfl⟩ := trodVars_none hV
  have lt0 : ∀ x ∈ p0, x.block < W.heap.size := by obtain ⟨m, hm⟩ := h0; exact DataW.trod_lt m _ _ _ hm
  obtain ⟨x0, hx0⟩ := open_InTb (hval 0 29 v0 rfl rfl) h0 (light_each (j := 0) hsz rfl rfl)
  have lt1 : ∀ x ∈ p1, x.block < W.heap.size := by obtain ⟨m, hm⟩ := h1; exact DataW.trod_lt m _ _ _ hm
  obtain ⟨x1, hx1⟩ := open_InSyms (hval 1 22 v1 rfl rfl) h1 (light_each (j := 1) hsz rfl rfl)
  clear hA0 hval0
  refine (walk_TableRights v0 v1 x0 x1 W hx0 hx1).mono fun e W' ⟨he, bel⟩ => ?_
  subst he
  exact ⟨_, rfl, _, _, _, [], _, [], hW', trodAll_mk1 (shut_bool Try.underlying4 _), (trodAll_cons_mk (Below.trod laidOut (by kernel_rfl) (of_decide_eq_true (by kernel_rfl)) h0 bel lt0) (trodAll_cons_mk (Below.trod laidOut (by kernel_rfl) (of_decide_eq_true (by kernel_rfl)) h1 bel lt1) trodAll_mk0)), rfl, bel.frame _, fun h => by cases h⟩

theorem over_TableRights : Rows.tableRightsRow.holds Try.pinned (OpenSpec.ofChange Rows.tableRightsSpec) :=
  OpenClaim.holds_of_wide 4 Try.f4 rfl rfl rfl rfl rfl rfl rfl ⟨rfl, rfl, rfl, rfl, rfl⟩ rfl rfl rfl rfl rfl (by kernel_rfl) Try.func4 (by kernel_rfl)
    (of_decide_eq_true (by kernel_rfl)) (by unfold Func.isWrapper; first | (rw [if_pos (by decide +kernel)]; kernel_rfl) | (rw [if_neg (by decide +kernel)]; exact ⟨rfl, rfl⟩))
    (fun os started H enc _ => lifted_TableRights os started H enc)

/-- the statement -/
theorem holds_TableRights : Rows.TableRightsSaid := over_TableRights
#print axioms holds_TableRights

end Go.Proofs.Ytejdknmlggdndaa
