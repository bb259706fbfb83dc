/- clevislaw08.TableFinds, where what comes in is of bulk at most 1048576. -/
import Derived.Test.YtejdknmlggdndaaSameT
import Derived.Test.YtejdknmlggdndaaCop2
import Derived.Test.YtejdknmlggdndaaRFind
import Derived.Test.YtejdknmlggdndaaLawLook
import Derived.Deep.CondSized
namespace Go.Proofs.Ytejdknmlggdndaa
open Go.ChangeShapes Go.WideShapes Go.ChangeAt Go.RowKit Go.Joins Pl
set_option linter.unusedVariables false

section
variable {H : Type} {enc : TypeId × Value → H} {w : World} {base : Nat} {spare : Nat → Bool} {held : Bool} {r : Reach} {b0 : Nat} {v : Value} {d : DataW H} {ps : List MemPlace}
theorem open_InTbU (hval : Value.okWide Try.prog w r b0 29 v) (hd : DataW.Trod enc Try.prog w base spare held 29 v d ps) (hz : Light Try.prog 29 d) : ∃ x, InTb w v x ∧ x.bs.length ≤ Rows.uptoBulk d := by
  obtain ⟨cs, rfl, _⟩ := okWide_struct Try.underlying29 hval
  obtain ⟨fuel, hf⟩ := hd
  obtain ⟨p, h1, h2, h3⟩ := tb_parts hf hz
  refine ⟨p, ⟨?_, h2⟩, h3⟩
  congr 1
  rw [← h1]
  simp [Value.cells]
theorem open_InSymU (hval : Value.okWide Try.prog w r b0 43 v) (hd : DataW.Trod enc Try.prog w base spare held 43 v d ps) (hz : Light Try.prog 43 d) : ∃ x, InSym w v x ∧ 1 ≤ Rows.uptoBulk d := by
  obtain ⟨x, h⟩ := open_InSym hval hd hz
  exact ⟨x, h, bulk_one d⟩
theorem open_InSymsU (hval : Value.okWide Try.prog w r b0 22 v) (hd : DataW.Trod enc Try.prog w base spare held 22 v d ps) (hz : Light Try.prog 22 d) : ∃ x, InSyms w v x ∧ 1 ≤ Rows.uptoBulk d := by
  obtain ⟨x, h⟩ := open_InSyms hval hd hz
  exact ⟨x, h, bulk_one d⟩
end

theorem findP_same (t u : Tb) (r : Sym) (l : List Sym) (h1 : t.bs.map Bk.is = u.bs.map Bk.is) (h2 : t.ws = u.ws) (h3 : t.sh = u.sh) : findP u r l = findP t r l := by
  have hl : u.bs.length = t.bs.length := by have := congrArg List.length h1; simpa using this.symm
  unfold findP Tb.lacks
  rw [← h2, ← h3, hl, map_is_get h1]

set_option maxRecDepth 100000 in
set_option maxHeartbeats 3200000 in
theorem walk_TableFinds (v0 v1 v2 : Value) (t : Tb) (r : Sym) (l : List Sym) (w : World) (h0 : InTb w v0 t) (h1 : InSym w v1 r) (h2 : InSyms w v2 l) (hk : t.bs.length + (1 + (1 + 0)) ≤ 1048576) :
    Calls Try.prog 5 #[v0, v1, v2] w fun e w' => e = .returned (.bool true) ∧ Below w.heap.size w w' := by
  obtain ⟨A, c, rfl, hA, hf, hl, hlc, hcm⟩ := h2
  obtain ⟨rfl, hr⟩ := h1
  obtain ⟨rfl, ht⟩ := h0
  have HT := Lib.hid ht
  have HA := Lib.hid hA
  have HR := Lib.hid hr
  have HCP := Lib.hid (fun w' hx => copied_any t w' (ht.ext (show Ext w w' from hx)))
  have HRF := Lib.hid (fun w' hx => rfind_any t r A c l w' (ht.ext (show Ext w w' from hx)) hr (Ext.rdy hx hA) hl (by omega))
  have HFA := Lib.hid (fun u w' hx hu hb => find_any u r A c l w' hu hr (Ext.rdy (show Ext w w' from hx) hA) hl hb)
  have HFS := Lib.hid (fun u a b d => findP_same t u r l a b d)
  have HSY := Lib.hid (fun u w' hx hu a b d => rtsame_yes u t w' hu (ht.ext (show Ext w w' from hx)) a b d)
  clear hA hf ht hr HT HA HR
  generalize findP t r l = fp at *
  obtain ⟨fi, fn⟩ := fp
  obtain ⟨BA, bc, bs, WA, wc, ws, sh⟩ := t
  obtain ⟨rname, rver, rold, rkind, rweak, rvis, rdefd, rval, rsize⟩ := r
  simp only [Tb.vals, Sym.vals] at *
  go_enter Try.func5, Try.ntmps5
  go_wp2_with fail
  have hbx := box2 w #[.slice BA bs.length bc, .slice WA ws.length wc, .int .i64 sh] #[.string rname, .string rver, .bool rold, .int .i64 rkind, .bool rweak, .int .i64 rvis, .bool rdefd, .int .i64 rval, .int .i64 rsize] 29 43
  obtain ⟨hb1, hb2, hxb⟩ := hbx
  generalize (w.alloc (.cells #[.slice BA bs.length bc, .slice WA ws.length wc, .int .i64 sh] 29)).alloc (.cells #[.string rname, .string rver, .bool rold, .int .i64 rkind, .bool rweak, .int .i64 rvis, .bool rdefd, .int .i64 rval, .int .i64 rsize] 43) = wb at *
  generalize hta : w.heap.size = ta at *
  generalize htr : ta + 1 = tr at *
  clear htr
  refine (awake_any _).mono ?_
  rintro e w1 ⟨rfl, hx1⟩
  have HX1 := Lib.hid (hxb.trans hx1)
  have HT1 := Lib.hid (hx1.blk hb1)
  have HR1 := Lib.hid (hx1.blk hb2)
  clear hb1 hb2 hxb hx1
  have t0 : w1.cell? ⟨ta, 0, none⟩ = some (.slice BA bs.length bc) := HT1.out.cell 0 rfl
  have t1 : w1.cell? ⟨ta, 1, none⟩ = some (.slice WA ws.length wc) := HT1.out.cell 1 rfl
  have t2 : w1.cell? ⟨ta, 2, none⟩ = some (.int .i64 sh) := HT1.out.cell 2 rfl
  go_wp2_with fail
  refine (HCP.out w1 HX1.out).mono ?_
  rintro e w2 ⟨u, rfl, a1, a2, a3, hu, hx2⟩
  have HFU := HFS.out u a1 a2 a3
  have hul : u.bs.length = bs.length := by have := congrArg List.length a1; simpa using this.symm
  clear t0 t1 t2 HCP
  obtain ⟨UA, uc, us, VA, vc, vs, su⟩ := u
  simp only at hul a1 a2 a3 HFU
  simp only [Tb.vals]
  rw [hul]
  have hxa := Ext.alloc w2 (.cells #[.slice UA bs.length uc, .slice VA vs.length vc, .int .i64 su] 29)
  obtain ⟨n0, n1, n2, n3, n4, n5, n6, n7, n8⟩ := ((hx2.trans hxa).blk HR1.out).nine
  have hfa := HFA.out ⟨UA, uc, us, VA, vc, vs, su⟩ _ (HX1.out.trans (hx2.trans hxa)) (hu.ext hxa) (by show us.length < _; omega)
  rw [HFU] at hfa
  simp only [hul] at hfa
  have HFA2 := Lib.hid hfa
  have hsy := fun w' hx hu' => HSY.out ⟨UA, uc, us, VA, vc, vs, su⟩ w' hx hu' a1.symm a2.symm a3.symm
  simp only [hul] at hsy
  have HSY2 := Lib.hid hsy
  have HU := Lib.hid hu
  have HX2 := Lib.hid hx2
  clear hfa hsy HFA HSY HFS HFU a1 a2 a3 hxa hu hx2
  go_wp2_with fail
  have hub : Blk (w2.alloc (.cells #[.slice UA bs.length uc, .slice VA vs.length vc, .int .i64 su] 29)) w2.heap.size 29 #[.slice UA bs.length uc, .slice VA vs.length vc, .int .i64 su] := Blk.new _ _ _
  have hxa := Ext.alloc w2 (.cells #[.slice UA bs.length uc, .slice VA vs.length vc, .int .i64 su] 29)
  generalize w2.alloc (.cells #[.slice UA bs.length uc, .slice VA vs.length vc, .int .i64 su] 29) = w3 at *
  generalize w2.heap.size = ua at *
  refine (HFA2.out).mono ?_
  rintro e w4 ⟨rfl, hx4⟩
  have HX4 := Lib.hid (HX2.out.trans (hxa.trans hx4))
  have HU4 := Lib.hid (hx4.blk hub)
  have HUI := Lib.hid (HU.out.ext (hxa.trans hx4))
  clear n0 n1 n2 n3 n4 n5 n6 n7 n8 hub hxa hx4 HFA2
  obtain ⟨n0, n1, n2, n3, n4, n5, n6, n7, n8⟩ := (HX4.out.blk HR1.out).nine
  have t0 : w4.cell? ⟨ta, 0, none⟩ = some (.slice BA bs.length bc) := (HX4.out.blk HT1.out).cell 0 rfl
  have t1 : w4.cell? ⟨ta, 1, none⟩ = some (.slice WA ws.length wc) := (HX4.out.blk HT1.out).cell 1 rfl
  have t2 : w4.cell? ⟨ta, 2, none⟩ = some (.int .i64 sh) := (HX4.out.blk HT1.out).cell 2 rfl
  go_wp2_with fail
  refine (HRF.out w4 (HX1.out.trans HX4.out)).mono ?_
  rintro e w5 ⟨rfl, hx5⟩
  replace t0 := hx5.cell t0
  replace t1 := hx5.cell t1
  replace t2 := hx5.cell t2
  have u0 : w5.cell? ⟨ua, 0, none⟩ = some (.slice UA bs.length uc) := (hx5.blk HU4.out).cell 0 rfl
  have u1 : w5.cell? ⟨ua, 1, none⟩ = some (.slice VA vs.length vc) := (hx5.blk HU4.out).cell 1 rfl
  have u2 : w5.cell? ⟨ua, 2, none⟩ = some (.int .i64 su) := (hx5.blk HU4.out).cell 2 rfl
  clear n0 n1 n2 n3 n4 n5 n6 n7 n8
  go_wp2_with fail
  refine (HSY2.out w5 (HX1.out.trans (HX4.out.trans hx5)) (HUI.out.ext hx5)).mono ?_
  rintro e w6 ⟨rfl, hx6⟩
  go_wp2
  go_ret
  exact ⟨rfl, HX1.out.trans (HX4.out.trans (hx5.trans hx6))⟩

set_option maxRecDepth 100000 in
theorem liftedU_TableFinds (os : Os) (started : os.Started) (H : Type) (enc : TypeId × Value → H) (F : Stop.Interp) :
    ReturnsInHanded {} Try.checked os 5 .any ((Rows.OpenSpec.upto Rows.tableFindsSpec).pre6 enc Try.prog Try.f5 Rows.tableFindsUptoRow.domain false) (((Rows.OpenSpec.upto Rows.tableFindsSpec).at F).post enc Try.prog Try.f5 false true false false) := by
  refine returnsInHanded_of_cond_sized (C := Try.checked) (s := Rows.OpenSpec.upto Rows.tableFindsSpec) (k := Rows.uptoSmall) rfl own started (by kernel_rfl) Try.func5
    (OpenSpec.witness (enc := enc) (C := Try.checked) (s := Rows.OpenSpec.upto Rows.tableFindsSpec) (k := Rows.uptoSmall) rfl false ⟨#[], #[.agg #[.slice none 0 0, .slice none 0 0, .int .i64 0], .agg #[.string ByteArray.empty, .string ByteArray.empty, .bool false, .int .i64 0, .bool false, .int .i64 0, .bool false, .int .i64 0, .int .i64 0], .slice none 0 0], []⟩ 8 (by kernel_rfl) (by kernel_rfl) (by kernel_rfl)
      (x := ([.agg [.nil, .agg [.nil, .lit (.int .i64 0)]], .agg [.lit (.string []), .lit (.string []), .lit (.bool false), .lit (.int .i64 0), .lit (.bool false), .lit (.int .i64 0), .lit (.bool false), .lit (.int .i64 0), .lit (.int .i64 0)], .nil], [], [])) (by kernel_rfl) rfl (by kernel_rfl)) ?_
  intro W base args ds gs before hval0 hW _ hk0 hsz0 _
  have hsz : (DataW.weightsEach Try.prog (Try.f5.params.toList ++ Rows.tableFindsSpec.plain.varTypes Try.prog) (ds ++ gs)).all (· ≤ reachBytes) = true := hsz0
  clear hsz0
  have hval : ∀ (j : Nat) t v, Try.f5.params[j]? = some t → args[j]? = some v → Value.okWide Try.prog W .any base t v := hval0
  have hW' := hW
  obtain ⟨p, q, hA0, hV, rfl, hfz, hnd⟩ := hW
  have hA : DataW.TrodAll enc Try.prog W 0 (fun _ => true) true Try.f5.params.toList args.toList ds p := hA0
  rw [Try.params5] at hA hval hsz
  obtain ⟨v0, vs0, d0, ds0, p0, q0, hargs, rfl, rfl, h0, r0⟩ := trodAll_cons hA
  obtain ⟨v1, vs1, d1, ds1, p1, q1, rfl, rfl, rfl, h1, r1⟩ := trodAll_cons r0
  obtain ⟨v2, vs2, d2, ds2, p2, q2, rfl, rfl, rfl, h2, r2⟩ := trodAll_cons r1
  obtain ⟨rfl, rfl, rfl⟩ := trodAll_nil r2
  obtain rfl : args = #[v0, v1, v2] := by cases args; simp_all
  obtain ⟨rfl, rfl⟩ := trodVars_none hV
  have hk : Rows.uptoBulkAll [d0, d1, d2] ≤ 1048576 := of_decide_eq_true hk0
  simp only [Rows.uptoBulkAll] at hk
  have lt0 : ∀ x ∈ p0, x.block < W.heap.size := by obtain ⟨m, hm⟩ := h0; exact DataW.trod_lt m _ _ _ hm
  obtain ⟨x0, hx0, hb0⟩ := open_InTbU (hval 0 29 v0 rfl rfl) h0 (light_each (j := 0) hsz rfl rfl)
  have lt1 : ∀ x ∈ p1, x.block < W.heap.size := by obtain ⟨m, hm⟩ := h1; exact DataW.trod_lt m _ _ _ hm
  obtain ⟨x1, hx1, hb1⟩ := open_InSymU (hval 1 43 v1 rfl rfl) h1 (light_each (j := 1) hsz rfl rfl)
  have lt2 : ∀ x ∈ p2, x.block < W.heap.size := by obtain ⟨m, hm⟩ := h2; exact DataW.trod_lt m _ _ _ hm
  obtain ⟨x2, hx2, hb2⟩ := open_InSymsU (hval 2 22 v2 rfl rfl) h2 (light_each (j := 2) hsz rfl rfl)
  clear hA0 hval0
  refine (walk_TableFinds v0 v1 v2 x0 x1 x2 W hx0 hx1 hx2 (by omega)).mono fun e W' ⟨he, bel⟩ => ?_
  subst he
  exact ⟨_, rfl, _, _, _, [], _, [], hW', trodAll_mk1 (shut_bool Try.underlying4 _), (trodAll_cons_mk (Below.trod laidOut (by kernel_rfl) (of_decide_eq_true (by kernel_rfl)) h0 bel lt0) (trodAll_cons_mk (Below.trod laidOut (by kernel_rfl) (of_decide_eq_true (by kernel_rfl)) h1 bel lt1) (trodAll_cons_mk (Below.trod laidOut (by kernel_rfl) (of_decide_eq_true (by kernel_rfl)) h2 bel lt2) trodAll_mk0))), rfl, bel.frame _, fun h => by cases h⟩

/-- the statement, where what comes in is of bulk at most 1048576 -/
theorem holds_TableFindsUpto : Rows.TableFindsUptoSaid :=
  OpenClaim.holds_of_cond 5 Try.f5 rfl rfl rfl rfl rfl rfl rfl ⟨rfl, rfl, rfl, rfl, rfl⟩ rfl rfl rfl rfl rfl (by kernel_rfl) Try.func5 (by kernel_rfl)
    (of_decide_eq_true (by kernel_rfl)) (by unfold Func.isWrapper; first | (rw [if_pos (by decide +kernel)]; kernel_rfl) | (rw [if_neg (by decide +kernel)]; exact ⟨rfl, rfl⟩))
    (fun os started H enc _ F => liftedU_TableFinds os started H enc F)
#print axioms holds_TableFindsUpto

end Go.Proofs.Ytejdknmlggdndaa
