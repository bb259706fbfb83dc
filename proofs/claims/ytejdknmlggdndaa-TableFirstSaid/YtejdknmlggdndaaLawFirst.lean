/- clevislaw08.TableFirst. -/
import Derived.Test.YtejdknmlggdndaaFirst
namespace Go.Proofs.Ytejdknmlggdndaa
open Go.ChangeShapes Go.WideShapes Go.ChangeAt Go.RowKit Pl
set_option linter.unusedVariables false

set_option maxRecDepth 100000 in
set_option maxHeartbeats 3200000 in
theorem walk_TableFirst (v0 v1 v2 : Value) (t : Tb) (r : Sym) (l : List Sym) (w : World) (h0 : InTb w v0 t) (h1 : InSym w v1 r) (h2 : InSyms w v2 l) :
    Calls Try.prog 7 #[v0, v1, v2] w fun e w' => e = .returned (.bool true) ∧ Below w.heap.size w w' := by
  obtain ⟨A, c, rfl, hA, hf, hl, hlc, hcm⟩ := h2
  obtain ⟨rfl, hr⟩ := h1
  obtain ⟨rfl, ht⟩ := h0
  have HRT := Lib.hid (fun w' hx => right_any t A c l w' (ht.ext (show Ext w w' from hx)) (Ext.rdy hx hA) hf hl)
  have HFF := Lib.hid (fun h => right_full t l h)
  have HFA := Lib.hid (fun w' hx hb => find_any t r A c l w' (ht.ext (show Ext w w' from hx)) hr (Ext.rdy hx hA) hl hb)
  have HFC := Lib.hid (fun w' hx => rfirst_any r A c l w' (Ext.rdy (show Ext w w' from hx) hA) hl)
  have HFI := Lib.hid (fun h1 h2 h3 => find_first t r l h1 h2 h3)
  have hfb := fromP_bd r l 0 (Nat.zero_le _)
  rw [← fromP_zero] at hfb
  have hb24 := ht.blen
  clear hA hf ht hr
  unfold RtP at HRT
  generalize rightT t l = rt at *
  generalize hfp : findP t r l = fp at *
  clear hfp
  generalize firstP r l = rP at *
  obtain ⟨fi, fn⟩ := fp
  obtain ⟨BA, bc, bs, WA, wc, ws, sh⟩ := t
  obtain ⟨rname, rver, rold, rkind, rweak, rvis, rdefd, rval, rsize⟩ := r
  simp only [Tb.vals, Sym.vals] at *
  go_enter Try.func7, Try.ntmps7
  go_wp2_with fail
  have hbx := box2 w #[.slice BA bs.length bc, .slice WA ws.length wc, .int .i64 sh] #[.string rname, .string rver, .bool rold, .int .i64 rkind, .bool rweak, .int .i64 rvis, .bool rdefd, .int .i64 rval, .int .i64 rsize] 29 43
  obtain ⟨hb1, hb2, hxb⟩ := hbx
  generalize (w.alloc (.cells #[.slice BA bs.length bc, .slice WA ws.length wc, .int .i64 sh] 29)).alloc (.cells #[.string rname, .string rver, .bool rold, .int .i64 rkind, .bool rweak, .int .i64 rvis, .bool rdefd, .int .i64 rval, .int .i64 rsize] 43) = wb at *
  refine (awake_any _).mono ?_
  rintro e w1 ⟨rfl, hx1⟩
  have HX1 := Lib.hid (hxb.trans hx1)
  have ht1 := hx1.blk hb1
  have hr1 := hx1.blk hb2
  have HT1 := Lib.hid ht1
  have HR1 := Lib.hid hr1
  have t0 : w1.cell? ⟨w.heap.size, 0, none⟩ = some (.slice BA bs.length bc) := ht1.cell 0 rfl
  have t1 : w1.cell? ⟨w.heap.size, 1, none⟩ = some (.slice WA ws.length wc) := ht1.cell 1 rfl
  have t2 : w1.cell? ⟨w.heap.size, 2, none⟩ = some (.int .i64 sh) := ht1.cell 2 rfl
  clear hb1 hb2 hxb hx1 ht1 hr1
  go_wp2_with fail
  refine (HRT.out w1 HX1.out).mono ?_
  rintro e w2 ⟨rfl, hx2⟩
  have HX2 := Lib.hid (HX1.out.trans hx2)
  replace t0 := hx2.cell t0
  replace t1 := hx2.cell t1
  replace t2 := hx2.cell t2
  obtain ⟨n0, n1, n2, n3, n4, n5, n6, n7, n8⟩ := (hx2.blk HR1.out).nine
  have HR2 := Lib.hid (hx2.blk HR1.out)
  clear HR1 HT1 HRT
  cases rt
  · simp only [Bool.false_eq_true, if_false]
    go_wp2
    go_ret
    exact ⟨rfl, HX2.out⟩
  · obtain ⟨f1, f2, f3, f4, f5⟩ := HFF.out rfl
    obtain ⟨f6, f7⟩ := HFI.out f1 f4 f5
    subst f6
    simp only [if_true]
    clear HFF HFI f4 f5
    go_wp2_with fail
    refine (HFA.out w2 HX2.out (by omega)).mono ?_
    rintro e w3 ⟨rfl, hx3⟩
    have HX3 := Lib.hid (HX2.out.trans hx3)
    obtain ⟨m0, m1, m2, m3, m4, m5, m6, m7, m8⟩ := (hx3.blk HR2.out).nine
    clear t0 t1 t2 n0 n1 n2 n3 n4 n5 n6 n7 n8 HFA HX2
    go_wp2_with fail
    refine (HFC.out w3 HX3.out).mono ?_
    rintro e w4 ⟨rfl, hx4⟩
    by_cases hz : fi < 0
    · go_wp2
      go_ret
      exact ⟨rfl, HX3.out.trans hx4⟩
    · have hn1 := f7 (by omega)
      go_wp2
      go_ret
      refine ⟨retv ?_, HX3.out.trans hx4⟩
      show Value.bool (decide (fi < 0) || decide ((1 : Int) ≤ fn)) = _
      rw [decide_eq_true (by omega : (1 : Int) ≤ fn), Bool.or_true]

set_option maxRecDepth 100000 in
theorem lifted_TableFirst (os : Os) (started : os.Started) (H : Type) (enc : TypeId × Value → H) :
    ReturnsInHanded {} Try.checked os 7 .any (Rows.tableFirstSpec.pre6 enc Try.prog Try.f7 Rows.tableFirstRow.domain false) (Rows.tableFirstSpec.post enc Try.prog Try.f7 false true false false) := by
  refine returnsInHanded_of_change_sized (C := Try.checked) own started (by kernel_rfl) Try.func7
    (ChangeSpec.witness6 (enc := enc) (C := Try.checked) false ⟨#[], #[.agg #[.slice none 0 0, .slice none 0 0, .int .i64 0], .agg #[.string ByteArray.empty, .string ByteArray.empty, .bool false, .int .i64 0, .bool false, .int .i64 0, .bool false, .int .i64 0, .int .i64 0], .slice none 0 0], []⟩ 8 (by kernel_rfl) (by kernel_rfl) (by kernel_rfl) (by kernel_rfl)) ?_
  intro W base args ds gs before hval0 hW hcnd hsz0 _
  have hsz : (DataW.weightsEach Try.prog (Try.f7.params.toList ++ Rows.tableFirstSpec.plain.varTypes Try.prog) (ds ++ gs)).all (· ≤ reachBytes) = true := hsz0
  clear hsz0
  have hval : ∀ (j : Nat) t v, Try.f7.params[j]? = some t → args[j]? = some v → Value.okWide Try.prog W .any base t v := hval0
  have hW' := hW
  obtain ⟨p, q, hA0, hV, rfl, hfz, hnd⟩ := hW
  have hA : DataW.TrodAll enc Try.prog W 0 (fun _ => true) true Try.f7.params.toList args.toList ds p := hA0
  rw [Try.params7] at hA hval hsz
  obtain ⟨v0, vs0, d0, ds0, p0, q0, hargs, rfl, rfl, h0, r0⟩ := trodAll_cons hA
  obtain ⟨v1, vs1, d1, ds1, p1, q1, rfl, rfl, rfl, h1, r1⟩ := trodAll_cons r0
  obtain ⟨v2, vs2, d2, ds2, p2, q2, rfl, rfl, rfl, h2, r2⟩ := trodAll_cons r1
  obtain ⟨rfl, rfl, rfl⟩ := trodAll_nil r2
  obtain rfl : args = #[v0, v1, v2] := by cases args; simp_all
  obtain ⟨rfl, rfl⟩ := trodVars_none hV
  have lt0 : ∀ x ∈ p0, x.block < W.heap.size := by obtain ⟨m, hm⟩ := h0; exact DataW.trod_lt m _ _ _ hm
  obtain ⟨x0, hx0⟩ := open_InTb (hval 0 29 v0 rfl rfl) h0 (light_each (j := 0) hsz rfl rfl)
  have lt1 : ∀ x ∈ p1, x.block < W.heap.size := by obtain ⟨m, hm⟩ := h1; exact DataW.trod_lt m _ _ _ hm
  obtain ⟨x1, hx1⟩ := open_InSym (hval 1 43 v1 rfl rfl) h1 (light_each (j := 1) hsz rfl rfl)
  have lt2 : ∀ x ∈ p2, x.block < W.heap.size := by obtain ⟨m, hm⟩ := h2; exact DataW.trod_lt m _ _ _ hm
  obtain ⟨x2, hx2⟩ := open_InSyms (hval 2 22 v2 rfl rfl) h2 (light_each (j := 2) hsz rfl rfl)
  clear hA0 hval0
  refine (walk_TableFirst v0 v1 v2 x0 x1 x2 W hx0 hx1 hx2).mono fun e W' ⟨he, bel⟩ => ?_
  subst he
  exact ⟨_, rfl, _, _, _, [], _, [], hW', trodAll_mk1 (shut_bool Try.underlying4 _), (trodAll_cons_mk (Below.trod laidOut (by kernel_rfl) (of_decide_eq_true (by kernel_rfl)) h0 bel lt0) (trodAll_cons_mk (Below.trod laidOut (by kernel_rfl) (of_decide_eq_true (by kernel_rfl)) h1 bel lt1) (trodAll_cons_mk (Below.trod laidOut (by kernel_rfl) (of_decide_eq_true (by kernel_rfl)) h2 bel lt2) trodAll_mk0))), rfl, bel.frame _, fun h => by cases h⟩

theorem over_TableFirst : Rows.tableFirstRow.holds Try.pinned (OpenSpec.ofChange Rows.tableFirstSpec) :=
  OpenClaim.holds_of_wide 7 Try.f7 rfl rfl rfl rfl rfl rfl rfl ⟨rfl, rfl, rfl, rfl, rfl⟩ rfl rfl rfl rfl rfl (by kernel_rfl) Try.func7 (by kernel_rfl)
    (of_decide_eq_true (by kernel_rfl)) (by unfold Func.isWrapper; first | (rw [if_pos (by decide +kernel)]; kernel_rfl) | (rw [if_neg (by decide +kernel)]; exact ⟨rfl, rfl⟩))
    (fun os started H enc _ => lifted_TableFirst os started H enc)

/-- the statement -/
theorem holds_TableFirst : Rows.TableFirstSaid := over_TableFirst
#print axioms holds_TableFirst

end Go.Proofs.Ytejdknmlggdndaa
