/- clevislaw14.ScopeLooks, where what comes in is of bulk at most 1048576. -/
import Derived.Test.YtcjmngonpijeiaaAwk14
import Derived.Test.YtcjmngonpijeiaaRLin
import Derived.Test.YtcjmngonpijeiaaRLook
import Derived.Deep.CondSized
namespace Go.Proofs.Ytcjmngonpijeiaa
set_option maxRecDepth 100000
open Go.ChangeShapes Go.WideShapes Go.ChangeAt Go.RowKit Go.Joins Pl
set_option linter.unusedVariables false

theorem le_sumL : ∀ {l : List Nat} {x : Nat}, x ∈ l → x ≤ l.sum
  | [], x, h => by cases h
  | y :: r, x, h => by
    rw [List.sum_cons]
    rcases List.mem_cons.1 h with rfl | h
    · omega
    · have := le_sumL h
      omega

set_option maxRecDepth 100000 in
set_option maxHeartbeats 1600000 in
theorem same13_any (ns : List Int) (A B : Option Addr) (c d n : Nat) (w : World) (hn : ns.length = n) (hb : n ≤ 140737488351232) (hA : Rd w A (ints ns)) (hB : Rd w B (ints ns)) :
    Calls Try.prog 16 #[.slice A n c, .slice B n d] w fun e w' => e = .returned (.bool true) ∧ Ext w w' := by
  have HN := Lib.hid hn
  have HA := Lib.hid hA
  have HB := Lib.hid hB
  clear hn hA hB
  have hne : ((n : Int) != (n : Int)) = false := bne_self_eq_false _
  go_enter Try.func16, Try.ntmps16
  go_wp2_with fail
  clear hne
  go_loopw [5] (fun i wr => ∃ k : Nat, k ≤ n ∧ i = .int .i64 k ∧ Ext w wr) (fun i _ => n - (intOf i).toNat)
  case atStart => exact ⟨0, Nat.zero_le _, rfl, Ext.refl _⟩
  case round =>
    obtain ⟨k, hk, rfl, hx⟩ := hrel
    have HX := Lib.hid hx
    clear hx
    by_cases hlt : k < n
    · obtain ⟨ab, ao, hA1, _, ha⟩ := HA.out.int (i := k) (by rw [HN.out]; exact hlt)
      obtain ⟨bb, bo, hB1, _, hb⟩ := HB.out.int (i := k) (by rw [HN.out]; exact hlt)
      subst hA1 hB1
      replace ha := HX.out.cell ha
      replace hb := HX.out.cell hb
      generalize ns.getD k 0 = x at *
      have e1 : ∀ u : EW wr, u.w.cell? _ = _ := fun u => u.cell ha
      have e2 : ∀ u : EW wr, u.w.cell? _ = _ := fun u => u.cell hb
      clear ha hb
      have hxx : (x != x) = false := bne_self_eq_false _
      go_wp2_with fail
      refine wp_region_ext (by kernel_rfl) (by kernel_rfl) ?_
      repeat (go_big_quiet_step (fail))
      refine wpQuiet_nil ?_
      rintro w9 ⟨u9, rfl⟩
      go_wp2
      go_roundw
      case rel => exact ⟨k + 1, by omega, by go_num, HX.out.trans u9.ext⟩
      case measure => simp [intOf]; omega
    · go_wp2
      go_ret
      exact ⟨rfl, HX.out⟩

set_option maxRecDepth 100000 in
set_option maxHeartbeats 3200000 in
theorem walk_ScopeLooks (v0 v1 v2 : Value) (r : Sym) (skip : Int) (ims : List Im) (w : World) (h0 : InSym w v0 r) (h1 : InInt w v1 skip) (h2 : InImgs w v2 ims) (hk : 1 + (1 + ((ims.map fun m => m.t.bs.length).sum + 1 + 0)) ≤ 1048576) :
    Calls Try.prog 3 #[v0, v1, v2] w fun e w' => e = .returned (.bool true) ∧ Below w.heap.size w w' := by
  obtain ⟨A, c, rfl, hI, hlc, hcm⟩ := h2
  obtain ⟨rfl, hs0, hs1⟩ := h1
  obtain ⟨rfl, hr⟩ := h0
  have hb : ∀ m ∈ ims, m.t.bs.length < 4294967296 := fun m hm => by
    have := le_sumL (List.mem_map_of_mem (f := fun m : Im => m.t.bs.length) hm)
    omega
  have HA := Lib.hid (fun w' (hx : Ext w w') => look_any r skip A c ims w' hr (hI.ext hx) hb)
  have HB := Lib.hid (fun w' (hx : Ext w w') => rlook_any r skip A c ims w' hr (hI.ext hx) hb)
  have HLN : Hid ((lookN r skip ims).length = ims.length) := Lib.hid (by
    unfold lookN
    split <;> exact cntK_len _ _ _ _)
  have hil := hI.len
  clear hI hr hb hk
  unfold LkP at HA HB
  generalize lookF r skip ims = lf at *
  generalize lookN r skip ims = ln at *
  obtain ⟨fi, fk, fb⟩ := lf
  simp only at HA HB
  obtain ⟨rname, rver, rold, rkind, rweak, rvis, rdefd, rval, rsize⟩ := r
  simp only [Sym.vals] at HA HB ⊢
  go_enter Try.func3, Try.ntmps3
  go_wp2_with fail
  have hb1 : Blk (w.alloc (.cells #[.string rname, .string rver, .bool rold, .int .i64 rkind, .bool rweak, .int .i64 rvis, .bool rdefd, .int .i64 rval, .int .i64 rsize] 25)) w.heap.size 25 #[.string rname, .string rver, .bool rold, .int .i64 rkind, .bool rweak, .int .i64 rvis, .bool rdefd, .int .i64 rval, .int .i64 rsize] := Blk.new _ _ _
  have hxb := Ext.alloc w (.cells #[.string rname, .string rver, .bool rold, .int .i64 rkind, .bool rweak, .int .i64 rvis, .bool rdefd, .int .i64 rval, .int .i64 rsize] 25)
  generalize w.alloc (.cells #[.string rname, .string rver, .bool rold, .int .i64 rkind, .bool rweak, .int .i64 rvis, .bool rdefd, .int .i64 rval, .int .i64 rsize] 25) = wb at *
  refine (awake14_any _).mono ?_
  rintro e w1 ⟨rfl, hx1⟩
  have HX1 := Lib.hid (hxb.trans hx1)
  have HR := Lib.hid (hx1.blk hb1)
  obtain ⟨q0, q1, q2, q3, q4, q5, q6, q7, q8⟩ := HR.out.nine
  clear hb1 hxb hx1
  go_wp2_with fail
  refine (HA.out _ HX1.out).mono ?_
  rintro e w2 ⟨n1, rfl, ho1, hx2⟩
  obtain ⟨A1, c1, rfl⟩ := own_slice ho1
  have HO1 := Lib.hid ho1
  have HX2 := Lib.hid hx2
  clear q0 q1 q2 q3 q4 q5 q6 q7 q8 ho1 hx2
  have hrl := (HX2.out.blk HR.out).lt
  obtain ⟨q0, q1, q2, q3, q4, q5, q6, q7, q8⟩ := (HX2.out.blk HR.out).nine
  go_wp2_with fail
  have hkf := Blk.new w2 29 #[.int .i64 fi, .int .i64 fk, .bool fb]
  have hxf := Ext.alloc w2 (.cells #[.int .i64 fi, .int .i64 fk, .bool fb] 29)
  generalize w2.alloc (.cells #[.int .i64 fi, .int .i64 fk, .bool fb] 29) = w3 at *
  generalize w2.heap.size = t8 at *
  refine (HB.out _ (HX1.out.trans (HX2.out.trans hxf))).mono ?_
  rintro e w4 ⟨n2, rfl, ho2, hx4⟩
  obtain ⟨A2, c2, rfl⟩ := own_slice ho2
  have HO2 := Lib.hid ho2
  have HX4 := Lib.hid (hxf.trans hx4)
  have HKF := Lib.hid (hx4.blk hkf)
  clear q0 q1 q2 q3 q4 q5 q6 q7 q8 ho2 hx4 hxf hkf hrl
  have r0 : w4.cell? ⟨t8, 0, none⟩ = some (.int .i64 fi) := HKF.out.cell 0 rfl
  have r1 : w4.cell? ⟨t8, 1, none⟩ = some (.int .i64 fk) := HKF.out.cell 1 rfl
  have r2 : w4.cell? ⟨t8, 2, none⟩ = some (.bool fb) := HKF.out.cell 2 rfl
  have rl : t8 < w4.heap.size := HKF.out.lt
  go_wp2_with fail
  refine (alike_any fi fk fb _).mono ?_
  rintro e w6 ⟨rfl, hx6⟩
  have HX6 := Lib.hid ((Ext.alloc w4 _).trans hx6)
  clear r0 r1 r2 rl hx6
  go_wp2_with fail
  refine (same13_any ln A1 A2 c1 c2 ims.length w6 HLN.out (by omega) (Rd.of_own ((HX4.out.trans HX6.out).own HO1.out)) (Rd.of_own (HX6.out.own HO2.out))).mono ?_
  rintro e w7 ⟨rfl, hx7⟩
  go_wp2
  go_ret
  exact ⟨rfl, HX1.out.trans (HX2.out.trans (HX4.out.trans (HX6.out.trans hx7)))⟩

set_option maxRecDepth 100000 in
theorem liftedU_ScopeLooks (os : Os) (started : os.Started) (H : Type) (enc : TypeId × Value → H) (F : Stop.Interp) :
    ReturnsInHanded {} Try.checked os 3 .any ((Rows.OpenSpec.upto Rows.scopeLooksSpec).pre6 enc Try.prog Try.f3 Rows.scopeLooksUptoRow.domain false) (((Rows.OpenSpec.upto Rows.scopeLooksSpec).at F).post enc Try.prog Try.f3 false true false false) := by
  refine returnsInHanded_of_cond_sized (C := Try.checked) (s := Rows.OpenSpec.upto Rows.scopeLooksSpec) (k := Rows.uptoSmall) rfl own started (by kernel_rfl) Try.func3
    (OpenSpec.witness (enc := enc) (C := Try.checked) (s := Rows.OpenSpec.upto Rows.scopeLooksSpec) (k := Rows.uptoSmall) rfl false ⟨#[], #[.agg #[.string ByteArray.empty, .string ByteArray.empty, .bool false, .int .i64 0, .bool false, .int .i64 0, .bool false, .int .i64 0, .int .i64 0], .int .i64 0, .slice none 0 0], []⟩ 8 (by kernel_rfl) (by kernel_rfl) (by kernel_rfl)
      (x := ([.agg [.lit (.string []), .lit (.string []), .lit (.bool false), .lit (.int .i64 0), .lit (.bool false), .lit (.int .i64 0), .lit (.bool false), .lit (.int .i64 0), .lit (.int .i64 0)], .lit (.int .i64 0), .nil], [], [])) (by kernel_rfl) rfl (by kernel_rfl)) ?_
  intro W base args ds gs before hval0 hW _ hk0 hsz0 _
  have hsz : (DataW.weightsEach Try.prog (Try.f3.params.toList ++ Rows.scopeLooksSpec.plain.varTypes Try.prog) (ds ++ gs)).all (· ≤ reachBytes) = true := hsz0
  clear hsz0
  have hval : ∀ (j : Nat) t v, Try.f3.params[j]? = some t → args[j]? = some v → Value.okWide Try.prog W .any base t v := hval0
  have hW' := hW
  obtain ⟨p, q, hA0, hV, rfl, hfz, hnd⟩ := hW
  have hA : DataW.TrodAll enc Try.prog W 0 (fun _ => true) true Try.f3.params.toList args.toList ds p := hA0
  rw [Try.params3] at hA hval hsz
  obtain ⟨v0, vs0, d0, ds0, p0, q0, hargs, rfl, rfl, h0, r0⟩ := trodAll_cons hA
  obtain ⟨v1, vs1, d1, ds1, p1, q1, rfl, rfl, rfl, h1, r1⟩ := trodAll_cons r0
  obtain ⟨v2, vs2, d2, ds2, p2, q2, rfl, rfl, rfl, h2, r2⟩ := trodAll_cons r1
  obtain ⟨rfl, rfl, rfl⟩ := trodAll_nil r2
  obtain rfl : args = #[v0, v1, v2] := by cases args; simp_all
  obtain ⟨rfl, rfl⟩ := trodVars_none hV
  have hk : Rows.uptoBulkAll [d0, d1, d2] ≤ 1048576 := of_decide_eq_true hk0
  simp only [Rows.uptoBulkAll] at hk
  have lt0 : ∀ x ∈ p0, x.block < W.heap.size := by obtain ⟨m, hm⟩ := h0; exact DataW.trod_lt m _ _ _ hm
  obtain ⟨x0, hx0, hb0⟩ := open_InSymU (hval 0 25 v0 rfl rfl) h0 (light_each (j := 0) hsz rfl rfl)
  have lt1 : ∀ x ∈ p1, x.block < W.heap.size := by obtain ⟨m, hm⟩ := h1; exact DataW.trod_lt m _ _ _ hm
  obtain ⟨x1, hx1, hb1⟩ := open_InIntU (hval 1 3 v1 rfl rfl) h1 (light_each (j := 1) hsz rfl rfl)
  have lt2 : ∀ x ∈ p2, x.block < W.heap.size := by obtain ⟨m, hm⟩ := h2; exact DataW.trod_lt m _ _ _ hm
  obtain ⟨x2, hx2, hb2⟩ := open_InImgsU (hval 2 26 v2 rfl rfl) h2 (light_each (j := 2) hsz rfl rfl)
  clear hA0 hval0
  refine (walk_ScopeLooks v0 v1 v2 x0 x1 x2 W hx0 hx1 hx2 (by omega)).mono fun e W' ⟨he, bel⟩ => ?_
  subst he
  exact ⟨_, rfl, _, _, _, [], _, [], hW', trodAll_mk1 (shut_bool Try.underlying4 _), (trodAll_cons_mk (Below.trod laidOut (by kernel_rfl) (of_decide_eq_true (by kernel_rfl)) h0 bel lt0) (trodAll_cons_mk (Below.trod laidOut (by kernel_rfl) (of_decide_eq_true (by kernel_rfl)) h1 bel lt1) (trodAll_cons_mk (Below.trod laidOut (by kernel_rfl) (of_decide_eq_true (by kernel_rfl)) h2 bel lt2) trodAll_mk0))), rfl, bel.frame _, fun h => by cases h⟩

/-- the statement, where what comes in is of bulk at most 1048576 -/
theorem holds_ScopeLooksUpto : Rows.ScopeLooksUptoSaid :=
  OpenClaim.holds_of_cond 3 Try.f3 rfl rfl rfl rfl rfl rfl rfl ⟨rfl, rfl, rfl, rfl, rfl⟩ rfl rfl rfl rfl rfl (by kernel_rfl) Try.func3 (by kernel_rfl)
    (of_decide_eq_true (by kernel_rfl)) (by unfold Func.isWrapper; first | (rw [if_pos (by decide +kernel)]; kernel_rfl) | (rw [if_neg (by decide +kernel)]; exact ⟨rfl, rfl⟩))
    (fun os started H enc _ F => liftedU_ScopeLooks os started H enc F)
#print axioms holds_ScopeLooksUpto

end Go.Proofs.Ytcjmngonpijeiaa
