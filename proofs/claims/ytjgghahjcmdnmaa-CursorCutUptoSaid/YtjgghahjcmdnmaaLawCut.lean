/- CursorCut: of what was put, with bytes missing at the end, each piece is read back up to the first short one. Said where what comes in is of bulk at most 1048576. -/
import Derived.Test.YtjgghahjcmdnmaaLawBack
namespace Go.Proofs.Ytjgghahjcmdnmaa
open Go.ChangeShapes Go.WideShapes Go.ChangeAt Go.RowKit Pl
set_option linter.unusedVariables false

/-- a round: a piece is whole, or it is short -/
theorem cut_round (p : Pc) (rest : List UInt8) (m : Nat) (hm : m < (pbytes p ++ rest).length)
    (h1 : ∀ r, psame (0, pbytes p ++ r) p = (true, (0, r))) (h2 : ∀ k, k < (pbytes p).length → Short k (psame (0, (pbytes p).take k) p).2) :
    (∃ m', m' ≤ m ∧ m' < rest.length ∧ psame (0, (pbytes p ++ rest).take m) p = (true, (0, rest.take m'))) ∨
    (∃ b T, T.length ≤ m ∧ psame (0, (pbytes p ++ rest).take m) p = (b, (11, T))) := by
  by_cases h : m < (pbytes p).length
  · right
    rw [List.take_append_of_le_length (by omega)]
    have := h2 m h
    generalize psame (0, (pbytes p).take m) p = q at *
    obtain ⟨b, E, T⟩ := q
    obtain ⟨e1, e2⟩ := this
    simp only at e1 e2
    exact ⟨b, T, e2, by rw [e1]⟩
  · left
    rw [List.length_append] at hm
    refine ⟨m - (pbytes p).length, by omega, by omega, ?_⟩
    rw [List.take_append, List.take_of_length_le (by omega)]
    exact h1 _

set_option maxHeartbeats 3200000 in
theorem walk_CursorCut (v0 v1 : Value) (x0 : List Pc) (x1 : Nat) (w : World) (h0 : InPcs w v0 x0) (h1 : InU16 w v1 x1) (hk : bulks x0 + 1 ≤ 1048576) :
    Calls Try.prog 10 #[v0, v1] w fun e w' => e = .returned (.bool true) ∧ Below w.heap.size w w' := by
  obtain ⟨A, ac, rfl, hA, hAi, _⟩ := h0
  obtain ⟨rfl, hx1⟩ := h1
  have HA := Lib.hid hA
  have HAI := Lib.hid hAi
  have hl0 : x0.length ≤ 9223372036854775807 := by have := bulks_len x0; omega
  have hlA := wputs_len x0 (0, [])
  simp only [List.length_nil] at hlA
  have hlg := wgot_len (wputs (0, []) x0)
  clear hA hAi
  go_enter Try.func10, Try.ntmps10
  go_wp2_with fail
  refine (awake_any _).mono ?_
  rintro e w0 ⟨rfl, hx0⟩
  have HX0 := Lib.hid hx0
  clear hx0
  go_wp2_with fail
  refine (written_any A ac x0 w0 (HA.out.ext HX0.out) (fun p hp => (HAI.out p hp).ext HX0.out) (by omega)).mono ?_
  rintro e w1 ⟨A1, c1, rfl, hx1', ho1⟩
  have HX1 := Lib.hid (HX0.out.trans hx1')
  have HO1 := Lib.hid ho1
  clear hx1' HX0 ho1
  by_cases hok : (wputs (0, []) x0).1 = 0
  · have hok' : ((wputs (0, []) x0).1 == 0) = true := by simp [hok]
    obtain ⟨hw, hps⟩ := wputs_ok x0 (fun p hp => (HAI.out p hp).nb) [] hok
    have hg : wgot (wputs (0, []) x0) = pbytesAll x0 := by rw [hw]; simp [wgot]
    rw [hok']
    rw [hg] at HO1 hlg ⊢
    have HPS := Lib.hid hps
    clear hok hok' hw hps hg
    by_cases hpos : 0 < (pbytesAll x0).length
    · obtain ⟨g, c, hv, hg1, hg2, hcl, hcm⟩ := own_at HO1.out hpos
      simp only [Value.slice.injEq] at hv
      obtain ⟨rfl, _, rfl⟩ := hv
      unfold maxLen at hcm
      have HR1 := Lib.hid (Rd.of_own HO1.out)
      obtain ⟨k, hkm, hkl⟩ : ∃ k : Nat, (x1 : Int) % ((pbytesAll x0).length : Int) = (k : Int) ∧ k < (pbytesAll x0).length := ⟨x1 % (pbytesAll x0).length, by omega, Nat.mod_lt _ hpos⟩
      have HRT : Hid (Rd w1 (some ⟨g, 0, none⟩) (u8s ((pbytesAll x0).take k))) := Lib.hid (by rw [u8s_take]; exact HR1.out.take k)
      have HLT : Hid (((pbytesAll x0).take k).length = k) := Lib.hid (by rw [List.length_take]; omega)
      clear HO1 HR1 hg1 hg2
      go_wp2_with fail
      have e0 := HLT.out
      generalize hT : (pbytesAll x0).take k = T at *
      have HT := Lib.hid hT
      clear hT
      subst e0
      refine (newReader_any (some ⟨g, 0, none⟩) c1 T w1 HRT.out (by omega)).mono ?_
      rintro e w2 ⟨q, A2, c2, rfl, hq2, h2, hf2, hx2⟩
      have H2 := Lib.hid (RF.new HX1.out h2 hq2 hf2 hx2)
      clear hq2 h2 hf2 hx2 HX1 HRT
      go_wp2_with fail
      go_loopw [10] (fun i wr => ∃ (j m : Nat) (A' : Option Addr) (c' : Nat), j ≤ x0.length ∧ i = .int .i64 j ∧ m ≤ T.length ∧ m < (pbytesAll (x0.drop j)).length ∧ RF w wr q (0, (pbytesAll (x0.drop j)).take m) A' c') (fun i _ => x0.length - (intOf i).toNat)
      case atStart => exact ⟨0, T.length, A2, c2, Nat.zero_le _, rfl, Nat.le_refl _, hkl, by rw [List.drop_zero, HT.out]; exact H2.out⟩
      case round =>
        clear H2 HT hpos
        obtain ⟨j, m, A', c', hjl, rfl, hmT, hml, hw⟩ := hrel
        have hlt : j < x0.length := by
          rcases Nat.lt_or_ge j x0.length with h | h
          · exact h
          · rw [List.drop_eq_nil_of_le h] at hml
            exact absurd hml (by simp [pbytesAll])
        obtain ⟨b, off, rfl, c0, c1, c2, c3, c4, c5⟩ := HA.out.at hlt
        have hp := HAI.out _ (List.getElem_mem hlt)
        have hps := HPS.out _ (List.getElem_mem hlt)
        have hdr : pbytesAll (x0.drop j) = pbytes x0[j] ++ pbytesAll (x0.drop (j + 1)) := by rw [List.drop_eq_getElem_cons hlt]; rfl
        have hrd := cut_round x0[j] (pbytesAll (x0.drop (j + 1))) m (by rw [← hdr]; exact hml) hps.1 hps.2
        rw [hdr] at hw
        clear hdr hml hps
        generalize x0[j] = p at *
        generalize hrest : pbytesAll (x0.drop (j + 1)) = rest at *
        have HREST := Lib.hid hrest
        clear hrest
        replace c0 := hw.ext.cell c0
        replace c1 := hw.ext.cell c1
        replace c2 := hw.ext.cell c2
        replace c3 := hw.ext.cell c3
        replace c4 := hw.ext.cell c4
        replace c5 := hw.ext.cell c5
        have HW := Lib.hid hw
        have HPI := Lib.hid (hp.ext hw.ext)
        have HPA : Hid (p.Apart (fun i => i = q)) := Lib.hid (hp.apart (fun i hi => by rw [hi]; exact hw.base))
        clear hw hp
        rcases hrd with ⟨m', hm1, hm2, he⟩ | ⟨b', T', hT', he⟩
        · have HE := Lib.hid he
          clear he
          go_wp2_with fail
          refine (same_any q _ A' c' p wr HW.out.st HPI.out HPA.out).mono ?_
          rintro e w3 ⟨rfl, A3, c3', h3⟩
          rw [HE.out] at h3 ⊢
          have H3 := Lib.hid (HW.out.to h3)
          clear h3 HW HPI HPA c0 c1 c2 c3 c4 c5
          go_wp2_with fail
          refine (fault_any q _ A3 c3' w3 H3.out.st).mono ?_
          rintro e w4 ⟨rfl, rfl⟩
          go_wp2
          go_roundw
          case rel => exact ⟨j + 1, m', A3, c3', by omega, by go_num, by omega, by rw [HREST.out]; omega, by rw [HREST.out]; exact H3.out⟩
          case measure => simp [intOf]; omega
        · have HE := Lib.hid he
          clear he
          go_wp2_with fail
          refine (same_any q _ A' c' p wr HW.out.st HPI.out HPA.out).mono ?_
          rintro e w3 ⟨rfl, A3, c3', h3⟩
          rw [HE.out] at h3 ⊢
          have H3 := Lib.hid (HW.out.to h3)
          clear h3 HW HPI HPA c0 c1 c2 c3 c4 c5
          have HB1 : Hid (rpart 2 4096 (11, T') = ([], (11, T'))) := Lib.hid (rpart_stuck _ _ _ (by simp))
          have HB2 : Hid (rnum 1 (11, T') = (0, (11, T'))) := Lib.hid (rnum_stuck _ _ (by simp))
          have HB3 : Hid (rraw 0 (11, T') = ([], (11, T'))) := Lib.hid (rcut_stuck (11, T') 0 (by simp))
          cases b'
          · go_wp2_with fail
            refine (left_any q _ A3 c3' w3 H3.out.st).mono ?_
            rintro e w4 ⟨rfl, rfl⟩
            go_wp2_with fail
            refine (fault_any q _ A3 c3' w3 H3.out.st).mono ?_
            rintro e w4 ⟨rfl, rfl⟩
            go_wp2_with fail
            refine (rtext_any q _ A3 c3' w3 H3.out.st).mono ?_
            rintro e w4 ⟨rfl, A4, c4', h4⟩
            rw [HB1.out] at h4 ⊢
            have H4 := Lib.hid (H3.out.to h4)
            clear h4 H3
            go_wp2_with fail
            refine (rnum_any q _ A4 c4' 1 w4 H4.out.st (by omega)).mono ?_
            rintro e w5 ⟨rfl, A5, c5', h5⟩
            rw [HB2.out] at h5 ⊢
            have H5 := Lib.hid (H4.out.to h5)
            clear h5 H4
            go_wp2_with fail
            refine (rraw_any q _ A5 c5' 0 w5 H5.out.st (by omega) (by omega)).mono ?_
            rw [HB3.out]
            rintro e w6 ⟨v6, A6, c6', rfl, ho6, h6⟩
            obtain ⟨A7, c7, rfl⟩ := own_slice ho6
            have H6 := Lib.hid (H5.out.to h6)
            clear h6 H5 ho6
            go_wp2_with fail
            refine (left_any q _ A6 c6' w6 H6.out.st).mono ?_
            rintro e w7 ⟨rfl, rfl⟩
            go_wp2_with fail
            refine (end_any q _ A6 c6' w6 H6.out.st).mono ?_
            rintro e w7 ⟨rfl, rfl⟩
            rw [show rend (11, T') = 11 from by simp [rend]]
            go_wp2
            go_ret
            exact ⟨rfl, H6.out.ext⟩
          · go_wp2_with fail
            refine (fault_any q _ A3 c3' w3 H3.out.st).mono ?_
            rintro e w4 ⟨rfl, rfl⟩
            go_wp2_with fail
            refine (left_any q _ A3 c3' w3 H3.out.st).mono ?_
            rintro e w4 ⟨rfl, rfl⟩
            go_wp2_with fail
            refine (fault_any q _ A3 c3' w3 H3.out.st).mono ?_
            rintro e w4 ⟨rfl, rfl⟩
            go_wp2_with fail
            refine (rtext_any q _ A3 c3' w3 H3.out.st).mono ?_
            rintro e w4 ⟨rfl, A4, c4', h4⟩
            rw [HB1.out] at h4 ⊢
            have H4 := Lib.hid (H3.out.to h4)
            clear h4 H3
            go_wp2_with fail
            refine (rnum_any q _ A4 c4' 1 w4 H4.out.st (by omega)).mono ?_
            rintro e w5 ⟨rfl, A5, c5', h5⟩
            rw [HB2.out] at h5 ⊢
            have H5 := Lib.hid (H4.out.to h5)
            clear h5 H4
            go_wp2_with fail
            refine (rraw_any q _ A5 c5' 0 w5 H5.out.st (by omega) (by omega)).mono ?_
            rw [HB3.out]
            rintro e w6 ⟨v6, A6, c6', rfl, ho6, h6⟩
            obtain ⟨A7, c7, rfl⟩ := own_slice ho6
            have H6 := Lib.hid (H5.out.to h6)
            clear h6 H5 ho6
            go_wp2_with fail
            refine (left_any q _ A6 c6' w6 H6.out.st).mono ?_
            rintro e w7 ⟨rfl, rfl⟩
            go_wp2_with fail
            refine (end_any q _ A6 c6' w6 H6.out.st).mono ?_
            rintro e w7 ⟨rfl, rfl⟩
            rw [show rend (11, T') = 11 from by simp [rend]]
            go_wp2
            go_ret
            exact ⟨rfl, H6.out.ext⟩
    · have hz : (pbytesAll x0).length = 0 := by omega
      rw [hz] at *
      clear hpos HPS HO1
      go_wp2
      go_ret
      exact ⟨rfl, HX1.out⟩
  · have hok' : ((wputs (0, []) x0).1 == 0) = false := by simp [hok]
    rw [hok']
    clear hok hok'
    go_wp2
    go_ret
    exact ⟨rfl, HX1.out⟩

set_option maxRecDepth 100000 in
theorem liftedU_CursorCut (os : Os) (started : os.Started) (H : Type) (enc : TypeId × Value → H) (F : Stop.Interp) :
    ReturnsInHanded {} Try.checked os 10 .any ((Rows.OpenSpec.upto Rows.cursorCutSpec).pre6 enc Try.prog Try.f10 Rows.cursorCutUptoRow.domain false) (((Rows.OpenSpec.upto Rows.cursorCutSpec).at F).post enc Try.prog Try.f10 false true false false) := by
  refine returnsInHanded_of_cond_sized (C := Try.checked) (s := Rows.OpenSpec.upto Rows.cursorCutSpec) (k := Rows.uptoSmall) rfl own started (by kernel_rfl) Try.func10
    (OpenSpec.witness (enc := enc) (C := Try.checked) (s := Rows.OpenSpec.upto Rows.cursorCutSpec) (k := Rows.uptoSmall) rfl false ⟨#[], #[.slice none 0 0, .int .u16 0], []⟩ 8 (by kernel_rfl) (by kernel_rfl) (by kernel_rfl)
      (x := ([.nil, .lit (.int .u16 0)], [], [])) (by kernel_rfl) rfl (by kernel_rfl)) ?_
  intro W base args ds gs before hval0 hW _ hk0 hsz0 _
  have hsz : (DataW.weightsEach Try.prog (Try.f10.params.toList ++ Rows.cursorCutSpec.plain.varTypes Try.prog) (ds ++ gs)).all (· ≤ reachBytes) = true := hsz0
  clear hsz0
  have hval : ∀ (j : Nat) t v, Try.f10.params[j]? = some t → args[j]? = some v → Value.okWide Try.prog W .any base t v := hval0
  have hW' := hW
  obtain ⟨p, q, hA0, hV, rfl, hfz, hnd⟩ := hW
  have hA : DataW.TrodAll enc Try.prog W 0 (fun _ => true) true Try.f10.params.toList args.toList ds p := hA0
  rw [Try.params10] at hA hval hsz
  obtain ⟨v0, vs0, d0, ds0, p0, q0, hargs, rfl, rfl, h0, r0⟩ := trodAll_cons hA
  obtain ⟨v1, vs1, d1, ds1, p1, q1, rfl, rfl, rfl, h1, r1⟩ := trodAll_cons r0
  obtain ⟨rfl, rfl, rfl⟩ := trodAll_nil r1
  obtain rfl : args = #[v0, v1] := by cases args; simp_all
  obtain ⟨rfl, rfl⟩ := trodVars_none hV
  have hk : Rows.uptoBulkAll [d0, d1] ≤ 1048576 := of_decide_eq_true hk0
  simp only [Rows.uptoBulkAll] at hk
  have lt0 : ∀ x ∈ p0, x.block < W.heap.size := by obtain ⟨m, hm⟩ := h0; exact DataW.trod_lt m _ _ _ hm
  obtain ⟨x0, hx0, hb0⟩ := open_InPcsU (hval 0 39 v0 rfl rfl) h0 (light_each (j := 0) hsz rfl rfl)
  have lt1 : ∀ x ∈ p1, x.block < W.heap.size := by obtain ⟨m, hm⟩ := h1; exact DataW.trod_lt m _ _ _ hm
  obtain ⟨x1, hx1, hb1⟩ := open_InU16U (hval 1 66 v1 rfl rfl) h1 (light_each (j := 1) hsz rfl rfl)
  clear hA0 hval0
  refine (walk_CursorCut v0 v1 x0 x1 W hx0 hx1 (by omega)).mono fun e W' ⟨he, bel⟩ => ?_
  subst he
  exact ⟨_, rfl, _, _, _, [], _, [], hW', trodAll_mk1 (shut_bool Try.underlying4 _), (trodAll_cons_mk (Below.trod laidOut (by kernel_rfl) (of_decide_eq_true (by kernel_rfl)) h0 bel lt0) (trodAll_cons_mk (Below.trod laidOut (by kernel_rfl) (of_decide_eq_true (by kernel_rfl)) h1 bel lt1) trodAll_mk0)), rfl, bel.frame _, fun h => by cases h⟩

/-- the statement, where what comes in is of bulk at most 1048576 -/
theorem holds_CursorCutUpto : Rows.CursorCutUptoSaid :=
  OpenClaim.holds_of_cond 10 Try.f10 rfl rfl rfl rfl rfl rfl rfl ⟨rfl, rfl, rfl, rfl, rfl⟩ rfl rfl rfl rfl rfl (by kernel_rfl) Try.func10 (by kernel_rfl)
    (of_decide_eq_true (by kernel_rfl)) (by unfold Func.isWrapper; first | (rw [if_pos (by decide +kernel)]; kernel_rfl) | (rw [if_neg (by decide +kernel)]; exact ⟨rfl, rfl⟩))
    (fun os started H enc _ F => liftedU_CursorCut os started H enc F)
#print axioms holds_CursorCutUpto

end Go.Proofs.Ytjgghahjcmdnmaa
