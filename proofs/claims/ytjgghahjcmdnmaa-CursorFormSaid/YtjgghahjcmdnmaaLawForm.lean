/- CursorForm: what is taken of any bytes without a fault, put again, stands as it stood. -/
import Derived.Test.YtjgghahjcmdnmaaFormP
namespace Go.Proofs.Ytjgghahjcmdnmaa
open Go.ChangeShapes Go.WideShapes Go.ChangeAt Go.RowKit Pl
set_option linter.unusedVariables false

theorem rnum_bounds (size : Int) (st : WS) : -9223372036854775808 ≤ (rnum size st).1 ∧ (rnum size st).1 ≤ 9223372036854775807 := by
  unfold rnum
  split
  · exact i64_bounds _
  · exact ⟨by show (-9223372036854775808 : Int) ≤ 0; omega, by show (0 : Int) ≤ 9223372036854775807; omega⟩

/-- Text of one text that was laid down for it -/
theorem text_one2 (p : Nat) (st : WS) (v : Value) (s : ByteArray) (w : World) (h : Wst w p st v) (hs : s.size ≤ 140737488351232)
    (hlen : st.2.length + 8 + min s.size 4096 ≤ 140737488355328) :
    Calls Try.prog 14 #[.pointer (some ⟨p, 0, none⟩), .slice (some ⟨w.heap.size, 0, none⟩) 1 1] (w.alloc (.cells #[.string s] 9)) fun r w' => r = .returned (.tuple #[]) ∧ ∃ v', Wto p w v w' (wtext st [txt s]) v' := by
  have hx := Ext.alloc w (.cells #[.string s] 9)
  refine (text_gen p st v (some ⟨w.heap.size, 0, none⟩) 1 [s] _ (h.ext hx) ?_ ?_ (by simp) (fun k hk => ?_) (fun t ht => by rw [List.mem_singleton.1 ht]; exact hs)).mono ?_
  · intro i hi
    have : i = 0 := by simpa [strs] using hi
    subst this
    exact ⟨w.heap.size, 0, rfl, cnew w #[.string s] _ 0 rfl⟩
  · intro b o hb _ hS
    simp only [Option.some.injEq, Addr.mk.injEq] at hb
    have := h.lt b hS
    omega
  · have : k = 0 := by simpa using hk
    subst this
    simpa [wtext] using hlen
  · rintro r w' ⟨hr, v', ht⟩
    exact ⟨hr, v', ((Wto.refl h).ext hx).trans ht⟩

theorem drop_app (a b : List UInt8) : (a ++ b).take a.length = a := by simp

set_option maxRecDepth 100000 in
set_option maxHeartbeats 3200000 in
theorem walk_CursorForm (v0 v1 : Value) (x0 : List UInt8) (x1 : List Pc) (w : World) (h0 : InU8c w v0 x0) (h1 : InPcs w v1 x1) :
    Calls Try.prog 8 #[v0, v1] w fun e w' => e = .returned (.bool true) ∧ Below w.heap.size w w' := by
  obtain ⟨BA, bc, rfl, hB, hBl, hBc, hBm⟩ := h0
  obtain ⟨A, ac, rfl, hA, hAi, hAl⟩ := h1
  unfold maxLen at hBm
  have HA := Lib.hid hA
  have HAI := Lib.hid hAi
  have HB := Lib.hid hB
  clear hA hAi hB
  go_enter Try.func8, Try.ntmps8
  go_wp2_with fail
  refine (awake_any _).mono ?_
  rintro e w0 ⟨rfl, hx0⟩
  have HX0 := Lib.hid hx0
  clear hx0
  go_wp2_with fail
  refine (newReader_any BA bc x0 w0 (HX0.out.rd HB.out) (by omega)).mono ?_
  rintro e w2 ⟨q, A2, c2, rfl, hq2, h2, hf2, hx2⟩
  have H2 := Lib.hid (RF.new HX0.out h2 hq2 hf2 hx2)
  clear hq2 h2 hf2 hx2 HX0
  go_wp2_with fail
  refine (newWriter_any w2).mono ?_
  rintro e w3 ⟨rfl, h3, hx3⟩
  have H3 := Lib.hid (RW.new H2.out h3 hx3)
  clear h3 hx3 H2
  generalize w2.heap.size = p at *
  go_wp2_with fail
  go_loopw [8] (fun i wr => ∃ (k : Nat) (E : Int) (R T : List UInt8) (A' : Option Addr) (c' : Nat) (v : Value), k ≤ x1.length ∧ i = .int .i64 k ∧ T ++ R = x0 ∧ RW w wr q (E, R) A' c' p (0, T) v) (fun i _ => x1.length - (intOf i).toNat)
  case atStart => exact ⟨0, 0, x0, [], A2, c2, _, Nat.zero_le _, rfl, rfl, H3.out⟩
  case round =>
    clear H3
    obtain ⟨k, E, R, T, A', c', v, hkl, rfl, hTR, hw⟩ := hrel
    have hTl : T.length + R.length = x0.length := by rw [← hTR, List.length_append]
    have HTR := Lib.hid hTR
    clear hTR
    by_cases hlt : k < x1.length
    · obtain ⟨b, off, rfl, c0, c1, c2, c3, c4, c5⟩ := HA.out.at hlt
      have hp := HAI.out _ (List.getElem_mem hlt)
      have hk1 := hp.kind
      have hk2 := hp.size
      have hk3 := hp.n
      clear hp
      generalize x1[k] = pc at *
      obtain ⟨kind, size, n, NA, nc, ns, SA, sc, ss, PA, pcc, bs⟩ := pc
      simp only at c0 c1 c2 c3 c4 c5 hk1 hk2 hk3
      replace c0 := hw.r.ext.cell c0
      replace c1 := hw.r.ext.cell c1
      replace c2 := hw.r.ext.cell c2
      replace c3 := hw.r.ext.cell c3
      replace c4 := hw.r.ext.cell c4
      replace c5 := hw.r.ext.cell c5
      have HW := Lib.hid hw
      clear hw
      by_cases k0 : kind = 0
      · subst k0
        go_wp2_with fail
        have HBK : Hid (Blk (wr.alloc (.cells #[.int .i64 0, .int .i64 size, .int .i64 n, .slice NA ns.length nc, .slice SA ss.length sc, .slice PA bs.length pcc] 44)) wr.heap.size 44 #[.int .i64 0, .int .i64 size, .int .i64 n, .slice NA ns.length nc, .slice SA ss.length sc, .slice PA bs.length pcc]) := Lib.hid (Blk.new _ _ _)
        have HX := Lib.hid (Ext.alloc wr (.cells #[.int .i64 0, .int .i64 size, .int .i64 n, .slice NA ns.length nc, .slice SA ss.length sc, .slice PA bs.length pcc] 44))
        generalize wr.alloc (.cells #[.int .i64 0, .int .i64 size, .int .i64 n, .slice NA ns.length nc, .slice SA ss.length sc, .slice PA bs.length pcc] 44) = wb at *
        have hqs := HW.out.r.st.blk.lt
        have d1 : wb.cell? ⟨wr.heap.size, 1, none⟩ = some (.int .i64 size) := HBK.out.cell 1 rfl
        refine (rnum_any q (E, R) A' c' size wb (HW.out.r.st.ext HX.out) hk2).mono ?_
        rintro e w4 ⟨rfl, A4, c4', h4⟩
        have hf := rnum_form size E R
        have hb := rnum_bounds size (E, R)
        generalize rnum size (E, R) = rq at *
        obtain ⟨n1, E1, R1⟩ := rq
        simp only [NumTook] at hf hb h4
        replace d1 := h4.chg.cell d1 (by omega)
        have H4 := Lib.hid ((HW.out.ex HX.out).toR h4)
        clear h4 HW HBK HX
        rcases hf with ⟨R', hq2, hE, hs, hf, hR⟩ | ⟨hne, hRR⟩
        · obtain ⟨rfl, rfl⟩ := Prod.mk.inj hq2
          have HR := Lib.hid hR
          have HE : Hid (wnum size (0, T) [n1] = (0, T ++ digs size.toNat n1)) := Lib.hid (by simp [wnum, wnum1, hs, hf])
          clear hR hE hs hf hq2
          go_wp2_with fail
          refine (fault_any q _ A4 c4' w4 H4.out.r.st).mono ?_
          rintro e w5 ⟨rfl, rfl⟩
          go_wp2_with fail
          refine (num_one p (0, T) v size n1 w4 H4.out.t.st hb hk2 (by simp; omega)).mono ?_
          rintro e w6 ⟨rfl, v6, h6⟩
          rw [HE.out] at h6
          have H6 := Lib.hid (H4.out.toW h6)
          clear h6 H4 d1
          go_wp2
          go_roundw
          case rel => exact ⟨k + 1, 0, R1, T ++ digs size.toNat n1, A4, c4', v6, by omega, by go_num, by rw [List.append_assoc, ← HR.out]; exact HTR.out, H6.out⟩
          case measure => simp [intOf]; omega
        · clear d1
          have hE0 : (E1 == 0) = false := by simp [hne]
          have HRR := Lib.hid hRR
          clear hne hRR
          go_wp2_with fail
          refine (fault_any q _ A4 c4' w4 H4.out.r.st).mono ?_
          rintro e w5 ⟨rfl, rfl⟩
          go_wp2
          go_roundw
          case rel => exact ⟨k + 1, E1, R1, T, A4, c4', v, by omega, by go_num, by rw [HRR.out]; exact HTR.out, H4.out⟩
          case measure => simp [intOf]; omega
      by_cases k1 : kind = 1
      · subst k1
        clear k0
        go_wp2_with fail
        have HBK : Hid (Blk (wr.alloc (.cells #[.int .i64 1, .int .i64 size, .int .i64 n, .slice NA ns.length nc, .slice SA ss.length sc, .slice PA bs.length pcc] 44)) wr.heap.size 44 #[.int .i64 1, .int .i64 size, .int .i64 n, .slice NA ns.length nc, .slice SA ss.length sc, .slice PA bs.length pcc]) := Lib.hid (Blk.new _ _ _)
        have HX := Lib.hid (Ext.alloc wr (.cells #[.int .i64 1, .int .i64 size, .int .i64 n, .slice NA ns.length nc, .slice SA ss.length sc, .slice PA bs.length pcc] 44))
        generalize wr.alloc (.cells #[.int .i64 1, .int .i64 size, .int .i64 n, .slice NA ns.length nc, .slice SA ss.length sc, .slice PA bs.length pcc] 44) = wb at *
        refine (rtext_any q (E, R) A' c' wb (HW.out.r.st.ext HX.out)).mono ?_
        rintro e w4 ⟨rfl, A4, c4', h4⟩
        have hf := rpart_form 2 4096 (.inl rfl) E R
        generalize rpart 2 4096 (E, R) = rq at *
        obtain ⟨n1, E1, R1⟩ := rq
        simp only [PartTook] at hf h4
        have H4 := Lib.hid ((HW.out.ex HX.out).toR h4)
        clear h4 HW HBK HX
        rcases hf with ⟨R', hq2, hE, hm, hR⟩ | ⟨hne, hRR⟩
        · obtain ⟨rfl, rfl⟩ := Prod.mk.inj hq2
          have hRl : R.length = 2 + n1.length + R1.length := by rw [hR]; simp [digs_length]; omega
          have HR := Lib.hid hR
          have HE : Hid (wtext (0, T) [txt ⟨n1.toArray⟩] = (0, T ++ (digs 2 n1.length ++ n1))) := Lib.hid (by simp [wtext, wtext1, txt, hm])
          have hsz : (⟨n1.toArray⟩ : ByteArray).size = n1.length := rfl
          have HSZ := Lib.hid hsz
          clear hR hE hq2 hsz
          go_wp2_with fail
          refine (fault_any q _ A4 c4' w4 H4.out.r.st).mono ?_
          rintro e w5 ⟨rfl, rfl⟩
          go_wp2_with fail
          refine (text_one2 p (0, T) v ⟨n1.toArray⟩ w4 H4.out.t.st (by rw [HSZ.out]; omega) (by rw [HSZ.out]; simp only; omega)).mono ?_
          rintro e w6 ⟨rfl, v6, h6⟩
          rw [HE.out] at h6
          have H6 := Lib.hid (H4.out.toW h6)
          clear h6 H4
          go_wp2
          go_roundw
          case rel => exact ⟨k + 1, 0, R1, T ++ (digs 2 n1.length ++ n1), A4, c4', v6, by omega, by go_num, by rw [List.append_assoc, ← HR.out]; exact HTR.out, H6.out⟩
          case measure => simp [intOf]; omega
        · 
          have hE0 : (E1 == 0) = false := by simp [hne]
          have HRR := Lib.hid hRR
          clear hne hRR
          go_wp2_with fail
          refine (fault_any q _ A4 c4' w4 H4.out.r.st).mono ?_
          rintro e w5 ⟨rfl, rfl⟩
          go_wp2
          go_roundw
          case rel => exact ⟨k + 1, E1, R1, T, A4, c4', v, by omega, by go_num, by rw [HRR.out]; exact HTR.out, H4.out⟩
          case measure => simp [intOf]; omega
      by_cases k2 : kind = 2
      · subst k2
        clear k0 k1
        go_wp2_with fail
        have HBK : Hid (Blk (wr.alloc (.cells #[.int .i64 2, .int .i64 size, .int .i64 n, .slice NA ns.length nc, .slice SA ss.length sc, .slice PA bs.length pcc] 44)) wr.heap.size 44 #[.int .i64 2, .int .i64 size, .int .i64 n, .slice NA ns.length nc, .slice SA ss.length sc, .slice PA bs.length pcc]) := Lib.hid (Blk.new _ _ _)
        have HX := Lib.hid (Ext.alloc wr (.cells #[.int .i64 2, .int .i64 size, .int .i64 n, .slice NA ns.length nc, .slice SA ss.length sc, .slice PA bs.length pcc] 44))
        generalize wr.alloc (.cells #[.int .i64 2, .int .i64 size, .int .i64 n, .slice NA ns.length nc, .slice SA ss.length sc, .slice PA bs.length pcc] 44) = wb at *
        refine (rblock_any q (E, R) A' c' wb (HW.out.r.st.ext HX.out)).mono ?_
        have hf := rpart_form 4 1048576 (.inr rfl) E R
        generalize rpart 4 1048576 (E, R) = rq at *
        obtain ⟨n1, E1, R1⟩ := rq
        simp only [PartTook] at hf ⊢
        rintro e w4 ⟨v4, A4, c4', rfl, ho4, h4⟩
        obtain ⟨A3, c3, rfl⟩ := own_slice ho4
        have HAP : Hid (∀ b o, A3 = some ⟨b, o, none⟩ → 0 < (u8s n1).length → ¬ ftp p v b) := Lib.hid (fun b o e _ hS => by
          have h1 := own_inB ho4 (k := b) ⟨o, e⟩
          have h2 := (HW.out.t.st.ext HX.out).lt b hS
          omega)
        have HO := Lib.hid ho4
        have H4 := Lib.hid ((HW.out.ex HX.out).toR h4)
        clear h4 HW HBK HX ho4
        rcases hf with ⟨R', hq2, hE, hm, hR⟩ | ⟨hne, hRR⟩
        · obtain ⟨rfl, rfl⟩ := Prod.mk.inj hq2
          have hRl : R.length = 4 + n1.length + R1.length := by rw [hR]; simp [digs_length]; try omega
          have HR := Lib.hid hR
          have HE : Hid (wblock (0, T) n1 = (0, T ++ (digs 4 n1.length ++ n1))) := Lib.hid (by simp [wblock, hm])
          clear hR hE hq2
          go_wp2_with fail
          refine (fault_any q _ A4 c4' w4 H4.out.r.st).mono ?_
          rintro e w5 ⟨rfl, rfl⟩
          go_wp2_with fail
          refine (block_any p (0, T) v A3 c3 n1 w4 H4.out.t.st (Rd.of_own HO.out) HAP.out (by simp only; omega)).mono ?_
          rintro e w6 ⟨rfl, v6, h6⟩
          rw [HE.out] at h6
          have H6 := Lib.hid (H4.out.toW h6)
          clear h6 H4 HAP HO
          go_wp2
          go_roundw
          case rel => exact ⟨k + 1, 0, R1, T ++ (digs 4 n1.length ++ n1), A4, c4', v6, by omega, by go_num, by rw [List.append_assoc, ← HR.out]; exact HTR.out, H6.out⟩
          case measure => simp [intOf]; omega
        · clear HAP HO
          have hE0 : (E1 == 0) = false := by simp [hne]
          have HRR := Lib.hid hRR
          clear hne hRR
          go_wp2_with fail
          refine (fault_any q _ A4 c4' w4 H4.out.r.st).mono ?_
          rintro e w5 ⟨rfl, rfl⟩
          go_wp2
          go_roundw
          case rel => exact ⟨k + 1, E1, R1, T, A4, c4', v, by omega, by go_num, by rw [HRR.out]; exact HTR.out, H4.out⟩
          case measure => simp [intOf]; omega
      by_cases k3 : kind = 3
      · subst k3
        clear k0 k1 k2
        go_wp2_with fail
        have HBK : Hid (Blk (wr.alloc (.cells #[.int .i64 3, .int .i64 size, .int .i64 n, .slice NA ns.length nc, .slice SA ss.length sc, .slice PA bs.length pcc] 44)) wr.heap.size 44 #[.int .i64 3, .int .i64 size, .int .i64 n, .slice NA ns.length nc, .slice SA ss.length sc, .slice PA bs.length pcc]) := Lib.hid (Blk.new _ _ _)
        have HX := Lib.hid (Ext.alloc wr (.cells #[.int .i64 3, .int .i64 size, .int .i64 n, .slice NA ns.length nc, .slice SA ss.length sc, .slice PA bs.length pcc] 44))
        generalize wr.alloc (.cells #[.int .i64 3, .int .i64 size, .int .i64 n, .slice NA ns.length nc, .slice SA ss.length sc, .slice PA bs.length pcc] 44) = wb at *
        refine (rraw_any q (E, R) A' c' n wb (HW.out.r.st.ext HX.out) (.inr ⟨by simp only; omega, by omega⟩) (by omega)).mono ?_
        have hf := rraw_form n E R
        generalize rraw n (E, R) = rq at *
        obtain ⟨n1, E1, R1⟩ := rq
        simp only [RawTook] at hf ⊢
        rintro e w4 ⟨v4, A4, c4', rfl, ho4, h4⟩
        obtain ⟨A3, c3, rfl⟩ := own_slice ho4
        have HAP : Hid (∀ b o, A3 = some ⟨b, o, none⟩ → 0 < (u8s n1).length → ¬ ftp p v b) := Lib.hid (fun b o e _ hS => by
          have h1 := own_inB ho4 (k := b) ⟨o, e⟩
          have h2 := (HW.out.t.st.ext HX.out).lt b hS
          omega)
        have HO := Lib.hid ho4
        have H4 := Lib.hid ((HW.out.ex HX.out).toR h4)
        clear h4 HW HBK HX ho4
        rcases hf with ⟨R', hq2, hE, hR⟩ | ⟨hne, hRR⟩
        · obtain ⟨rfl, rfl⟩ := Prod.mk.inj hq2
          have hRl : R.length = n1.length + R1.length := by rw [hR]; simp
          have HR := Lib.hid hR
          have HE : Hid (wraw (0, T) n1 = (0, T ++ (n1))) := Lib.hid (by simp [wraw])
          clear hR hE hq2
          go_wp2_with fail
          refine (fault_any q _ A4 c4' w4 H4.out.r.st).mono ?_
          rintro e w5 ⟨rfl, rfl⟩
          go_wp2_with fail
          refine (raw_any p (0, T) v A3 c3 n1 w4 H4.out.t.st (Rd.of_own HO.out) (fun _ => by simp only; omega)).mono ?_
          rintro e w6 ⟨rfl, v6, h6⟩
          rw [HE.out] at h6
          have H6 := Lib.hid (H4.out.toW h6)
          clear h6 H4 HAP HO
          go_wp2
          go_roundw
          case rel => exact ⟨k + 1, 0, R1, T ++ (n1), A4, c4', v6, by omega, by go_num, by rw [List.append_assoc, ← HR.out]; exact HTR.out, H6.out⟩
          case measure => simp [intOf]; omega
        · clear HAP HO
          have hE0 : (E1 == 0) = false := by simp [hne]
          have HRR := Lib.hid hRR
          clear hne hRR
          go_wp2_with fail
          refine (fault_any q _ A4 c4' w4 H4.out.r.st).mono ?_
          rintro e w5 ⟨rfl, rfl⟩
          go_wp2
          go_roundw
          case rel => exact ⟨k + 1, E1, R1, T, A4, c4', v, by omega, by go_num, by rw [HRR.out]; exact HTR.out, H4.out⟩
          case measure => simp [intOf]; omega
      · have b0 : (kind == 0) = false := by simp [k0]
        have b1 : (kind == 1) = false := by simp [k1]
        have b2 : (kind == 2) = false := by simp [k2]
        have b3 : (kind == 3) = false := by simp [k3]
        clear k0 k1 k2 k3
        go_wp2
        go_roundw
        case rel => exact ⟨k + 1, E, R, T, A', c', v, by omega, by go_num, HTR.out, HW.out.ex (Ext.alloc _ _)⟩
        case measure => simp [intOf]; omega
    · have HW := Lib.hid hw
      clear hw
      go_wp2_with fail
      refine (bytes_got p (0, T) v wr HW.out.t.st (by simp only; omega)).mono ?_
      rintro e w7 ⟨A7, c7, rfl, hx7, ho7⟩
      have hgot : wgot (0, T) = T := by simp [wgot]
      rw [hgot] at ho7 ⊢
      have HW7 := Lib.hid (HW.out.ex hx7)
      have HO7 := Lib.hid ho7
      clear hx7 ho7 HW hgot
      go_wp2_with fail
      refine (left_any q _ A' c' w7 HW7.out.r.st).mono ?_
      rintro e w8 ⟨rfl, rfl⟩
      have cv1 := conv_bytes w7.drew A7 c7 T ((Ext.drew _).rd (Rd.of_own HO7.out))
      have cv2 : (convert 29 9 (.slice BA T.length bc)).run Try.prog w7.drew = .ok (.string ⟨T.toArray⟩) w7.drew := conv_bytes w7.drew BA bc T ((HW7.out.r.ext.trans (Ext.drew _)).rd (by
        have h1 := HB.out.take T.length
        rw [← u8s_take, ← HTR.out, drop_app] at h1
        exact h1))
      have hs1 : (x0.length : Int) - (R.length : Int) = (T.length : Int) := by omega
      have hs2 : IntKind.i64.wrap ((x0.length : Int) - (R.length : Int)) = (T.length : Int) := by rw [hs1]; exact IntWalk.i64_in _ (by omega)
      have hs3 : T.length ≤ bc := by omega
      have HXE := Lib.hid (HW7.out.r.ext.trans (Ext.drew _))
      clear HW7 HO7 hTl
      go_wp2_with fail
      go_region
      go_wp2
      go_ret
      exact ⟨rfl, HXE.out⟩

set_option maxRecDepth 100000 in
theorem lifted_CursorForm (os : Os) (started : os.Started) (H : Type) (enc : TypeId × Value → H) :
    ReturnsInHanded {} Try.checked os 8 .any (Rows.cursorFormSpec.pre6 enc Try.prog Try.f8 Rows.cursorFormRow.domain false) (Rows.cursorFormSpec.post enc Try.prog Try.f8 false true false false) := by
  refine returnsInHanded_of_change_sized (C := Try.checked) own started (by kernel_rfl) Try.func8
    (ChangeSpec.witness6 (enc := enc) (C := Try.checked) false ⟨#[], #[.slice none 0 0, .slice none 0 0], []⟩ 8 (by kernel_rfl) (by kernel_rfl) (by kernel_rfl) (by kernel_rfl)) ?_
  intro W base args ds gs before hval0 hW hcnd hsz0 _
  have hsz : (DataW.weightsEach Try.prog (Try.f8.params.toList ++ Rows.cursorFormSpec.plain.varTypes Try.prog) (ds ++ gs)).all (· ≤ reachBytes) = true := hsz0
  clear hsz0
  have hval : ∀ (j : Nat) t v, Try.f8.params[j]? = some t → args[j]? = some v → Value.okWide Try.prog W .any base t v := hval0
  have hW' := hW
  obtain ⟨p, q, hA0, hV, rfl, hfz, hnd⟩ := hW
  have hA : DataW.TrodAll enc Try.prog W 0 (fun _ => true) true Try.f8.params.toList args.toList ds p := hA0
  rw [Try.params8] at hA hval hsz
  obtain ⟨v0, vs0, d0, ds0, p0, q0, hargs, rfl, rfl, h0, r0⟩ := trodAll_cons hA
  obtain ⟨v1, vs1, d1, ds1, p1, q1, rfl, rfl, rfl, h1, r1⟩ := trodAll_cons r0
  obtain ⟨rfl, rfl, rfl⟩ := trodAll_nil r1
  obtain rfl : args = #[v0, v1] := by cases args; simp_all
  obtain ⟨rfl, rfl⟩ := trodVars_none hV
  have lt0 : ∀ x ∈ p0, x.block < W.heap.size := by obtain ⟨m, hm⟩ := h0; exact DataW.trod_lt m _ _ _ hm
  obtain ⟨x0, hx0⟩ := open_InU8c (hval 0 29 v0 rfl rfl) h0 (light_each (j := 0) hsz rfl rfl)
  have lt1 : ∀ x ∈ p1, x.block < W.heap.size := by obtain ⟨m, hm⟩ := h1; exact DataW.trod_lt m _ _ _ hm
  obtain ⟨x1, hx1⟩ := open_InPcs (hval 1 39 v1 rfl rfl) h1 (light_each (j := 1) hsz rfl rfl)
  clear hA0 hval0
  refine (walk_CursorForm v0 v1 x0 x1 W hx0 hx1).mono fun e W' ⟨he, bel⟩ => ?_
  subst he
  exact ⟨_, rfl, _, _, _, [], _, [], hW', trodAll_mk1 (shut_bool Try.underlying4 _), (trodAll_cons_mk (Below.trod laidOut (by kernel_rfl) (of_decide_eq_true (by kernel_rfl)) h0 bel lt0) (trodAll_cons_mk (Below.trod laidOut (by kernel_rfl) (of_decide_eq_true (by kernel_rfl)) h1 bel lt1) trodAll_mk0)), rfl, bel.frame _, fun h => by cases h⟩

theorem over_CursorForm : Rows.cursorFormRow.holds Try.pinned (OpenSpec.ofChange Rows.cursorFormSpec) :=
  OpenClaim.holds_of_wide 8 Try.f8 rfl rfl rfl rfl rfl rfl rfl ⟨rfl, rfl, rfl, rfl, rfl⟩ rfl rfl rfl rfl rfl (by kernel_rfl) Try.func8 (by kernel_rfl)
    (of_decide_eq_true (by kernel_rfl)) (by unfold Func.isWrapper; first | (rw [if_pos (by decide +kernel)]; kernel_rfl) | (rw [if_neg (by decide +kernel)]; exact ⟨rfl, rfl⟩))
    (fun os started H enc _ => lifted_CursorForm os started H enc)

/-- the statement -/
theorem holds_CursorForm : Rows.CursorFormSaid := over_CursorForm
#print axioms holds_CursorForm

end Go.Proofs.Ytjgghahjcmdnmaa
