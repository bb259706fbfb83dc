/- CursorNumbers. -/
import Derived.Test.YtjgghahjcmdnmaaAwk
import Derived.Test.YtjgghahjcmdnmaaNumP
import Derived.Deep.QuietTactic
import Derived.BigQuiet
namespace Go.Proofs.Ytjgghahjcmdnmaa
open Go.RowKit Pl
open Go.ChangeShapes Go.WideShapes Go.ChangeAt
set_option linter.unusedVariables false

theorem digs_get (n : Int) {k i : Nat} (h : i < k) : (digs k n).getD i 0 = dig n i := by
  simp [digs, List.getD, h]

theorem dig_ne (n : Int) (j : Nat) : (((dig n j).toNat : Int) != n / 2 ^ (8 * j) % 256) = false := by
  rw [← dig_wrap, IntKind.wrap_u8]
  simp

set_option maxHeartbeats 1600000 in
theorem walk_CursorNumbers (v0 v1 : Value) (x0 x1 : Int) (w : World) (h0 : InInt w v0 x0) (h1 : InInt w v1 x1) :
    Calls Try.prog 4 #[v0, v1] w fun e w' => e = .returned (.bool true) ∧ Below w.heap.size w w' := by
  obtain ⟨rfl, hx0⟩ := h0
  obtain ⟨rfl, hx1⟩ := h1
  go_enter Try.func4, Try.ntmps4
  go_wp2_with fail
  refine (awake_any w).mono ?_
  rintro e w0 ⟨rfl, hx0'⟩
  go_wp2_with fail
  refine (newWriter_any w0).mono ?_
  rintro e w1 ⟨rfl, h1, hx1'⟩
  have H1 := Lib.hid (WF.new hx0' h1 hx1')
  clear h1 hx1' hx0'
  go_wp2_with fail
  refine (num_one w0.heap.size _ _ x1 x0 w1 H1.out.st hx0 hx1 (by simp)).mono ?_
  rintro e w2 ⟨rfl, v2, h2⟩
  cases hs : sizedB x1
  · rw [wnum_unsized _ _ _ hs] at h2
    have H2 := Lib.hid (H1.out.to h2)
    have ⟨n1, n2, n4, n8⟩ := sizedB_not hs
    have b1 : (x1 != 1) = true := by simp [n1]
    have b2 : (x1 != 2) = true := by simp [n2]
    have b4 : (x1 != 4) = true := by simp [n4]
    have b8 : (x1 != 8) = true := by simp [n8]
    clear h2 H1 hs n1 n2 n4 n8
    go_wp2_with fail
    refine (bytes_any w0.heap.size _ _ w2 H2.out.st (by simp [wfail])).mono ?_
    rintro e w3 ⟨v3, rfl, hx3, ho3⟩
    rw [show wfail ((0 : Int), ([] : List UInt8)) 1 = (1, []) from rfl, if_neg (by decide), if_neg (by decide)] at ho3
    rw [show wfail ((0 : Int), ([] : List UInt8)) 1 = (1, []) from rfl]
    obtain ⟨A3, c3, rfl⟩ := own_slice ho3
    have HX := Lib.hid (H2.out.ext.trans hx3)
    clear hx3 ho3 H2
    go_wp2
    go_ret
    exact ⟨rfl, HX.out⟩
  · rcases sizedB_cases hs with rfl | rfl | rfl | rfl
    · cases hf : fitsB x0 1
      · have HW : Hid (wnum 1 (0, []) [x0] = (10, [])) := Lib.hid (by simp [wnum, wnum1, hs, hf])
        rw [HW.out] at h2
        have H2 := Lib.hid (H1.out.to h2)
        have hnf : x0 < 0 ∨ (0 ≤ x0 ∧ (x0 / 256 != 0) = true) := by simp [fitsB] at hf; by_cases h : x0 < 0; exact .inl h; right; refine ⟨by omega, ?_⟩; have := hf (by omega); simp; omega
        clear h2 H1 hs hf HW
        go_wp2_with fail
        refine (bytes_any w0.heap.size _ _ w2 H2.out.st (by simp)).mono ?_
        rintro e w3 ⟨v3, rfl, hx3, ho3⟩
        rw [if_neg (by decide), if_neg (by decide)] at ho3
        obtain ⟨A3, c3, rfl⟩ := own_slice ho3
        have HX := Lib.hid (H2.out.ext.trans hx3)
        clear hx3 ho3 H2
        rcases hnf with hnf | ⟨hnf, hnf2⟩
        · go_wp2
          go_ret
          exact ⟨rfl, HX.out⟩
        · go_wp2
          go_ret
          exact ⟨rfl, HX.out⟩
      · have hnn : 0 ≤ x0 := by simp [fitsB] at hf; omega
        have hq : (x0 / 256 != 0) = false := by simp [fitsB] at hf; simp; omega
        have HW : Hid (wnum 1 (0, []) [x0] = (0, digs 1 x0)) := Lib.hid (by simp [wnum, wnum1, hs, hf])
        have HL := Lib.hid (digs_length 1 x0)
        have HN : Hid (rnum 1 (0, digs 1 x0) = (x0, (0, []))) := Lib.hid (by have := rnum_digs 1 x0 [] hs hf hx0; rwa [List.append_nil] at this)
        rw [HW.out] at h2
        have H2 := Lib.hid (H1.out.to h2)
        clear h2 H1 hs hf HW
        go_wp2_with fail
        refine (bytes_any w0.heap.size _ _ w2 H2.out.st (by simp [digs_length])).mono ?_
        rintro e w3 ⟨v3, rfl, hx3, ho3⟩
        rw [if_pos rfl, if_pos rfl] at ho3
        rw [digs_length] at ho3
        obtain ⟨A3, c3, rfl⟩ := own_slice ho3
        have HX := Lib.hid (H2.out.ext.trans hx3)
        have HR3 := Lib.hid (Rd.of_own ho3)
        clear hx3 ho3 H2
        go_wp2_with fail
        go_loopw [9] (fun i wr => ∃ k : Nat, k ≤ 1 ∧ i = .int .i64 k ∧ Ext w3 wr) (fun i _ => 1 - (intOf i).toNat)
        case atStart => exact ⟨0, Nat.zero_le _, rfl, Ext.refl _⟩
        case round =>
          obtain ⟨k, hk, rfl, hxr⟩ := hrel
          by_cases hlt : k < 1
          · obtain ⟨b, off, rfl, hcB⟩ := HR3.out.u8 (i := k) (by rw [digs_length]; exact hlt)
            have hw8 : IntKind.i64.wrap (8 * (k : Int)) = 8 * (k : Int) := IntWalk.i64_in _ (by omega)
            rw [digs_get _ hlt] at hcB
            replace hcB := hxr.cell hcB
            have HXR := Lib.hid hxr
            have HD : Hid ((((dig x0 k).toNat : Int) != x0 / 2 ^ (8 * k) % 256) = false) := Lib.hid (dig_ne x0 k)
            generalize (dig x0 k).toNat = y at *
            clear hxr
            go_wp2_with fail
            go_quiet (fail)
            generalize hw4 : World.drewN wr _ = w4
            have HX4 : Hid (Ext w3 w4) := Lib.hid (HXR.out.trans (hw4 ▸ Ext.drewN wr _))
            clear hw4 HXR
            rw [HD.out]
            go_wp2
            go_roundw
            case rel => exact ⟨k + 1, by omega, by go_num, HX4.out⟩
            case measure => simp [intOf]; omega
          · have HXR := Lib.hid hxr
            have hr4 := hxr.rd HR3.out
            clear hxr
            go_wp2_with fail
            rw [← HL.out]
            refine (newReader_any A3 c3 _ wr hr4 (by simp [digs_length])).mono ?_
            rintro e w5 ⟨p5, A5, c5, rfl, hp5, h5, hf5, hx5⟩
            have H5 := Lib.hid (RF.new (HX.out.trans HXR.out) h5 hp5 hf5 hx5)
            clear hp5 h5 hf5 hx5 HXR
            rw [HL.out]
            go_wp2_with fail
            refine (rnum_any p5 _ A5 c5 1 w5 H5.out.st (by omega)).mono ?_
            rintro e w6 ⟨rfl, A6, c6, h6⟩
            rw [HN.out] at h6 ⊢
            have H6 := Lib.hid (H5.out.to h6)
            clear H5 h6
            go_wp2_with fail
            refine (end_any p5 _ A6 c6 w6 H6.out.st).mono ?_
            rintro e w7 ⟨rfl, rfl⟩
            rw [show rend (0, []) = 0 from rfl]
            go_wp2
            go_ret
            exact ⟨rfl, H6.out.ext⟩
    · cases hf : fitsB x0 2
      · have HW : Hid (wnum 2 (0, []) [x0] = (10, [])) := Lib.hid (by simp [wnum, wnum1, hs, hf])
        rw [HW.out] at h2
        have H2 := Lib.hid (H1.out.to h2)
        have hnf : x0 < 0 ∨ (0 ≤ x0 ∧ (x0 / 65536 != 0) = true) := by simp [fitsB] at hf; by_cases h : x0 < 0; exact .inl h; right; refine ⟨by omega, ?_⟩; have := hf (by omega); simp; omega
        clear h2 H1 hs hf HW
        go_wp2_with fail
        refine (bytes_any w0.heap.size _ _ w2 H2.out.st (by simp)).mono ?_
        rintro e w3 ⟨v3, rfl, hx3, ho3⟩
        rw [if_neg (by decide), if_neg (by decide)] at ho3
        obtain ⟨A3, c3, rfl⟩ := own_slice ho3
        have HX := Lib.hid (H2.out.ext.trans hx3)
        clear hx3 ho3 H2
        rcases hnf with hnf | ⟨hnf, hnf2⟩
        · go_wp2
          go_ret
          exact ⟨rfl, HX.out⟩
        · go_wp2
          go_ret
          exact ⟨rfl, HX.out⟩
      · have hnn : 0 ≤ x0 := by simp [fitsB] at hf; omega
        have hq : (x0 / 65536 != 0) = false := by simp [fitsB] at hf; simp; omega
        have HW : Hid (wnum 2 (0, []) [x0] = (0, digs 2 x0)) := Lib.hid (by simp [wnum, wnum1, hs, hf])
        have HL := Lib.hid (digs_length 2 x0)
        have HN : Hid (rnum 2 (0, digs 2 x0) = (x0, (0, []))) := Lib.hid (by have := rnum_digs 2 x0 [] hs hf hx0; rwa [List.append_nil] at this)
        rw [HW.out] at h2
        have H2 := Lib.hid (H1.out.to h2)
        clear h2 H1 hs hf HW
        go_wp2_with fail
        refine (bytes_any w0.heap.size _ _ w2 H2.out.st (by simp [digs_length])).mono ?_
        rintro e w3 ⟨v3, rfl, hx3, ho3⟩
        rw [if_pos rfl, if_pos rfl] at ho3
        rw [digs_length] at ho3
        obtain ⟨A3, c3, rfl⟩ := own_slice ho3
        have HX := Lib.hid (H2.out.ext.trans hx3)
        have HR3 := Lib.hid (Rd.of_own ho3)
        clear hx3 ho3 H2
        go_wp2_with fail
        go_loopw [9] (fun i wr => ∃ k : Nat, k ≤ 2 ∧ i = .int .i64 k ∧ Ext w3 wr) (fun i _ => 2 - (intOf i).toNat)
        case atStart => exact ⟨0, Nat.zero_le _, rfl, Ext.refl _⟩
        case round =>
          obtain ⟨k, hk, rfl, hxr⟩ := hrel
          by_cases hlt : k < 2
          · obtain ⟨b, off, rfl, hcB⟩ := HR3.out.u8 (i := k) (by rw [digs_length]; exact hlt)
            have hw8 : IntKind.i64.wrap (8 * (k : Int)) = 8 * (k : Int) := IntWalk.i64_in _ (by omega)
            rw [digs_get _ hlt] at hcB
            replace hcB := hxr.cell hcB
            have HXR := Lib.hid hxr
            have HD : Hid ((((dig x0 k).toNat : Int) != x0 / 2 ^ (8 * k) % 256) = false) := Lib.hid (dig_ne x0 k)
            generalize (dig x0 k).toNat = y at *
            clear hxr
            go_wp2_with fail
            go_quiet (fail)
            generalize hw4 : World.drewN wr _ = w4
            have HX4 : Hid (Ext w3 w4) := Lib.hid (HXR.out.trans (hw4 ▸ Ext.drewN wr _))
            clear hw4 HXR
            rw [HD.out]
            go_wp2
            go_roundw
            case rel => exact ⟨k + 1, by omega, by go_num, HX4.out⟩
            case measure => simp [intOf]; omega
          · have HXR := Lib.hid hxr
            have hr4 := hxr.rd HR3.out
            clear hxr
            go_wp2_with fail
            rw [← HL.out]
            refine (newReader_any A3 c3 _ wr hr4 (by simp [digs_length])).mono ?_
            rintro e w5 ⟨p5, A5, c5, rfl, hp5, h5, hf5, hx5⟩
            have H5 := Lib.hid (RF.new (HX.out.trans HXR.out) h5 hp5 hf5 hx5)
            clear hp5 h5 hf5 hx5 HXR
            rw [HL.out]
            go_wp2_with fail
            refine (rnum_any p5 _ A5 c5 2 w5 H5.out.st (by omega)).mono ?_
            rintro e w6 ⟨rfl, A6, c6, h6⟩
            rw [HN.out] at h6 ⊢
            have H6 := Lib.hid (H5.out.to h6)
            clear H5 h6
            go_wp2_with fail
            refine (end_any p5 _ A6 c6 w6 H6.out.st).mono ?_
            rintro e w7 ⟨rfl, rfl⟩
            rw [show rend (0, []) = 0 from rfl]
            go_wp2
            go_ret
            exact ⟨rfl, H6.out.ext⟩
    · cases hf : fitsB x0 4
      · have HW : Hid (wnum 4 (0, []) [x0] = (10, [])) := Lib.hid (by simp [wnum, wnum1, hs, hf])
        rw [HW.out] at h2
        have H2 := Lib.hid (H1.out.to h2)
        have hnf : x0 < 0 ∨ (0 ≤ x0 ∧ (x0 / 4294967296 != 0) = true) := by simp [fitsB] at hf; by_cases h : x0 < 0; exact .inl h; right; refine ⟨by omega, ?_⟩; have := hf (by omega); simp; omega
        clear h2 H1 hs hf HW
        go_wp2_with fail
        refine (bytes_any w0.heap.size _ _ w2 H2.out.st (by simp)).mono ?_
        rintro e w3 ⟨v3, rfl, hx3, ho3⟩
        rw [if_neg (by decide), if_neg (by decide)] at ho3
        obtain ⟨A3, c3, rfl⟩ := own_slice ho3
        have HX := Lib.hid (H2.out.ext.trans hx3)
        clear hx3 ho3 H2
        rcases hnf with hnf | ⟨hnf, hnf2⟩
        · go_wp2
          go_ret
          exact ⟨rfl, HX.out⟩
        · go_wp2
          go_ret
          exact ⟨rfl, HX.out⟩
      · have hnn : 0 ≤ x0 := by simp [fitsB] at hf; omega
        have hq : (x0 / 4294967296 != 0) = false := by simp [fitsB] at hf; simp; omega
        have HW : Hid (wnum 4 (0, []) [x0] = (0, digs 4 x0)) := Lib.hid (by simp [wnum, wnum1, hs, hf])
        have HL := Lib.hid (digs_length 4 x0)
        have HN : Hid (rnum 4 (0, digs 4 x0) = (x0, (0, []))) := Lib.hid (by have := rnum_digs 4 x0 [] hs hf hx0; rwa [List.append_nil] at this)
        rw [HW.out] at h2
        have H2 := Lib.hid (H1.out.to h2)
        clear h2 H1 hs hf HW
        go_wp2_with fail
        refine (bytes_any w0.heap.size _ _ w2 H2.out.st (by simp [digs_length])).mono ?_
        rintro e w3 ⟨v3, rfl, hx3, ho3⟩
        rw [if_pos rfl, if_pos rfl] at ho3
        rw [digs_length] at ho3
        obtain ⟨A3, c3, rfl⟩ := own_slice ho3
        have HX := Lib.hid (H2.out.ext.trans hx3)
        have HR3 := Lib.hid (Rd.of_own ho3)
        clear hx3 ho3 H2
        go_wp2_with fail
        go_loopw [9] (fun i wr => ∃ k : Nat, k ≤ 4 ∧ i = .int .i64 k ∧ Ext w3 wr) (fun i _ => 4 - (intOf i).toNat)
        case atStart => exact ⟨0, Nat.zero_le _, rfl, Ext.refl _⟩
        case round =>
          obtain ⟨k, hk, rfl, hxr⟩ := hrel
          by_cases hlt : k < 4
          · obtain ⟨b, off, rfl, hcB⟩ := HR3.out.u8 (i := k) (by rw [digs_length]; exact hlt)
            have hw8 : IntKind.i64.wrap (8 * (k : Int)) = 8 * (k : Int) := IntWalk.i64_in _ (by omega)
            rw [digs_get _ hlt] at hcB
            replace hcB := hxr.cell hcB
            have HXR := Lib.hid hxr
            have HD : Hid ((((dig x0 k).toNat : Int) != x0 / 2 ^ (8 * k) % 256) = false) := Lib.hid (dig_ne x0 k)
            generalize (dig x0 k).toNat = y at *
            clear hxr
            go_wp2_with fail
            go_quiet (fail)
            generalize hw4 : World.drewN wr _ = w4
            have HX4 : Hid (Ext w3 w4) := Lib.hid (HXR.out.trans (hw4 ▸ Ext.drewN wr _))
            clear hw4 HXR
            rw [HD.out]
            go_wp2
            go_roundw
            case rel => exact ⟨k + 1, by omega, by go_num, HX4.out⟩
            case measure => simp [intOf]; omega
          · have HXR := Lib.hid hxr
            have hr4 := hxr.rd HR3.out
            clear hxr
            go_wp2_with fail
            rw [← HL.out]
            refine (newReader_any A3 c3 _ wr hr4 (by simp [digs_length])).mono ?_
            rintro e w5 ⟨p5, A5, c5, rfl, hp5, h5, hf5, hx5⟩
            have H5 := Lib.hid (RF.new (HX.out.trans HXR.out) h5 hp5 hf5 hx5)
            clear hp5 h5 hf5 hx5 HXR
            rw [HL.out]
            go_wp2_with fail
            refine (rnum_any p5 _ A5 c5 4 w5 H5.out.st (by omega)).mono ?_
            rintro e w6 ⟨rfl, A6, c6, h6⟩
            rw [HN.out] at h6 ⊢
            have H6 := Lib.hid (H5.out.to h6)
            clear H5 h6
            go_wp2_with fail
            refine (end_any p5 _ A6 c6 w6 H6.out.st).mono ?_
            rintro e w7 ⟨rfl, rfl⟩
            rw [show rend (0, []) = 0 from rfl]
            go_wp2
            go_ret
            exact ⟨rfl, H6.out.ext⟩
    · have hf : fitsB x0 8 = true := rfl
      have HW : Hid (wnum 8 (0, []) [x0] = (0, digs 8 x0)) := Lib.hid (by simp [wnum, wnum1, hs, hf])
      have HL := Lib.hid (digs_length 8 x0)
      have HN : Hid (rnum 8 (0, digs 8 x0) = (x0, (0, []))) := Lib.hid (by have := rnum_digs 8 x0 [] hs hf hx0; rwa [List.append_nil] at this)
      rw [HW.out] at h2
      have H2 := Lib.hid (H1.out.to h2)
      clear h2 H1 hs hf HW
      go_wp2_with fail
      refine (bytes_any w0.heap.size _ _ w2 H2.out.st (by simp [digs_length])).mono ?_
      rintro e w3 ⟨v3, rfl, hx3, ho3⟩
      rw [if_pos rfl, if_pos rfl] at ho3
      rw [digs_length] at ho3
      obtain ⟨A3, c3, rfl⟩ := own_slice ho3
      have HX := Lib.hid (H2.out.ext.trans hx3)
      have HR3 := Lib.hid (Rd.of_own ho3)
      clear hx3 ho3 H2
      go_wp2_with fail
      go_loopw [9] (fun i wr => ∃ k : Nat, k ≤ 8 ∧ i = .int .i64 k ∧ Ext w3 wr) (fun i _ => 8 - (intOf i).toNat)
      case atStart => exact ⟨0, Nat.zero_le _, rfl, Ext.refl _⟩
      case round =>
        obtain ⟨k, hk, rfl, hxr⟩ := hrel
        by_cases hlt : k < 8
        · obtain ⟨b, off, rfl, hcB⟩ := HR3.out.u8 (i := k) (by rw [digs_length]; exact hlt)
          have hw8 : IntKind.i64.wrap (8 * (k : Int)) = 8 * (k : Int) := IntWalk.i64_in _ (by omega)
          rw [digs_get _ hlt] at hcB
          replace hcB := hxr.cell hcB
          have HXR := Lib.hid hxr
          have HD : Hid ((((dig x0 k).toNat : Int) != x0 / 2 ^ (8 * k) % 256) = false) := Lib.hid (dig_ne x0 k)
          generalize (dig x0 k).toNat = y at *
          clear hxr
          go_wp2_with fail
          go_quiet (fail)
          generalize hw4 : World.drewN wr _ = w4
          have HX4 : Hid (Ext w3 w4) := Lib.hid (HXR.out.trans (hw4 ▸ Ext.drewN wr _))
          clear hw4 HXR
          rw [HD.out]
          go_wp2
          go_roundw
          case rel => exact ⟨k + 1, by omega, by go_num, HX4.out⟩
          case measure => simp [intOf]; omega
        · have HXR := Lib.hid hxr
          have hr4 := hxr.rd HR3.out
          clear hxr
          go_wp2_with fail
          rw [← HL.out]
          refine (newReader_any A3 c3 _ wr hr4 (by simp [digs_length])).mono ?_
          rintro e w5 ⟨p5, A5, c5, rfl, hp5, h5, hf5, hx5⟩
          have H5 := Lib.hid (RF.new (HX.out.trans HXR.out) h5 hp5 hf5 hx5)
          clear hp5 h5 hf5 hx5 HXR
          rw [HL.out]
          go_wp2_with fail
          refine (rnum_any p5 _ A5 c5 8 w5 H5.out.st (by omega)).mono ?_
          rintro e w6 ⟨rfl, A6, c6, h6⟩
          rw [HN.out] at h6 ⊢
          have H6 := Lib.hid (H5.out.to h6)
          clear H5 h6
          go_wp2_with fail
          refine (end_any p5 _ A6 c6 w6 H6.out.st).mono ?_
          rintro e w7 ⟨rfl, rfl⟩
          rw [show rend (0, []) = 0 from rfl]
          go_wp2
          go_ret
          exact ⟨rfl, H6.out.ext⟩

set_option maxRecDepth 100000 in
theorem lifted_CursorNumbers (os : Os) (started : os.Started) (H : Type) (enc : TypeId × Value → H) :
    ReturnsInHanded {} Try.checked os 4 .any (Rows.cursorNumbersSpec.pre6 enc Try.prog Try.f4 Rows.cursorNumbersRow.domain false) (Rows.cursorNumbersSpec.post enc Try.prog Try.f4 false true false false) := by
  refine returnsInHanded_of_change_sized (C := Try.checked) own started (by kernel_rfl) Try.func4
    (ChangeSpec.witness6 (enc := enc) (C := Try.checked) false ⟨#[], #[.int .i64 0, .int .i64 0], []⟩ 8 (by kernel_rfl) (by kernel_rfl) (by kernel_rfl) (by kernel_rfl)) ?_
  intro W base args ds gs before hval0 hW hcnd hsz0 _
  have hsz : (DataW.weightsEach Try.prog (Try.f4.params.toList ++ Rows.cursorNumbersSpec.plain.varTypes Try.prog) (ds ++ gs)).all (· ≤ reachBytes) = true := hsz0
  clear hsz0
  have hval : ∀ (j : Nat) t v, Try.f4.params[j]? = some t → args[j]? = some v → Value.okWide Try.prog W .any base t v := hval0
  have hW' := hW
  obtain ⟨p, q, hA0, hV, rfl, hfz, hnd⟩ := hW
  have hA : DataW.TrodAll enc Try.prog W 0 (fun _ => true) true Try.f4.params.toList args.toList ds p := hA0
  rw [Try.params4] at hA hval hsz
  obtain ⟨v0, vs0, d0, ds0, p0, q0, hargs, rfl, rfl, h0, r0⟩ := trodAll_cons hA
  obtain ⟨v1, vs1, d1, ds1, p1, q1, rfl, rfl, rfl, h1, r1⟩ := trodAll_cons r0
  obtain ⟨rfl, rfl, rfl⟩ := trodAll_nil r1
  obtain rfl : args = #[v0, v1] := by cases args; simp_all
  obtain ⟨rfl, rfl⟩ := trodVars_none hV
  have lt0 : ∀ x ∈ p0, x.block < W.heap.size := by obtain ⟨m, hm⟩ := h0; exact DataW.trod_lt m _ _ _ hm
  obtain ⟨x0, hx0⟩ := open_InInt Try.underlying3 (hval 0 3 v0 rfl rfl) h0 (light_each (j := 0) hsz rfl rfl)
  have lt1 : ∀ x ∈ p1, x.block < W.heap.size := by obtain ⟨m, hm⟩ := h1; exact DataW.trod_lt m _ _ _ hm
  obtain ⟨x1, hx1⟩ := open_InInt Try.underlying3 (hval 1 3 v1 rfl rfl) h1 (light_each (j := 1) hsz rfl rfl)
  clear hA0 hval0
  refine (walk_CursorNumbers v0 v1 x0 x1 W hx0 hx1).mono fun e W' ⟨he, bel⟩ => ?_
  subst he
  exact ⟨_, rfl, _, _, _, [], _, [], hW', trodAll_mk1 (shut_bool Try.underlying4 _), (trodAll_cons_mk (Below.trod laidOut (by kernel_rfl) (of_decide_eq_true (by kernel_rfl)) h0 bel lt0) (trodAll_cons_mk (Below.trod laidOut (by kernel_rfl) (of_decide_eq_true (by kernel_rfl)) h1 bel lt1) trodAll_mk0)), rfl, bel.frame _, fun h => by cases h⟩

theorem over_CursorNumbers : Rows.cursorNumbersRow.holds Try.pinned (OpenSpec.ofChange Rows.cursorNumbersSpec) :=
  OpenClaim.holds_of_wide 4 Try.f4 rfl rfl rfl rfl rfl rfl rfl ⟨rfl, rfl, rfl, rfl, rfl⟩ rfl rfl rfl rfl rfl (by kernel_rfl) Try.func4 (by kernel_rfl)
    (of_decide_eq_true (by kernel_rfl)) (by unfold Func.isWrapper; first | (rw [if_pos (by decide +kernel)]; kernel_rfl) | (rw [if_neg (by decide +kernel)]; exact ⟨rfl, rfl⟩))
    (fun os started H enc _ => lifted_CursorNumbers os started H enc)

/-- the statement -/
theorem holds_CursorNumbers : Rows.CursorNumbersSaid := over_CursorNumbers
#print axioms holds_CursorNumbers

end Go.Proofs.Ytjgghahjcmdnmaa
