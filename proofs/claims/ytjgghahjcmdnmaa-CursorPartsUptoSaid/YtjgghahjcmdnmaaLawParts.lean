/- CursorParts. -/
import Derived.Test.YtjgghahjcmdnmaaTwo
namespace Go.Proofs.Ytjgghahjcmdnmaa
open Go.ChangeShapes Go.WideShapes Go.ChangeAt Go.RowKit Pl
set_option linter.unusedVariables false

set_option maxHeartbeats 1600000 in
theorem walk_CursorParts (v0 v1 v2 : Value) (x0 : Int) (x1 : List Int) (x2 : List ByteArray) (w : World) (h0 : InInt w v0 x0) (h1 : InInts w v1 x1) (h2 : InStrs w v2 x2) (hk : x1.length + letters x2 ≤ 1048576) :
    Calls Try.prog 3 #[v0, v1, v2] w fun e w' => e = .returned (.bool true) ∧ Below w.heap.size w w' := by
  obtain ⟨rfl, hx0⟩ := h0
  obtain ⟨N, nc, rfl, hN, hnb, _⟩ := h1
  obtain ⟨S, sc, rfl, hS, hsb, _⟩ := h2
  have hk1 : x1.length ≤ 1048576 := by omega
  have hk2 : x2.length ≤ 1048576 := by have := letters_len x2; omega
  have HN := Lib.hid hN
  have HS := Lib.hid hS
  have HNB := Lib.hid hnb
  have HSB := Lib.hid hsb
  clear hN hS hnb hsb hk
  go_enter Try.func3, Try.ntmps3
  go_wp2_with fail
  refine (awake_any w).mono ?_
  rintro e w0 ⟨rfl, hx0'⟩
  go_wp2_with fail
  refine (newWriter_any w0).mono ?_
  rintro e w1 ⟨rfl, h1, hx1'⟩
  have H1 := Lib.hid (WF.new hx0' h1 hx1')
  clear h1 hx1' hx0'
  generalize w0.heap.size = pa at *
  go_wp2_with fail
  refine (newWriter_any w1).mono ?_
  rintro e w2 ⟨rfl, h2, hx2⟩
  have H2 := Lib.hid (W2.new H1.out h2 hx2)
  clear h2 hx2 H1
  generalize w1.heap.size = pb at *
  go_wp2_with fail
  refine (num_any pa _ _ x0 N nc x1 w2 H2.out.a.st (H2.out.a.ext.rd HN.out) HNB.out (HN.out.apart H2.out.a.foot) hx0 (by simp; omega)).mono ?_
  rintro e w3 ⟨rfl, va, h3⟩
  have hl3 := wnum_len_any x0 x1 (0, [])
  have HA : Hid (∃ z, wnum x0 (0, []) x1 = z) := Lib.hid ⟨_, rfl⟩
  generalize hs3 : wnum x0 (0, []) x1 = s3 at *
  have HS3 := Lib.hid hs3
  have H3 := Lib.hid (H2.out.toA h3)
  clear h3 H2 hs3 HA
  simp only [List.length_nil] at hl3
  go_wp2_with fail
  refine (text_any pa _ _ S sc x2 w3 H3.out.a.st (H3.out.a.ext.rd HS.out) (HS.out.apart H3.out.a.foot) (by omega) HSB.out).mono ?_
  rintro e w4 ⟨rfl, va4, h4⟩
  have hl4 := wtext_len_all (x2.map txt) s3
  rw [List.length_map] at hl4
  generalize hs4 : wtext s3 (x2.map txt) = s4 at *
  have HS4 := Lib.hid hs4
  have H4 := Lib.hid (H3.out.toA h4)
  clear h4 H3 hs4
  go_wp2_with fail
  refine (num_any pb _ _ x0 none 0 [] w4 H4.out.b.st (Rd.nil _ _) (fun _ h => by cases h) (fun b o e => by cases e) hx0 (by simp)).mono ?_
  rintro e w5 ⟨rfl, vb, h5⟩
  have H5 := Lib.hid (H4.out.toB h5)
  clear h5 H4
  have hl63 : x1.length ≤ 9223372036854775807 := by omega
  have hl64 : x2.length ≤ 9223372036854775807 := by omega
  go_wp2_with fail
  go_loopw [10] (fun i wr => ∃ (k : Nat) (vb : Value), k ≤ x1.length ∧ i = .int .i64 k ∧ W2 w wr pa s4 va4 pb (wnum x0 (0, []) (x1.take k)) vb) (fun i _ => x1.length - (intOf i).toNat)
  case atStart => exact ⟨0, vb, Nat.zero_le _, rfl, H5.out⟩
  case round =>
    clear H5
    obtain ⟨k, vb, hk, rfl, hw⟩ := hrel
    by_cases hlt : k < x1.length
    · obtain ⟨b, off, rfl, hb, hc⟩ := HN.out.int hlt
      have hts := take_snocI x1 k hlt
      have hnb := HNB.out _ (getD_memI (d := 0) hlt)
      have HE := Lib.hid (wnum_one_more x0 (0, []) (x1.take k) (x1.getD k 0))
      rw [← hts] at HE
      have hbl := wnum_len_any x0 (x1.take k) (0, [])
      rw [List.length_take, Nat.min_eq_left hk] at hbl
      simp only [List.length_nil] at hbl
      clear hts
      generalize wnum x0 (0, []) (x1.take k) = sk at *
      generalize x1.getD k 0 = n at *
      replace hc := hw.a.ext.cell hc
      have HW := Lib.hid hw
      clear hw
      go_wp2_with fail
      refine (num_one pb sk vb x0 n wr HW.out.b.st hnb hx0 (by omega)).mono ?_
      rintro e w6 ⟨rfl, vb6, h6⟩
      rw [HE.out] at h6
      have H6 := Lib.hid (HW.out.toB h6)
      clear h6 HW hc HE
      go_wp2
      go_roundw
      case rel => exact ⟨k + 1, vb6, by omega, by go_num, H6.out⟩
      case measure => simp [intOf]; omega
    · rw [show x1.take k = x1 from List.take_of_length_le (by omega), HS3.out] at hw
      have HW := Lib.hid hw
      clear hw
      go_wp2_with fail
      go_loopw [11] (fun i wr => ∃ (k : Nat) (vb : Value), k ≤ x2.length ∧ i = .int .i64 k ∧ W2 w wr pa s4 va4 pb (wtext s3 ((x2.map txt).take k)) vb) (fun i _ => x2.length - (intOf i).toNat)
      case atStart => exact ⟨0, vb, Nat.zero_le _, rfl, HW.out⟩
      case round =>
        clear HW hlt
        obtain ⟨j, ub, hj, rfl, hw⟩ := hrel
        by_cases hlt : j < x2.length
        · obtain ⟨b, off, rfl, hb, hc⟩ := HS.out.str hlt
          have hnb := HSB.out _ (getD_memI (d := default) hlt)
          have HE := Lib.hid (wtext_one_more s3 x2 hlt)
          have hbl := wtext_len (x2.map txt) j s3
          generalize wtext s3 ((x2.map txt).take j) = sk at *
          generalize x2.getD j default = s at *
          replace hc := hw.a.ext.cell hc
          have HW := Lib.hid hw
          clear hw
          go_wp2_with fail
          refine (text_one pb sk ub s wr HW.out.b.st hnb (by omega)).mono ?_
          rintro e w6 ⟨rfl, vb6, h6⟩
          rw [HE.out] at h6
          have H6 := Lib.hid (HW.out.toB h6)
          clear h6 HW hc HE
          go_wp2
          go_roundw
          case rel => exact ⟨j + 1, vb6, by omega, by go_num, H6.out⟩
          case measure => simp [intOf]; omega
        · rw [show (x2.map txt).take j = x2.map txt from List.take_of_length_le (by simp; omega), HS4.out] at hw
          have HW := Lib.hid hw
          clear hw
          go_wp2_with fail
          refine (bytes_got pa s4 va4 wr HW.out.a.st (by omega)).mono ?_
          rintro e w7 ⟨A7, c7, rfl, hx7, ho7⟩
          have HW7 := Lib.hid (HW.out.ex hx7)
          have HR7 := Lib.hid (Rd.of_own ho7)
          clear hx7 ho7 HW
          go_wp2_with fail
          refine (bytes_got pb s4 ub w7 HW7.out.b.st (by omega)).mono ?_
          rintro e w8 ⟨A8, c8, rfl, hx8, ho8⟩
          have HW8 := Lib.hid (HW7.out.ex hx8)
          have cv1 := conv_bytes w8 A7 c7 (wgot s4) (hx8.rd HR7.out)
          have cv2 := conv_bytes w8 A8 c8 (wgot s4) (Rd.of_own ho8)
          clear hx8 ho8 HW7 HR7
          go_wp2
          go_ret
          exact ⟨rfl, HW8.out.a.ext⟩

set_option maxRecDepth 100000 in
theorem liftedU_CursorParts (os : Os) (started : os.Started) (H : Type) (enc : TypeId × Value → H) (F : Stop.Interp) :
    ReturnsInHanded {} Try.checked os 3 .any ((Rows.OpenSpec.upto Rows.cursorPartsSpec).pre6 enc Try.prog Try.f3 Rows.cursorPartsUptoRow.domain false) (((Rows.OpenSpec.upto Rows.cursorPartsSpec).at F).post enc Try.prog Try.f3 false true false false) := by
  refine returnsInHanded_of_cond_sized (C := Try.checked) (s := Rows.OpenSpec.upto Rows.cursorPartsSpec) (k := Rows.uptoSmall) rfl own started (by kernel_rfl) Try.func3
    (OpenSpec.witness (enc := enc) (C := Try.checked) (s := Rows.OpenSpec.upto Rows.cursorPartsSpec) (k := Rows.uptoSmall) rfl false ⟨#[], #[.int .i64 0, .slice none 0 0, .slice none 0 0], []⟩ 8 (by kernel_rfl) (by kernel_rfl) (by kernel_rfl)
      (x := ([.lit (.int .i64 0), .nil, .nil], [], [])) (by kernel_rfl) rfl (by kernel_rfl)) ?_
  intro W base args ds gs before hval0 hW _ hk0 hsz0 _
  have hsz : (DataW.weightsEach Try.prog (Try.f3.params.toList ++ Rows.cursorPartsSpec.plain.varTypes Try.prog) (ds ++ gs)).all (· ≤ reachBytes) = true := hsz0
  clear hsz0
  have hval : ∀ (j : Nat) t v, Try.f3.params[j]? = some t → args[j]? = some v → Value.okWide Try.prog W .any base t v := hval0
  have hW' := hW
  obtain ⟨p, q, hA0, hV, rfl, hfz, hnd⟩ := hW
  have hA : DataW.TrodAll enc Try.prog W 0 (fun _ => true) true Try.f3.params.toList args.toList ds p := hA0
  rw [Try.params3] at hA hval hsz
  obtain ⟨v0, vs0, d0, ds0, p0, q0, hargs, rfl, rfl, h0, r0⟩ := trodAll_cons hA
  obtain ⟨v1, vs1, d1, ds1, p1, q1, rfl, rfl, rfl, h1, r1⟩ := trodAll_cons r0
  obtain ⟨v2, vs2, d2, ds2, p2, q2, rfl, rfl, rfl, h2, r2⟩ := trodAll_cons r1
  obtain ⟨rfl, rfl, rfl⟩ := trodAll_nil r2
  obtain rfl : args = #[v0, v1, v2] := by cases args; simp_all
  obtain ⟨rfl, rfl⟩ := trodVars_none hV
  have hk : Rows.uptoBulkAll [d0, d1, d2] ≤ 1048576 := of_decide_eq_true hk0
  simp only [Rows.uptoBulkAll] at hk
  have lt0 : ∀ x ∈ p0, x.block < W.heap.size := by obtain ⟨m, hm⟩ := h0; exact DataW.trod_lt m _ _ _ hm
  obtain ⟨x0, hx0, hb0⟩ := open_InIntU (hval 0 3 v0 rfl rfl) h0 (light_each (j := 0) hsz rfl rfl)
  have lt1 : ∀ x ∈ p1, x.block < W.heap.size := by obtain ⟨m, hm⟩ := h1; exact DataW.trod_lt m _ _ _ hm
  obtain ⟨x1, hx1, hb1⟩ := open_InIntsU (hval 1 22 v1 rfl rfl) h1 (light_each (j := 1) hsz rfl rfl)
  have lt2 : ∀ x ∈ p2, x.block < W.heap.size := by obtain ⟨m, hm⟩ := h2; exact DataW.trod_lt m _ _ _ hm
  obtain ⟨x2, hx2, hb2⟩ := open_InStrsU (hval 2 23 v2 rfl rfl) h2 (light_each (j := 2) hsz rfl rfl)
  clear hA0 hval0
  refine (walk_CursorParts v0 v1 v2 x0 x1 x2 W hx0 hx1 hx2 (by omega)).mono fun e W' ⟨he, bel⟩ => ?_
  subst he
  exact ⟨_, rfl, _, _, _, [], _, [], hW', trodAll_mk1 (shut_bool Try.underlying4 _), (trodAll_cons_mk (Below.trod laidOut (by kernel_rfl) (of_decide_eq_true (by kernel_rfl)) h0 bel lt0) (trodAll_cons_mk (Below.trod laidOut (by kernel_rfl) (of_decide_eq_true (by kernel_rfl)) h1 bel lt1) (trodAll_cons_mk (Below.trod laidOut (by kernel_rfl) (of_decide_eq_true (by kernel_rfl)) h2 bel lt2) trodAll_mk0))), rfl, bel.frame _, fun h => by cases h⟩

/-- the statement, where what comes in is of bulk at most 1048576 -/
theorem holds_CursorPartsUpto : Rows.CursorPartsUptoSaid :=
  OpenClaim.holds_of_cond 3 Try.f3 rfl rfl rfl rfl rfl rfl rfl ⟨rfl, rfl, rfl, rfl, rfl⟩ rfl rfl rfl rfl rfl (by kernel_rfl) Try.func3 (by kernel_rfl)
    (of_decide_eq_true (by kernel_rfl)) (by unfold Func.isWrapper; first | (rw [if_pos (by decide +kernel)]; kernel_rfl) | (rw [if_neg (by decide +kernel)]; exact ⟨rfl, rfl⟩))
    (fun os started H enc _ F => liftedU_CursorParts os started H enc F)
#print axioms holds_CursorPartsUpto

end Go.Proofs.Ytjgghahjcmdnmaa
