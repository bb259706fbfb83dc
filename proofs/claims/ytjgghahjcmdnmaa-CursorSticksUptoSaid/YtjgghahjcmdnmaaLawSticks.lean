/- CursorSticks. -/
import Derived.Test.YtjgghahjcmdnmaaWrit
namespace Go.Proofs.Ytjgghahjcmdnmaa
open Go.ChangeShapes Go.WideShapes Go.ChangeAt Go.RowKit Pl
set_option linter.unusedVariables false

/-- no error is undone -/
theorem wput_stuck (st : WS) (p : Pc) (h : st.1 ≠ 0) : wput st p = st := by
  unfold wput
  split
  · exact wnum_stuck _ _ _ h
  split
  · unfold wtext
    generalize p.ss.map txt = l
    induction l with
    | nil => rfl
    | cons s r ih => rw [List.foldl_cons]; simpa [wtext1, h] using ih
  split
  · simp [wblock, h]
  split
  · exact wraw_stuck _ _ h
  · rfl

theorem wputs_stuck (st : WS) (ps : List Pc) (h : st.1 ≠ 0) : wputs st ps = st := by
  induction ps with
  | nil => rfl
  | cons p r ih =>
    have e : wputs st (p :: r) = wputs (wput st p) r := rfl
    rw [e, wput_stuck st p h]
    exact ih

/-- what stands ahead does not change the error -/
theorem wnum_err (size : Int) (ns : List Int) : ∀ a b : List UInt8, (wnum size (0, a) ns).1 = (wnum size (0, b) ns).1 := by
  cases hs : sizedB size
  · intro a b; rw [wnum_unsized _ _ _ hs, wnum_unsized _ _ _ hs]; rfl
  · unfold wnum
    rw [hs]
    simp only [if_true]
    induction ns with
    | nil => intro a b; rfl
    | cons n r ih =>
      intro a b
      rw [List.foldl_cons, List.foldl_cons]
      cases hf : fitsB n size
      · have ea : wnum1 size (0, a) n = (10, a) := by simp [wnum1, hf]
        have eb : wnum1 size (0, b) n = (10, b) := by simp [wnum1, hf]
        rw [ea, eb, wnum1_stuck _ _ _ (by simp), wnum1_stuck _ _ _ (by simp)]
      · have ea : wnum1 size (0, a) n = (0, a ++ digs size.toNat n) := by simp [wnum1, hf]
        have eb : wnum1 size (0, b) n = (0, b ++ digs size.toNat n) := by simp [wnum1, hf]
        rw [ea, eb]
        exact ih _ _

theorem wtext_stuck (ss : List (List UInt8)) (st : WS) (h : st.1 ≠ 0) : wtext st ss = st := by
  unfold wtext
  induction ss with
  | nil => rfl
  | cons s r ih => rw [List.foldl_cons]; simpa [wtext1, h] using ih

theorem wtext_err (ss : List (List UInt8)) : ∀ a b : List UInt8, (wtext (0, a) ss).1 = (wtext (0, b) ss).1 := by
  induction ss with
  | nil => intro a b; rfl
  | cons s r ih =>
    intro a b
    have e : ∀ x : List UInt8, wtext (0, x) (s :: r) = wtext (wtext1 (0, x) s) r := fun _ => rfl
    rw [e, e]
    by_cases h : s.length ≤ 4096
    · have ea : ∀ x : List UInt8, wtext1 (0, x) s = (0, x ++ (digs 2 s.length ++ s)) := by intro x; simp [wtext1, h]
      rw [ea, ea]
      exact ih _ _
    · have ea : ∀ x : List UInt8, wtext1 (0, x) s = (2, x) := by intro x; simp [wtext1, h]
      rw [ea, ea, wtext_stuck _ _ (by simp), wtext_stuck _ _ (by simp)]

theorem wput_err (p : Pc) (a b : List UInt8) : (wput (0, a) p).1 = (wput (0, b) p).1 := by
  unfold wput
  split
  · exact wnum_err _ _ _ _
  split
  · exact wtext_err _ _ _
  split
  · by_cases hb : p.bs.length ≤ 1048576 <;> simp [wblock, hb]
  split
  · rfl
  · rfl

theorem sticks_bad (st : WS) (p : Pc) (h : st.1 = 0) (he : (wput (0, []) p).1 ≠ 0) : (wput st p).1 = (wput (0, []) p).1 ∧ wgot (wput st p) = [] := by
  obtain ⟨E, bs⟩ := st
  simp only at h
  subst h
  have h1 := wput_err p bs []
  refine ⟨h1, ?_⟩
  unfold wgot
  rw [if_neg (by rw [h1]; exact he)]

set_option maxHeartbeats 1600000 in
theorem walk_CursorSticks (v0 v1 v2 : Value) (x0 : List Pc) (x1 : Pc) (x2 : List Pc) (w : World) (h0 : InPcs w v0 x0) (h1 : InPc w v1 x1) (h2 : InPcs w v2 x2) (hk : bulks x0 + x1.bulk + bulks x2 ≤ 1048576) :
    Calls Try.prog 6 #[v0, v1, v2] w fun e w' => e = .returned (.bool true) ∧ Below w.heap.size w w' := by
  obtain ⟨A, ac, rfl, hA, hAi, _⟩ := h0
  obtain ⟨rfl, hB⟩ := h1
  obtain ⟨C, cc, rfl, hC, hCi, _⟩ := h2
  have HA := Lib.hid hA
  have HAI := Lib.hid hAi
  have HB := Lib.hid hB
  have HC := Lib.hid hC
  have HCI := Lib.hid hCi
  have hl0 : x0.length ≤ 9223372036854775807 := by have := bulks_len x0; omega
  have hl2 : x2.length ≤ 9223372036854775807 := by have := bulks_len x2; omega
  have hlA := wputs_len x0 (0, [])
  simp only [List.length_nil] at hlA
  have hlB := wput_len (0, []) x1
  simp only [List.length_nil] at hlB
  clear hA hAi hB hC hCi
  go_enter Try.func6, Try.ntmps6
  go_wp2_with fail
  refine (awake_any _).mono ?_
  rintro e w0 ⟨rfl, hx0⟩
  have HBK : Hid (Blk (w.alloc (.cells x1.vals.toArray 44)) w.heap.size 44 x1.vals.toArray) := Lib.hid (Blk.new _ _ _)
  have HWB : Hid (Ext w (w.alloc (.cells x1.vals.toArray 44))) := Lib.hid (Ext.alloc _ _)
  generalize w.alloc (.cells x1.vals.toArray 44) = wb at *
  replace HA := Lib.hid (HA.out.ext HWB.out)
  replace HAI := Lib.hid (fun p hp => (HAI.out p hp).ext HWB.out)
  replace HB := Lib.hid (HB.out.ext HWB.out)
  replace HC := Lib.hid (HC.out.ext HWB.out)
  replace HCI := Lib.hid (fun p hp => (HCI.out p hp).ext HWB.out)
  have HX0 := Lib.hid hx0
  clear hx0
  go_wp2_with fail
  refine (written_any A ac x0 w0 (HA.out.ext HX0.out) (fun p hp => (HAI.out p hp).ext HX0.out) (by omega)).mono ?_
  rintro e w1 ⟨A1, c1, rfl, hx1, _⟩
  have HX1 := Lib.hid (HX0.out.trans hx1)
  clear hx1 HX0
  go_wp2_with fail
  refine (newWriter_any w1).mono ?_
  rintro e w2 ⟨rfl, h2, hx2⟩
  have H2 := Lib.hid (WF.new HX1.out h2 hx2)
  clear h2 hx2
  generalize w1.heap.size = pa at *
  go_wp2_with fail
  refine (newWriter_any w2).mono ?_
  rintro e w3 ⟨rfl, h3, hx3⟩
  have H3 := Lib.hid (W2.new H2.out h3 hx3)
  clear h3 hx3 H2 HX1
  generalize w2.heap.size = pb at *
  have hbk := H3.out.a.ext.blk HBK.out
  have c0 : w3.cell? ⟨w.heap.size, 0, none⟩ = some (.int .i64 x1.kind) := hbk.cell 0 rfl
  have c1' : w3.cell? ⟨w.heap.size, 1, none⟩ = some (.int .i64 x1.size) := hbk.cell 1 rfl
  have c2 : w3.cell? ⟨w.heap.size, 2, none⟩ = some (.int .i64 x1.n) := hbk.cell 2 rfl
  have c3 : w3.cell? ⟨w.heap.size, 3, none⟩ = some (.slice x1.NA x1.ns.length x1.nc) := hbk.cell 3 rfl
  have c4 : w3.cell? ⟨w.heap.size, 4, none⟩ = some (.slice x1.SA x1.ss.length x1.sc) := hbk.cell 4 rfl
  have c5 : w3.cell? ⟨w.heap.size, 5, none⟩ = some (.slice x1.BA x1.bs.length x1.bc) := hbk.cell 5 rfl
  clear hbk
  go_wp2_with fail
  refine (put_any pb _ _ x1 w3 H3.out.b.st (HB.out.ext H3.out.b.ext) (HB.out.apart H3.out.b.foot) (by simp; omega)).mono ?_
  rintro e w4 ⟨rfl, v4, h4⟩
  have H4 := Lib.hid (H3.out.toB h4)
  clear h4 H3 c0 c1' c2 c3 c4 c5
  go_wp2_with fail
  refine (bytes_got pb _ v4 w4 H4.out.b.st (by omega)).mono ?_
  rintro e w5 ⟨A5, c5, rfl, hx5, _⟩
  have H5 := Lib.hid (H4.out.ex hx5)
  clear hx5 H4
  by_cases hok : (wputs (0, []) x0).1 = 0
  · by_cases hE : (wput (0, []) x1).1 = 0
    · rw [hE]
      have hok' : ((wputs (0, []) x0).1 == 0) = true := by simp [hok]
      rw [hok']
      clear hok hok' hE
      go_wp2
      go_ret
      exact ⟨rfl, HWB.out.trans H5.out.a.ext⟩
    · have hok' : ((wputs (0, []) x0).1 == 0) = true := by simp [hok]
      have hE' : ((wput (0, []) x1).1 == 0) = false := by simp [hE]
      have HOK := Lib.hid hok
      have HE := Lib.hid hE
      rw [hok']
      clear hok hE
      go_wp2_with fail
      go_loopw [14] (fun i wr => ∃ (k : Nat) (v : Value), k ≤ x0.length ∧ i = .int .i64 k ∧ WF wb wr pa (wputs (0, []) (x0.take k)) v) (fun i _ => x0.length - (intOf i).toNat)
      case atStart => exact ⟨0, _, Nat.zero_le _, rfl, H5.out.a⟩
      case round =>
        clear H5
        obtain ⟨k, v, hkl, rfl, hw⟩ := hrel
        by_cases hlt : k < x0.length
        · obtain ⟨b, off, rfl, c0, c1, c2, c3, c4, c5⟩ := HA.out.at hlt
          have hp := HAI.out _ (List.getElem_mem hlt)
          have HE1 := Lib.hid (wputs_snoc (0, []) x0 hlt)
          have hb1 := wputs_len (x0.take k) (0, [])
          have hb2 := bulks_snoc x0 hlt
          have hb3 := bulks_take x0 (k + 1)
          simp only [List.length_nil] at hb1
          generalize wputs (0, []) (x0.take k) = sk at *
          generalize x0[k] = p at *
          replace c0 := hw.ext.cell c0
          replace c1 := hw.ext.cell c1
          replace c2 := hw.ext.cell c2
          replace c3 := hw.ext.cell c3
          replace c4 := hw.ext.cell c4
          replace c5 := hw.ext.cell c5
          have HW := Lib.hid hw
          have HPI := Lib.hid (hp.ext hw.ext)
          have HPA := Lib.hid (hp.apart hw.foot)
          clear hw hp
          go_wp2_with fail
          refine (put_any pa sk v p wr HW.out.st HPI.out HPA.out (by omega)).mono ?_
          rintro e w2 ⟨rfl, v2, h2⟩
          have H2 := Lib.hid (HW.out.to h2)
          clear h2 HW HPI HPA c0 c1 c2 c3 c4 c5
          go_wp2
          go_roundw
          case rel => exact ⟨k + 1, v2, by omega, by go_num, by rw [HE1.out]; exact H2.out⟩
          case measure => simp [intOf]; omega
        · rw [show x0.take k = x0 from List.take_of_length_le (by omega)] at hw
          have HW := Lib.hid hw
          have hbk := hw.ext.blk HBK.out
          have c0 : wr.cell? ⟨w.heap.size, 0, none⟩ = some (.int .i64 x1.kind) := hbk.cell 0 rfl
          have c1' : wr.cell? ⟨w.heap.size, 1, none⟩ = some (.int .i64 x1.size) := hbk.cell 1 rfl
          have c2 : wr.cell? ⟨w.heap.size, 2, none⟩ = some (.int .i64 x1.n) := hbk.cell 2 rfl
          have c3 : wr.cell? ⟨w.heap.size, 3, none⟩ = some (.slice x1.NA x1.ns.length x1.nc) := hbk.cell 3 rfl
          have c4 : wr.cell? ⟨w.heap.size, 4, none⟩ = some (.slice x1.SA x1.ss.length x1.sc) := hbk.cell 4 rfl
          have c5 : wr.cell? ⟨w.heap.size, 5, none⟩ = some (.slice x1.BA x1.bs.length x1.bc) := hbk.cell 5 rfl
          clear hw hbk
          go_wp2_with fail
          refine (put_any pa _ v x1 wr HW.out.st (HB.out.ext HW.out.ext) (HB.out.apart HW.out.foot) (by omega)).mono ?_
          rintro e w2 ⟨rfl, v2, h2⟩
          have H2 := Lib.hid (HW.out.to h2)
          clear h2 HW c0 c1' c2 c3 c4 c5
          have hbad := sticks_bad (wputs (0, []) x0) x1 HOK.out HE.out
          have hln := wput_len (wputs (0, []) x0) x1
          generalize hs2 : wput (wputs (0, []) x0) x1 = s2 at *
          clear hs2
          have HS2 := Lib.hid hbad.1
          have HG2 := Lib.hid hbad.2
          have HS3 : Hid (s2.1 ≠ 0) := Lib.hid (by rw [hbad.1]; exact HE.out)
          clear hbad
          go_wp2_with fail
          go_loopw [15] (fun i wr => ∃ (k : Nat) (v : Value), k ≤ x2.length ∧ i = .int .i64 k ∧ WF wb wr pa s2 v) (fun i _ => x2.length - (intOf i).toNat)
          case atStart => exact ⟨0, _, Nat.zero_le _, rfl, H2.out⟩
          case round =>
            clear H2 hlt
            obtain ⟨j, u, hjl, rfl, hw⟩ := hrel
            by_cases hlt : j < x2.length
            · obtain ⟨b, off, rfl, c0, c1, c2, c3, c4, c5⟩ := HC.out.at hlt
              have hp := HCI.out _ (List.getElem_mem hlt)
              have hb2 := bulks_snoc x2 hlt
              have hb3 := bulks_take x2 (j + 1)
              have HE1 := Lib.hid (wput_stuck s2 x2[j] HS3.out)
              generalize x2[j] = p at *
              replace c0 := hw.ext.cell c0
              replace c1 := hw.ext.cell c1
              replace c2 := hw.ext.cell c2
              replace c3 := hw.ext.cell c3
              replace c4 := hw.ext.cell c4
              replace c5 := hw.ext.cell c5
              have HW := Lib.hid hw
              have HPI := Lib.hid (hp.ext hw.ext)
              have HPA := Lib.hid (hp.apart hw.foot)
              clear hw hp
              go_wp2_with fail
              refine (put_any pa s2 u p wr HW.out.st HPI.out HPA.out (by omega)).mono ?_
              rintro e w2 ⟨rfl, v2, h2⟩
              rw [HE1.out] at h2
              have H2 := Lib.hid (HW.out.to h2)
              clear h2 HW HPI HPA c0 c1 c2 c3 c4 c5
              go_wp2
              go_roundw
              case rel => exact ⟨j + 1, v2, by omega, by go_num, H2.out⟩
              case measure => simp [intOf]; omega
            · have HW := Lib.hid hw
              clear hw
              go_wp2_with fail
              refine (bytes_got pa s2 u wr HW.out.st (by omega)).mono ?_
              rintro e w7 ⟨A7, c7, rfl, hx7, _⟩
              have HX := Lib.hid (HW.out.ext.trans hx7)
              rw [HG2.out, HS2.out]
              clear hx7 HW
              go_wp2
              go_ret
              exact ⟨rfl, HWB.out.trans HX.out⟩
  · have hok' : ((wputs (0, []) x0).1 == 0) = false := by simp [hok]
    rw [hok']
    clear hok hok'
    go_wp2
    go_ret
    exact ⟨rfl, HWB.out.trans H5.out.a.ext⟩

set_option maxRecDepth 100000 in
theorem liftedU_CursorSticks (os : Os) (started : os.Started) (H : Type) (enc : TypeId × Value → H) (F : Stop.Interp) :
    ReturnsInHanded {} Try.checked os 6 .any ((Rows.OpenSpec.upto Rows.cursorSticksSpec).pre6 enc Try.prog Try.f6 Rows.cursorSticksUptoRow.domain false) (((Rows.OpenSpec.upto Rows.cursorSticksSpec).at F).post enc Try.prog Try.f6 false true false false) := by
  refine returnsInHanded_of_cond_sized (C := Try.checked) (s := Rows.OpenSpec.upto Rows.cursorSticksSpec) (k := Rows.uptoSmall) rfl own started (by kernel_rfl) Try.func6
    (OpenSpec.witness (enc := enc) (C := Try.checked) (s := Rows.OpenSpec.upto Rows.cursorSticksSpec) (k := Rows.uptoSmall) rfl false ⟨#[], #[.slice none 0 0, .agg #[.int .i64 0, .int .i64 0, .int .i64 0, .slice none 0 0, .slice none 0 0, .slice none 0 0], .slice none 0 0], []⟩ 8 (by kernel_rfl) (by kernel_rfl) (by kernel_rfl)
      (x := ([.nil, .agg [.lit (.int .i64 0), .lit (.int .i64 0), .lit (.int .i64 0), .nil, .nil, .nil], .nil], [], [])) (by kernel_rfl) rfl (by kernel_rfl)) ?_
  intro W base args ds gs before hval0 hW _ hk0 hsz0 _
  have hsz : (DataW.weightsEach Try.prog (Try.f6.params.toList ++ Rows.cursorSticksSpec.plain.varTypes Try.prog) (ds ++ gs)).all (· ≤ reachBytes) = true := hsz0
  clear hsz0
  have hval : ∀ (j : Nat) t v, Try.f6.params[j]? = some t → args[j]? = some v → Value.okWide Try.prog W .any base t v := hval0
  have hW' := hW
  obtain ⟨p, q, hA0, hV, rfl, hfz, hnd⟩ := hW
  have hA : DataW.TrodAll enc Try.prog W 0 (fun _ => true) true Try.f6.params.toList args.toList ds p := hA0
  rw [Try.params6] at hA hval hsz
  obtain ⟨v0, vs0, d0, ds0, p0, q0, hargs, rfl, rfl, h0, r0⟩ := trodAll_cons hA
  obtain ⟨v1, vs1, d1, ds1, p1, q1, rfl, rfl, rfl, h1, r1⟩ := trodAll_cons r0
  obtain ⟨v2, vs2, d2, ds2, p2, q2, rfl, rfl, rfl, h2, r2⟩ := trodAll_cons r1
  obtain ⟨rfl, rfl, rfl⟩ := trodAll_nil r2
  obtain rfl : args = #[v0, v1, v2] := by cases args; simp_all
  obtain ⟨rfl, rfl⟩ := trodVars_none hV
  have hk : Rows.uptoBulkAll [d0, d1, d2] ≤ 1048576 := of_decide_eq_true hk0
  simp only [Rows.uptoBulkAll] at hk
  have lt0 : ∀ x ∈ p0, x.block < W.heap.size := by obtain ⟨m, hm⟩ := h0; exact DataW.trod_lt m _ _ _ hm
  obtain ⟨x0, hx0, hb0⟩ := open_InPcsU (hval 0 39 v0 rfl rfl) h0 (light_each (j := 0) hsz rfl rfl)
  have lt1 : ∀ x ∈ p1, x.block < W.heap.size := by obtain ⟨m, hm⟩ := h1; exact DataW.trod_lt m _ _ _ hm
  obtain ⟨x1, hx1, hb1⟩ := open_InPcU (hval 1 44 v1 rfl rfl) h1 (light_each (j := 1) hsz rfl rfl)
  have lt2 : ∀ x ∈ p2, x.block < W.heap.size := by obtain ⟨m, hm⟩ := h2; exact DataW.trod_lt m _ _ _ hm
  obtain ⟨x2, hx2, hb2⟩ := open_InPcsU (hval 2 39 v2 rfl rfl) h2 (light_each (j := 2) hsz rfl rfl)
  clear hA0 hval0
  refine (walk_CursorSticks v0 v1 v2 x0 x1 x2 W hx0 hx1 hx2 (by omega)).mono fun e W' ⟨he, bel⟩ => ?_
  subst he
  exact ⟨_, rfl, _, _, _, [], _, [], hW', trodAll_mk1 (shut_bool Try.underlying4 _), (trodAll_cons_mk (Below.trod laidOut (by kernel_rfl) (of_decide_eq_true (by kernel_rfl)) h0 bel lt0) (trodAll_cons_mk (Below.trod laidOut (by kernel_rfl) (of_decide_eq_true (by kernel_rfl)) h1 bel lt1) (trodAll_cons_mk (Below.trod laidOut (by kernel_rfl) (of_decide_eq_true (by kernel_rfl)) h2 bel lt2) trodAll_mk0))), rfl, bel.frame _, fun h => by cases h⟩

/-- the statement, where what comes in is of bulk at most 1048576 -/
theorem holds_CursorSticksUpto : Rows.CursorSticksUptoSaid :=
  OpenClaim.holds_of_cond 6 Try.f6 rfl rfl rfl rfl rfl rfl rfl ⟨rfl, rfl, rfl, rfl, rfl⟩ rfl rfl rfl rfl rfl (by kernel_rfl) Try.func6 (by kernel_rfl)
    (of_decide_eq_true (by kernel_rfl)) (by unfold Func.isWrapper; first | (rw [if_pos (by decide +kernel)]; kernel_rfl) | (rw [if_neg (by decide +kernel)]; exact ⟨rfl, rfl⟩))
    (fun os started H enc _ F => liftedU_CursorSticks os started H enc F)
#print axioms holds_CursorSticksUpto

end Go.Proofs.Ytjgghahjcmdnmaa
