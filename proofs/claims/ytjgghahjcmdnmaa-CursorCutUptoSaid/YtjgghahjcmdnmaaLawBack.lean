/- CursorBack. -/
import Derived.Test.YtjgghahjcmdnmaaSameP
namespace Go.Proofs.Ytjgghahjcmdnmaa
open Go.ChangeShapes Go.WideShapes Go.ChangeAt Go.RowKit Pl
set_option linter.unusedVariables false

def pbytesAll (ps : List Pc) : List UInt8 := ps.flatMap pbytes

theorem wput_stuck' (st : WS) (p : Pc) (h : st.1 ≠ 0) : (wput st p).1 ≠ 0 := by
  have e : wput st p = st := by
    unfold wput
    split
    · exact wnum_stuck _ _ _ h
    split
    · unfold wtext
      generalize p.ss.map txt = l
      induction l with
      | nil => rfl
      | cons s r ih => rw [List.foldl_cons]; simpa [wtext1, h] using ih
    split
    · simp [wblock, h]
    split
    · exact wraw_stuck _ _ h
    · rfl
  rw [e]; exact h

theorem wputs_stuck' (ps : List Pc) : ∀ st : WS, st.1 ≠ 0 → (wputs st ps).1 ≠ 0 := by
  induction ps with
  | nil => intro st h; exact h
  | cons p r ih => intro st h; exact ih (wput st p) (wput_stuck' st p h)

/-- each piece of what was written in full is read back -/
theorem wputs_ok (ps : List Pc) (hn : ∀ p ∈ ps, ∀ n ∈ p.ns, -9223372036854775808 ≤ n ∧ n ≤ 9223372036854775807) : ∀ b : List UInt8, (wputs (0, b) ps).1 = 0 →
    wputs (0, b) ps = (0, b ++ pbytesAll ps) ∧ ∀ p ∈ ps, (∀ r, psame (0, pbytes p ++ r) p = (true, (0, r))) ∧ ∀ k, k < (pbytes p).length → Short k (psame (0, (pbytes p).take k) p).2 := by
  induction ps with
  | nil => intro b _; exact ⟨by simp [wputs, pbytesAll], fun p hp => by cases hp⟩
  | cons p r ih =>
    intro b h
    have e : wputs (0, b) (p :: r) = wputs (wput (0, b) p) r := rfl
    rw [e] at h ⊢
    by_cases h0 : (wput (0, b) p).1 = 0
    · obtain ⟨h1, h2⟩ := piece_law p b (hn p (by simp)) h0
      rw [h1] at h ⊢
      obtain ⟨h3, h4⟩ := ih (fun q hq => hn q (by simp [hq])) _ h
      refine ⟨by rw [h3]; simp [pbytesAll], fun q hq => ?_⟩
      rcases List.mem_cons.1 hq with rfl | hq
      · exact h2
      · exact h4 q hq
    · exact absurd h (wputs_stuck' r _ h0)

set_option maxHeartbeats 1600000 in
theorem walk_CursorBack (v0 : Value) (x0 : List Pc) (w : World) (h0 : InPcs w v0 x0) (hk : bulks x0 + 1 ≤ 1048576) :
    Calls Try.prog 9 #[v0] w fun e w' => e = .returned (.bool true) ∧ Below w.heap.size w w' := by
  obtain ⟨A, ac, rfl, hA, hAi, _⟩ := h0
  have HA := Lib.hid hA
  have HAI := Lib.hid hAi
  have hl0 : x0.length ≤ 9223372036854775807 := by have := bulks_len x0; omega
  have hlA := wputs_len x0 (0, [])
  simp only [List.length_nil] at hlA
  have hlg := wgot_len (wputs (0, []) x0)
  clear hA hAi
  go_enter Try.func9, Try.ntmps9
  go_wp2_with fail
  refine (awake_any _).mono ?_
  rintro e w0 ⟨rfl, hx0⟩
  have HX0 := Lib.hid hx0
  clear hx0
  go_wp2_with fail
  refine (written_any A ac x0 w0 (HA.out.ext HX0.out) (fun p hp => (HAI.out p hp).ext HX0.out) (by omega)).mono ?_
  rintro e w1 ⟨A1, c1, rfl, hx1, ho1⟩
  have HX1 := Lib.hid (HX0.out.trans hx1)
  have HR1 := Lib.hid (Rd.of_own ho1)
  clear hx1 HX0 ho1
  by_cases hok : (wputs (0, []) x0).1 = 0
  · have hok' : ((wputs (0, []) x0).1 == 0) = true := by simp [hok]
    obtain ⟨hw, hps⟩ := wputs_ok x0 (fun p hp => (HAI.out p hp).nb) [] hok
    have hg : wgot (wputs (0, []) x0) = pbytesAll x0 := by rw [hw]; simp [wgot]
    rw [hok']
    rw [hg] at HR1 hlg ⊢
    have HPS := Lib.hid hps
    clear hok hok' hw hps hg
    go_wp2_with fail
    refine (newReader_any A1 c1 _ w1 HR1.out (by omega)).mono ?_
    rintro e w2 ⟨q, A2, c2, rfl, hq2, h2, hf2, hx2⟩
    have H2 := Lib.hid (RF.new HX1.out h2 hq2 hf2 hx2)
    clear hq2 h2 hf2 hx2 HX1 HR1
    go_wp2_with fail
    go_loopw [7] (fun i wr => ∃ (k : Nat) (A' : Option Addr) (c' : Nat), k ≤ x0.length ∧ i = .int .i64 k ∧ RF w wr q (0, pbytesAll (x0.drop k)) A' c') (fun i _ => x0.length - (intOf i).toNat)
    case atStart => exact ⟨0, A2, c2, Nat.zero_le _, rfl, H2.out⟩
    case round =>
      clear H2
      obtain ⟨k, A', c', hkl, rfl, hw⟩ := hrel
      by_cases hlt : k < x0.length
      · obtain ⟨b, off, rfl, c0, c1, c2, c3, c4, c5⟩ := HA.out.at hlt
        have hp := HAI.out _ (List.getElem_mem hlt)
        have HE := Lib.hid ((HPS.out _ (List.getElem_mem hlt)).1 (pbytesAll (x0.drop (k + 1))))
        have hdr : pbytesAll (x0.drop k) = pbytes x0[k] ++ pbytesAll (x0.drop (k + 1)) := by rw [List.drop_eq_getElem_cons hlt]; rfl
        rw [hdr] at hw
        clear hdr
        generalize x0[k] = p at *
        generalize hrest : pbytesAll (x0.drop (k + 1)) = rest at *
        have HREST := Lib.hid hrest
        clear hrest
        replace c0 := hw.ext.cell c0
        replace c1 := hw.ext.cell c1
        replace c2 := hw.ext.cell c2
        replace c3 := hw.ext.cell c3
        replace c4 := hw.ext.cell c4
        replace c5 := hw.ext.cell c5
        have HW := Lib.hid hw
        have HPI := Lib.hid (hp.ext hw.ext)
        have HPA : Hid (p.Apart (fun i => i = q)) := Lib.hid (hp.apart (fun i hi => by rw [hi]; exact hw.base))
        clear hw hp
        go_wp2_with fail
        refine (same_any q _ A' c' p wr HW.out.st HPI.out HPA.out).mono ?_
        rintro e w3 ⟨rfl, A3, c3', h3⟩
        rw [HE.out] at h3 ⊢
        have H3 := Lib.hid (HW.out.to h3)
        clear h3 HW HPI HPA c0 c1 c2 c3 c4 c5
        go_wp2_with fail
        refine (fault_any q _ A3 c3' w3 H3.out.st).mono ?_
        rintro e w4 ⟨rfl, rfl⟩
        go_wp2
        go_roundw
        case rel => exact ⟨k + 1, A3, c3', by omega, by go_num, by rw [HREST.out]; exact H3.out⟩
        case measure => simp [intOf]; omega
      · rw [show x0.drop k = [] from List.drop_eq_nil_of_le (by omega)] at hw
        have HW := Lib.hid hw
        clear hw
        go_wp2_with fail
        refine (left_any q _ A' c' wr HW.out.st).mono ?_
        rintro e w4 ⟨rfl, rfl⟩
        go_wp2_with fail
        refine (end_any q _ A' c' wr HW.out.st).mono ?_
        rintro e w4 ⟨rfl, rfl⟩
        rw [show rend (0, pbytesAll []) = 0 from rfl]
        go_wp2
        go_ret
        exact ⟨rfl, HW.out.ext⟩
  · have hok' : ((wputs (0, []) x0).1 == 0) = false := by simp [hok]
    rw [hok']
    clear hok hok'
    go_wp2
    go_ret
    exact ⟨rfl, HX1.out⟩

set_option maxRecDepth 100000 in
theorem liftedU_CursorBack (os : Os) (started : os.Started) (H : Type) (enc : TypeId × Value → H) (F : Stop.Interp) :
    ReturnsInHanded {} Try.checked os 9 .any ((Rows.OpenSpec.upto Rows.cursorBackSpec).pre6 enc Try.prog Try.f9 Rows.cursorBackUptoRow.domain false) (((Rows.OpenSpec.upto Rows.cursorBackSpec).at F).post enc Try.prog Try.f9 false true false false) := by
  refine returnsInHanded_of_cond_sized (C := Try.checked) (s := Rows.OpenSpec.upto Rows.cursorBackSpec) (k := Rows.uptoSmall) rfl own started (by kernel_rfl) Try.func9
    (OpenSpec.witness (enc := enc) (C := Try.checked) (s := Rows.OpenSpec.upto Rows.cursorBackSpec) (k := Rows.uptoSmall) rfl false ⟨#[], #[.slice none 0 0], []⟩ 8 (by kernel_rfl) (by kernel_rfl) (by kernel_rfl)
      (x := ([.nil], [], [])) (by kernel_rfl) rfl (by kernel_rfl)) ?_
  intro W base args ds gs before hval0 hW _ hk0 hsz0 _
  have hsz : (DataW.weightsEach Try.prog (Try.f9.params.toList ++ Rows.cursorBackSpec.plain.varTypes Try.prog) (ds ++ gs)).all (· ≤ reachBytes) = true := hsz0
  clear hsz0
  have hval : ∀ (j : Nat) t v, Try.f9.params[j]? = some t → args[j]? = some v → Value.okWide Try.prog W .any base t v := hval0
  have hW' := hW
  obtain ⟨p, q, hA0, hV, rfl, hfz, hnd⟩ := hW
  have hA : DataW.TrodAll enc Try.prog W 0 (fun _ => true) true Try.f9.params.toList args.toList ds p := hA0
  rw [Try.params9] at hA hval hsz
  obtain ⟨v0, vs0, d0, ds0, p0, q0, hargs, rfl, rfl, h0, r0⟩ := trodAll_cons hA
  obtain ⟨rfl, rfl, rfl⟩ := trodAll_nil r0
  obtain rfl : args = #[v0] := by cases args; simp_all
  obtain ⟨rfl, rfl⟩ := trodVars_none hV
  have hk : Rows.uptoBulkAll [d0] ≤ 1048576 := of_decide_eq_true hk0
  simp only [Rows.uptoBulkAll] at hk
  have lt0 : ∀ x ∈ p0, x.block < W.heap.size := by obtain ⟨m, hm⟩ := h0; exact DataW.trod_lt m _ _ _ hm
  obtain ⟨x0, hx0, hb0⟩ := open_InPcsU (hval 0 39 v0 rfl rfl) h0 (light_each (j := 0) hsz rfl rfl)
  clear hA0 hval0
  refine (walk_CursorBack v0 x0 W hx0 (by omega)).mono fun e W' ⟨he, bel⟩ => ?_
  subst he
  exact ⟨_, rfl, _, _, _, [], _, [], hW', trodAll_mk1 (shut_bool Try.underlying4 _), (trodAll_cons_mk (Below.trod laidOut (by kernel_rfl) (of_decide_eq_true (by kernel_rfl)) h0 bel lt0) trodAll_mk0), rfl, bel.frame _, fun h => by cases h⟩

/-- the statement, where what comes in is of bulk at most 1048576 -/
theorem holds_CursorBackUpto : Rows.CursorBackUptoSaid :=
  OpenClaim.holds_of_cond 9 Try.f9 rfl rfl rfl rfl rfl rfl rfl ⟨rfl, rfl, rfl, rfl, rfl⟩ rfl rfl rfl rfl rfl (by kernel_rfl) Try.func9 (by kernel_rfl)
    (of_decide_eq_true (by kernel_rfl)) (by unfold Func.isWrapper; first | (rw [if_pos (by decide +kernel)]; kernel_rfl) | (rw [if_neg (by decide +kernel)]; exact ⟨rfl, rfl⟩))
    (fun os started H enc _ F => liftedU_CursorBack os started H enc F)
#print axioms holds_CursorBackUpto

end Go.Proofs.Ytjgghahjcmdnmaa
