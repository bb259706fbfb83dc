/- CursorReads: what a reader takes of any bytes is what the document says; the bytes are not kept and stay. -/
import Derived.Test.YtjgghahjcmdnmaaTake
namespace Go.Proofs.Ytjgghahjcmdnmaa
open Go.ChangeShapes Go.WideShapes Go.ChangeAt Go.RowKit Pl
set_option linter.unusedVariables false

/-- bytes, and where they lie -/
def InU8d (w : World) (v : Value) (bs : List UInt8) : Prop := ∃ A cap, v = .slice A bs.length cap ∧ Rd w A (u8s bs) ∧ bs.length ≤ 140737488351232 ∧ ((A = none ∧ bs = [] ∧ cap = 0) ∨ ∃ b o, A = some ⟨b, o, none⟩ ∧ b < w.heap.size ∧ bs.length ≤ cap ∧ cap ≤ maxLen)

theorem slice_at {P : Program} {w : World} {r : Reach} {base : Nat} {t e : TypeId} {a : Option Addr} {len cap : Nat} (ht : P.underlying t = some (.slice e)) (h : Value.okWide P w r base t (.slice a len cap)) :
    (a = none ∧ len = 0 ∧ cap = 0) ∨ ∃ b o, a = some ⟨b, o, none⟩ ∧ b < w.heap.size ∧ len ≤ cap ∧ cap ≤ maxLen := by
  simp only [Value.okWide, ht, Cell.okWide, Cell.ok] at h
  cases a with
  | none =>
    left
    cases len <;> cases cap <;> simp_all
  | some a =>
    right
    simp only at h
    obtain ⟨h1, h2, _, h3, row, cells, h4, _⟩ := h
    obtain ⟨b, o, s⟩ := a
    simp only at h3 h4
    subst h3
    refine ⟨b, o, rfl, ?_, h1, ?_⟩
    · rcases Nat.lt_or_ge b w.heap.size with hb | hb
      · exact hb
      · simp [World.shape?, Array.getElem?_eq_none hb] at h4
    · have : IntKind.i64.max = 9223372036854775807 := rfl
      unfold maxLen; omega

theorem open_InU8d {H : Type} {enc : TypeId × Value → H} {w : World} {base : Nat} {spare : Nat → Bool} {held : Bool} {r : Reach} {b0 : Nat} {v : Value} {d : DataW H} {ps : List MemPlace}
    (hval : Value.okWide Try.prog w r b0 29 v) (hd : DataW.Trod enc Try.prog w base spare held 29 v d ps) (hz : Light Try.prog 29 d) : ∃ x, InU8d w v x := by
  obtain ⟨x, A, cap, rfl, hR, hl, _⟩ := open_InU8c hval hd hz
  refine ⟨x, A, cap, rfl, hR, hl, ?_⟩
  rcases slice_at Try.underlying29 hval with ⟨h1, h2, h3⟩ | h
  · exact .inl ⟨h1, List.length_eq_zero_iff.1 h2, h3⟩
  · exact .inr h

theorem RF.keepO {S : Nat → Prop} {w0 w w' : World} {q c : Nat} {st : WS} {A : Option Addr} (h : RF w0 w q st A c) (hc : Chg S w w') (h0 : ∀ k, S k → w0.heap.size ≤ k) (h1 : ¬ S q) (h3 : ∀ k, inB A k → ¬ S k) : RF w0 w' q st A c :=
  ⟨h.st.keep hc h1 h3, h.base, h.foot, hc.ext h.ext h0⟩

set_option maxRecDepth 100000 in
set_option maxHeartbeats 3200000 in
theorem walk_CursorReads (v0 v1 : Value) (x0 : List UInt8) (x1 : List Pc) (w : World) (h0 : InU8d w v0 x0) (h1 : InPcs w v1 x1) :
    Calls Try.prog 7 #[v0, v1] w fun e w' => e = .returned (.bool true) ∧ Below w.heap.size w w' := by
  obtain ⟨BA, bc, rfl, hB, hBl, hBf⟩ := h0
  obtain ⟨A, ac, rfl, hA, hAi, hAl⟩ := h1
  have HA := Lib.hid hA
  have HAI := Lib.hid hAi
  have HB := Lib.hid hB
  have HBF := Lib.hid hBf
  clear hA hAi hB hBf
  go_enter Try.func7, Try.ntmps7
  go_wp2_with fail
  refine (awake_any _).mono ?_
  rintro e w0 ⟨rfl, hx0⟩
  have HX0 := Lib.hid hx0
  clear hx0
  go_wp2_with fail
  refine (lent_any BA bc x0 w0 (HX0.out.rd HB.out) hBl).mono ?_
  rintro e w2 ⟨g, rfl, hg, hbg, hx2⟩
  have HX2 := Lib.hid (HX0.out.trans hx2)
  have HG := Lib.hid hbg
  have hgw : w.heap.size ≤ g := Nat.le_trans HX0.out.size hg
  clear hbg hx2 HX0 hg
  have hrl : Rd w2 (some ⟨g, 0, none⟩) (u8s x0) := by
    have := HG.out.rd.take x0.length
    rw [lent, List.take_append_of_le_length (by rw [u8s_length]; exact Nat.le_refl _), List.take_of_length_le (by rw [u8s_length]; exact Nat.le_refl _)] at this
    exact this
  have HRL := Lib.hid hrl
  clear hrl
  go_wp2_with fail
  refine (newReader_any (some ⟨g, 0, none⟩) (x0.length + 3) x0 w2 HRL.out (by omega)).mono ?_
  rintro e w3 ⟨q, A2, c2, rfl, hq2, h2, hf2, hx3⟩
  have H3 := Lib.hid (RF.new HX2.out h2 hq2 hf2 hx3)
  have hgl := HG.out.lt
  have HG3 := Lib.hid (hx3.blk HG.out)
  have HF3 := Lib.hid hf2
  clear h2 hf2 hx3 HX2 HRL HG
  go_wp2_with fail
  refine (back_any g BA bc x0 w3 HG3.out (H3.out.ext.rd HB.out) (fun b o e hl => ?_) hBl).mono ?_
  · have h1 := HB.out.toB 0 (by rw [u8s_length]; exact hl)
    obtain ⟨b', o', e', hlt, _⟩ := h1
    rw [e] at e'
    simp only [Option.some.injEq, Addr.mk.injEq] at e'
    omega
  rintro e w4 ⟨rfl, h4⟩
  have H4 := Lib.hid (H3.out.keepO h4 (fun k hk => by omega) (by omega) (fun k hk => by have := HF3.out k hk; omega))
  clear h4 H3 HG3 HF3
  go_wp2_with fail
  have hsz : w.heap.size ≤ w4.heap.size := H4.out.ext.size
  have hrm : RM w (w4.alloc (.cells #[.slice BA x0.length bc, .int .i64 0] 56)) q (0, x0) A2 c2 w4.heap.size (0, x0) BA bc := by
    have hx := Ext.alloc w4 (.cells #[.slice BA x0.length bc, .int .i64 0] 56)
    refine ⟨H4.out.ex hx, ⟨Blk.new _ _ _, (H4.out.ext.trans hx).rd HB.out, ?_⟩, hsz, ?_, ?_, ?_⟩
    · rcases HBF.out with h | ⟨b, o, e, hb, h1, h2⟩
      · exact .inl h
      · exact .inr ⟨b, o, e, by omega, by simp; omega, h1, h2⟩
    · have := H4.out.st.blk.lt; omega
    · intro hk; have := (H4.out.st.ne hk).2; omega
    · intro k hk
      rcases HBF.out with ⟨h, _⟩ | ⟨b, o, e, hb, _⟩
      · rw [h] at hk; exact absurd hk inB_none
      · rw [e] at hk; rw [inB_some hk]; exact hb
  have HRM := Lib.hid hrm
  clear hrm
  generalize w4.heap.size = mb at *
  go_loopw [9] (fun i wr => ∃ (k : Nat) (E : Int) (R : List UInt8) (A' : Option Addr) (c' : Nat) (B' : Option Addr) (b' : Nat), k ≤ x1.length ∧ i = .int .i64 k ∧ RM w wr q (E, R) A' c' mb (E, R) B' b' ∧ R.length ≤ x0.length) (fun i _ => x1.length - (intOf i).toNat)
  case atStart => exact ⟨0, 0, x0, A2, c2, BA, bc, Nat.zero_le _, rfl, HRM.out, Nat.le_refl _⟩
  case round =>
    clear HRM
    obtain ⟨k, E, R, A', c', B', b', hkl, rfl, hw, hR⟩ := hrel
    by_cases hlt : k < x1.length
    · obtain ⟨b, off, rfl, c0, c1, c2, c3, c4, c5⟩ := HA.out.at hlt
      have hp := HAI.out _ (List.getElem_mem hlt)
      generalize x1[k] = p at *
      replace c0 := hw.r.ext.cell c0
      replace c1 := hw.r.ext.cell c1
      replace c2 := hw.r.ext.cell c2
      replace c3 := hw.r.ext.cell c3
      replace c4 := hw.r.ext.cell c4
      replace c5 := hw.r.ext.cell c5
      have HW := Lib.hid hw
      have HPI := Lib.hid (hp.ext hw.r.ext)
      clear hw hp
      go_wp2_with fail
      refine (take_any w q mb E R A' c' B' b' p wr HW.out HPI.out (by omega)).mono ?_
      rintro e w5 ⟨rfl, ⟨E5, R5⟩, A5, c5', B5, b5, h5, hl5⟩
      simp only at hl5
      have H5 := Lib.hid h5
      clear h5 HW HPI c0 c1 c2 c3 c4 c5
      go_wp2
      go_roundw
      case rel => exact ⟨k + 1, E5, R5, A5, c5', B5, b5, by omega, by go_num, H5.out, by omega⟩
      case measure => simp [intOf]; omega
    · have HW := Lib.hid hw
      clear hw
      go_wp2
      go_ret
      exact ⟨rfl, HW.out.r.ext⟩

set_option maxRecDepth 100000 in
theorem lifted_CursorReads (os : Os) (started : os.Started) (H : Type) (enc : TypeId × Value → H) :
    ReturnsInHanded {} Try.checked os 7 .any (Rows.cursorReadsSpec.pre6 enc Try.prog Try.f7 Rows.cursorReadsRow.domain false) (Rows.cursorReadsSpec.post enc Try.prog Try.f7 false true false false) := by
  refine returnsInHanded_of_change_sized (C := Try.checked) own started (by kernel_rfl) Try.func7
    (ChangeSpec.witness6 (enc := enc) (C := Try.checked) false ⟨#[], #[.slice none 0 0, .slice none 0 0], []⟩ 8 (by kernel_rfl) (by kernel_rfl) (by kernel_rfl) (by kernel_rfl)) ?_
  intro W base args ds gs before hval0 hW hcnd hsz0 _
  have hsz : (DataW.weightsEach Try.prog (Try.f7.params.toList ++ Rows.cursorReadsSpec.plain.varTypes Try.prog) (ds ++ gs)).all (· ≤ reachBytes) = true := hsz0
  clear hsz0
  have hval : ∀ (j : Nat) t v, Try.f7.params[j]? = some t → args[j]? = some v → Value.okWide Try.prog W .any base t v := hval0
  have hW' := hW
  obtain ⟨p, q, hA0, hV, rfl, hfz, hnd⟩ := hW
  have hA : DataW.TrodAll enc Try.prog W 0 (fun _ => true) true Try.f7.params.toList args.toList ds p := hA0
  rw [Try.params7] at hA hval hsz
  obtain ⟨v0, vs0, d0, ds0, p0, q0, hargs, rfl, rfl, h0, r0⟩ := trodAll_cons hA
  obtain ⟨v1, vs1, d1, ds1, p1, q1, rfl, rfl, rfl, h1, r1⟩ := trodAll_cons r0
  obtain ⟨rfl, rfl, rfl⟩ := trodAll_nil r1
  obtain rfl : args = #[v0, v1] := by cases args; simp_all
  obtain ⟨rfl, rfl⟩ := trodVars_none hV
  have lt0 : ∀ x ∈ p0, x.block < W.heap.size := by obtain ⟨m, hm⟩ := h0; exact DataW.trod_lt m _ _ _ hm
  obtain ⟨x0, hx0⟩ := open_InU8d (hval 0 29 v0 rfl rfl) h0 (light_each (j := 0) hsz rfl rfl)
  have lt1 : ∀ x ∈ p1, x.block < W.heap.size := by obtain ⟨m, hm⟩ := h1; exact DataW.trod_lt m _ _ _ hm
  obtain ⟨x1, hx1⟩ := open_InPcs (hval 1 39 v1 rfl rfl) h1 (light_each (j := 1) hsz rfl rfl)
  clear hA0 hval0
  refine (walk_CursorReads v0 v1 x0 x1 W hx0 hx1).mono fun e W' ⟨he, bel⟩ => ?_
  subst he
  exact ⟨_, rfl, _, _, _, [], _, [], hW', trodAll_mk1 (shut_bool Try.underlying4 _), (trodAll_cons_mk (Below.trod laidOut (by kernel_rfl) (of_decide_eq_true (by kernel_rfl)) h0 bel lt0) (trodAll_cons_mk (Below.trod laidOut (by kernel_rfl) (of_decide_eq_true (by kernel_rfl)) h1 bel lt1) trodAll_mk0)), rfl, bel.frame _, fun h => by cases h⟩

theorem over_CursorReads : Rows.cursorReadsRow.holds Try.pinned (OpenSpec.ofChange Rows.cursorReadsSpec) :=
  OpenClaim.holds_of_wide 7 Try.f7 rfl rfl rfl rfl rfl rfl rfl ⟨rfl, rfl, rfl, rfl, rfl⟩ rfl rfl rfl rfl rfl (by kernel_rfl) Try.func7 (by kernel_rfl)
    (of_decide_eq_true (by kernel_rfl)) (by unfold Func.isWrapper; first | (rw [if_pos (by decide +kernel)]; kernel_rfl) | (rw [if_neg (by decide +kernel)]; exact ⟨rfl, rfl⟩))
    (fun os started H enc _ => lifted_CursorReads os started H enc)

/-- the statement -/
theorem holds_CursorReads : Rows.CursorReadsSaid := over_CursorReads
#print axioms holds_CursorReads

end Go.Proofs.Ytjgghahjcmdnmaa
