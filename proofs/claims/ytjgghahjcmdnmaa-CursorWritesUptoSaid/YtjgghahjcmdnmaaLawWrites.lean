/- CursorWrites: what a writer has behind any pieces is what the document says. Said where what comes in is of bulk at most 1048576. -/
import Derived.Test.YtjgghahjcmdnmaaRefW3
namespace Go.Proofs.Ytjgghahjcmdnmaa
open Go.ChangeShapes Go.WideShapes Go.ChangeAt Go.RowKit Pl
set_option linter.unusedVariables false

/-- the document's writer, of the call's own -/
structure VF (w0 w : World) (p : Nat) (st : WS) (v : Value) : Prop where
  st : Vst w p st v
  foot : ∀ k, ftp p v k → w0.heap.size ≤ k
  ext : Ext w0 w

theorem VF.new {w0 w w' : World} (hx : Ext w0 w) (h : Vst w' w.heap.size (0, []) (.slice none 0 0)) (k : Ext w w') : VF w0 w' w.heap.size (0, []) (.slice none 0 0) :=
  ⟨h, by rintro k (rfl | hk); exact hx.size; simp [Value.ownBlock] at hk, hx.trans k⟩
theorem VF.to {w0 w w' : World} {p : Nat} {st st' : WS} {v v' : Value} (h : VF w0 w p st v) (t : Vto p w v w' st' v') : VF w0 w' p st' v' := by
  refine ⟨t.st, ?_, t.chg.ext h.ext h.foot⟩
  rintro k (rfl | hk)
  · exact h.foot _ (.inl rfl)
  · rcases t.foot k hk with h1 | h1
    · exact h.foot k (.inr h1)
    · exact Nat.le_trans h.ext.size h1
theorem VF.ex {w0 w w' : World} {p : Nat} {st : WS} {v : Value} (h : VF w0 w p st v) (hx : Ext w w') : VF w0 w' p st v := ⟨h.st.ext hx, h.foot, h.ext.trans hx⟩

/-- the program's writer and the document's, at once -/
structure WV (w0 w : World) (p : Nat) (s : WS) (v : Value) (m : Nat) (t : WS) (u : Value) : Prop where
  a : WF w0 w p s v
  b : VF w0 w m t u
  dj : ∀ k, ftp p v k → ¬ ftp m u k

theorem WV.new {w0 w w' : World} {p : Nat} {s : WS} {v : Value} (h : WF w0 w p s v) (h1 : Vst w' w.heap.size (0, []) (.slice none 0 0)) (hx : Ext w w') : WV w0 w' p s v w.heap.size (0, []) (.slice none 0 0) :=
  ⟨h.ex hx, VF.new h.ext h1 hx, fun k hk => by
    rintro (rfl | h2)
    · have := h.st.lt _ hk; omega
    · simp [Value.ownBlock] at h2⟩

theorem WV.toA {w0 w w' : World} {p m : Nat} {s s' t : WS} {v v' u : Value} (h : WV w0 w p s v m t u) (k : Wto p w v w' s' v') : WV w0 w' p s' v' m t u := by
  have ha := h.a.to k
  refine ⟨ha, ⟨h.b.st.keep k.chg (fun i hi hS => h.dj i hS hi), h.b.foot, ha.ext⟩, ?_⟩
  rintro i (rfl | hi) hu
  · exact h.dj _ (.inl rfl) hu
  · rcases k.foot i hi with h1 | h1
    · exact h.dj _ (.inr h1) hu
    · have := h.b.st.lt i hu; omega

theorem WV.toB {w0 w w' : World} {p m : Nat} {s t t' : WS} {v u u' : Value} (h : WV w0 w p s v m t u) (k : Vto m w u w' t' u') : WV w0 w' p s v m t' u' := by
  have hb := h.b.to k
  refine ⟨⟨h.a.st.keep k.chg (fun i hi hS => h.dj i hi hS), h.a.foot, hb.ext⟩, hb, ?_⟩
  rintro i hv (rfl | hi)
  · exact h.dj _ hv (.inl rfl)
  · rcases k.foot i hi with h1 | h1
    · exact h.dj _ hv (.inr h1)
    · have := h.a.st.lt i hv; omega

theorem WV.ex {w0 w w' : World} {p m : Nat} {s t : WS} {v u : Value} (h : WV w0 w p s v m t u) (hx : Ext w w') : WV w0 w' p s v m t u := ⟨h.a.ex hx, h.b.ex hx, h.dj⟩

theorem WV.keepO {S : Nat → Prop} {w0 w w' : World} {p m : Nat} {s t : WS} {v u : Value} (h : WV w0 w p s v m t u) (hc : Chg S w w') (h0 : ∀ k, S k → w0.heap.size ≤ k) (h1 : ∀ k, ftp p v k → ¬ S k) (h2 : ∀ k, ftp m u k → ¬ S k) : WV w0 w' p s v m t u :=
  ⟨⟨h.a.st.keep hc h1, h.a.foot, hc.ext h.a.ext h0⟩, ⟨h.b.st.keep hc h2, h.b.foot, hc.ext h.b.ext h0⟩, h.dj⟩

/-- two rows of the call's own -/
theorem rows_two {w : World} {b1 b2 : Nat} {A B : Option Addr} {n c m d : Nat} {xs ys : List Value} (h : w.ownsRow b1 5 1 (.slice A n c) n xs) (k : w.ownsRow b2 5 1 (.slice B m d) m ys) (hn : n ≤ 140737488355312) (hm : m ≤ 140737488355312) (hap : ∀ i, inB A i → i < b2) :
    RowsOk (w.alloc (.cells #[.slice A n c, .slice B m d] 29)) w.heap.size [⟨A, n, c⟩, ⟨B, m, d⟩] := by
  have hx := Ext.alloc w (.cells #[.slice A n c, .slice B m d] 29)
  have two : ∀ (i : Nat) (r : Sl), ([⟨A, n, c⟩, ⟨B, m, d⟩] : List Sl)[i]? = some r → (i = 0 ∧ r = ⟨A, n, c⟩) ∨ (i = 1 ∧ r = ⟨B, m, d⟩) := by
    intro i r hr
    match i, hr with
    | 0, hr => simp at hr; exact .inl ⟨rfl, hr.symm⟩
    | 1, hr => simp at hr; exact .inr ⟨rfl, hr.symm⟩
  refine ⟨fun i r hr => ?_, fun i r hr => ?_, fun i j r s hr hs hne b hb hb2 => ?_, fun i r hr hb => ?_, Blk.rd (Blk.new _ _ _), by simp⟩
  · rcases two i r hr with ⟨_, rfl⟩ | ⟨_, rfl⟩
    · exact ⟨xs, hx.own (own_mono h (Nat.zero_le _))⟩
    · exact ⟨ys, hx.own (own_mono k (Nat.zero_le _))⟩
  · rcases two i r hr with ⟨_, rfl⟩ | ⟨_, rfl⟩
    · exact hn
    · exact hm
  · rcases two i r hr with ⟨rfl, rfl⟩ | ⟨rfl, rfl⟩ <;> rcases two j s hs with ⟨rfl, rfl⟩ | ⟨rfl, rfl⟩
    · exact hne rfl
    · have h1 := hap b hb
      have h2 := (own_inB k hb2).1
      omega
    · have h1 := hap b hb2
      have h2 := (own_inB k hb).1
      omega
    · exact hne rfl
  · rcases two i r hr with ⟨_, rfl⟩ | ⟨_, rfl⟩
    · have := (own_inB h hb).2; omega
    · have := (own_inB k hb).2; omega

theorem inRows_two {A B : Option Addr} {n c m d b : Nat} (h : InRows [⟨A, n, c⟩, ⟨B, m, d⟩] b) : inB A b ∨ inB B b := by
  obtain ⟨i, r, hr, hb⟩ := h
  match i, hr with
  | 0, hr => simp at hr; subst hr; exact .inl hb
  | 1, hr => simp at hr; subst hr; exact .inr hb

set_option maxRecDepth 100000 in
set_option maxHeartbeats 3200000 in
theorem walk_CursorWrites (v0 : Value) (x0 : List Pc) (w : World) (h0 : InPcs w v0 x0) (hk : bulks x0 + 1 ≤ 1048576) :
    Calls Try.prog 5 #[v0] w fun e w' => e = .returned (.bool true) ∧ Below w.heap.size w w' := by
  obtain ⟨A, ac, rfl, hA, hAi, _⟩ := h0
  have HA := Lib.hid hA
  have HAI := Lib.hid hAi
  have hl0 : x0.length ≤ 9223372036854775807 := by have := bulks_len x0; omega
  have hlA := wputs_len x0 (0, [])
  simp only [List.length_nil] at hlA
  have hlg := wgot_len (wputs (0, []) x0)
  clear hA hAi
  go_enter Try.func5, Try.ntmps5
  go_wp2_with fail
  refine (awake_any _).mono ?_
  rintro e w0 ⟨rfl, hx0⟩
  have HX0 := Lib.hid hx0
  clear hx0
  go_wp2_with fail
  refine (newWriter_any w0).mono ?_
  rintro e w1 ⟨rfl, h1, hx1⟩
  have H1 := Lib.hid (WF.new HX0.out h1 hx1)
  clear h1 hx1 HX0
  generalize w0.heap.size = pa at *
  go_wp2_with fail
  have h2 := WV.new H1.out (w' := w1.alloc (.cells #[.slice none 0 0, .int .i64 0] 42)) ⟨Blk.new _ _ _, World.ownsRow_nil _ _ _ _⟩ (Ext.alloc _ _)
  have H2 := Lib.hid h2
  clear h2 H1
  generalize w1.heap.size = mb at *
  go_loopw [6] (fun i wr => ∃ (k : Nat) (v u : Value), k ≤ x0.length ∧ i = .int .i64 k ∧ WV w wr pa (wputs (0, []) (x0.take k)) v mb (wputs (0, []) (x0.take k)) u) (fun i _ => x0.length - (intOf i).toNat)
  case atStart => exact ⟨0, _, _, Nat.zero_le _, rfl, H2.out⟩
  case round =>
    clear H2
    obtain ⟨k, v, u, hkl, rfl, hw⟩ := hrel
    by_cases hlt : k < x0.length
    · obtain ⟨b, off, rfl, c0, c1, c2, c3, c4, c5⟩ := HA.out.at hlt
      have hp := HAI.out _ (List.getElem_mem hlt)
      have HE := Lib.hid (wputs_snoc (0, []) x0 hlt)
      have hb1 := wputs_len (x0.take k) (0, [])
      have hb2 := bulks_snoc x0 hlt
      have hb3 := bulks_take x0 (k + 1)
      simp only [List.length_nil] at hb1
      generalize wputs (0, []) (x0.take k) = sk at *
      generalize x0[k] = pc at *
      have hbn := hp.bl
      have HPI := Lib.hid hp
      have HC0 := Lib.hid c0
      have HC1 := Lib.hid c1
      have HC2 := Lib.hid c2
      have HC3 := Lib.hid c3
      have HC4 := Lib.hid c4
      have HC5 := Lib.hid c5
      obtain ⟨kind, size, n, NA, nc, ns, SA, sc, ss, PA, pcc, bs⟩ := pc
      simp only at c0 c1 c2 c3 c4 c5 hbn
      replace c0 := hw.a.ext.cell c0
      replace c1 := hw.a.ext.cell c1
      replace c2 := hw.a.ext.cell c2
      replace c3 := hw.a.ext.cell c3
      replace c4 := hw.a.ext.cell c4
      replace c5 := hw.a.ext.cell c5
      have HW := Lib.hid hw
      have hws := hw.a.ext.size
      have HWL := Lib.hid hw.a.st.lt
      have HWM := Lib.hid hw.b.st.lt
      have hcb : b < w.heap.size := cell_lt HC0.out
      clear hw hp
      go_wp2_with fail
      have HBK : Hid (Blk (wr.alloc (.cells #[.int .i64 kind, .int .i64 size, .int .i64 n, .slice NA ns.length nc, .slice SA ss.length sc, .slice PA bs.length pcc] 44)) wr.heap.size 44 #[.int .i64 kind, .int .i64 size, .int .i64 n, .slice NA ns.length nc, .slice SA ss.length sc, .slice PA bs.length pcc]) := Lib.hid (Blk.new _ _ _)
      have HX := Lib.hid (Ext.alloc wr (.cells #[.int .i64 kind, .int .i64 size, .int .i64 n, .slice NA ns.length nc, .slice SA ss.length sc, .slice PA bs.length pcc] 44))
      have hwb : (wr.alloc (.cells #[.int .i64 kind, .int .i64 size, .int .i64 n, .slice NA ns.length nc, .slice SA ss.length sc, .slice PA bs.length pcc] 44)).heap.size = wr.heap.size + 1 := by simp
      generalize wr.alloc (.cells #[.int .i64 kind, .int .i64 size, .int .i64 n, .slice NA ns.length nc, .slice SA ss.length sc, .slice PA bs.length pcc] 44) = wb at *
      generalize hbx : wr.heap.size = bx at *
      refine (lent_any PA pcc bs wb ((HW.out.a.ext.trans HX.out).rd HPI.out.br) hbn).mono ?_
      rintro e w4 ⟨g, rfl, hg, hbg, hx4⟩
      have hk4 := hx4.blk HBK.out
      have d0 : w4.cell? ⟨bx, 0, none⟩ = some (.int .i64 kind) := hk4.cell 0 rfl
      have d1 : w4.cell? ⟨bx, 1, none⟩ = some (.int .i64 size) := hk4.cell 1 rfl
      have d2 : w4.cell? ⟨bx, 2, none⟩ = some (.int .i64 n) := hk4.cell 2 rfl
      have d3 : w4.cell? ⟨bx, 3, none⟩ = some (.slice NA ns.length nc) := hk4.cell 3 rfl
      have d4 : w4.cell? ⟨bx, 4, none⟩ = some (.slice SA ss.length sc) := hk4.cell 4 rfl
      have d5 : w4.cell? ⟨bx, 5, none⟩ = some (.slice PA bs.length pcc) := hk4.cell 5 rfl
      have fz := hk4.frozen 5
      have hgl := hbg.lt
      have HG4 := Lib.hid hbg
      have H4 := Lib.hid (HW.out.ex (HX.out.trans hx4))
      clear hk4 hbg hx4 HBK HX HW c0 c1 c2 c3 c4 c5
      go_wp2_with fail
      have hst := Chg.set w4 bx 5 (.slice (some ⟨g, 0, none⟩) bs.length (bs.length + 3))
      have hfa : ∀ i, ftp pa v i → i < bx := fun i hi => by have := HWL.out i hi; omega
      have hfm : ∀ i, ftp mb u i → i < bx := fun i hi => by have := HWM.out i hi; omega
      have H5 := Lib.hid (H4.out.keepO hst (fun i hi => by omega) (fun i hi e => by have := hfa i hi; omega) (fun i hi e => by have := hfm i hi; omega))
      have HG5 := Lib.hid (hst.blk HG4.out (by omega))
      have HFA := Lib.hid hfa
      have HFM := Lib.hid hfm
      generalize w4.setCell ⟨bx, 5, none⟩ (.slice (some ⟨g, 0, none⟩) bs.length (bs.length + 3)) = w5 at *
      clear hst hfa hfm H4 HG4 HWL HWM d0 d1 d2 d3 d4 d5 fz
      have hg5 := HG5.out.lt
      have hrl : Rd w5 (some ⟨g, 0, none⟩) (u8s bs) := by
        have := HG5.out.rd.take bs.length
        rw [lent, List.take_append_of_le_length (by rw [u8s_length]; exact Nat.le_refl _), List.take_of_length_le (by rw [u8s_length]; exact Nat.le_refl _)] at this
        exact this
      have hin : Pc.In w5 ⟨kind, size, n, NA, nc, ns, SA, sc, ss, some ⟨g, 0, none⟩, bs.length + 3, bs⟩ := by
        have hq := HPI.out.ext H5.out.a.ext
        exact ⟨hq.kind, hq.size, hq.n, hq.nr, hq.nb, hq.nl, hq.sr, hq.sb, hq.sl, hrl, hq.bl⟩
      have hap : Pc.Apart ⟨kind, size, n, NA, nc, ns, SA, sc, ss, some ⟨g, 0, none⟩, bs.length + 3, bs⟩ (ftp pa v) := by
        have hq := HPI.out.apart H5.out.a.foot
        refine ⟨hq.n, hq.s, fun b o e _ hS => ?_⟩
        simp only [Option.some.injEq, Addr.mk.injEq] at e
        have := HFA.out b hS
        omega
      have HIN := Lib.hid hin
      have HAP := Lib.hid hap
      clear hrl hin hap
      refine (put_any pa sk v ⟨kind, size, n, NA, nc, ns, SA, sc, ss, some ⟨g, 0, none⟩, bs.length + 3, bs⟩ w5 H5.out.a.st HIN.out HAP.out (by show sk.2.length + 4200 * Pc.bulk ⟨kind, size, n, NA, nc, ns, SA, sc, ss, PA, pcc, bs⟩ ≤ _; omega)).mono ?_
      rintro e w6 ⟨rfl, v6, h6⟩
      have HSP : Hid (wput sk ⟨kind, size, n, NA, nc, ns, SA, sc, ss, some ⟨g, 0, none⟩, bs.length + 3, bs⟩ = wput sk ⟨kind, size, n, NA, nc, ns, SA, sc, ss, PA, pcc, bs⟩) := Lib.hid rfl
      rw [HSP.out] at h6
      have HG6 := Lib.hid (h6.chg.blk HG5.out (fun hS => by have := HFA.out g hS; omega))
      have HF6 : Hid (∀ i, ftp pa v6 i → i < bx ∨ w5.heap.size ≤ i) := Lib.hid (by
        rintro i (rfl | hi)
        · exact .inl (HFA.out _ (.inl rfl))
        · rcases h6.foot i hi with h1 | h1
          · exact .inl (HFA.out i (.inr h1))
          · exact .inr h1)
      have H6 := Lib.hid (H5.out.toA h6)
      clear h6 H5 HG5 HIN HAP HSP
      have c0 := H6.out.a.ext.cell HC0.out
      have c1 := H6.out.a.ext.cell HC1.out
      have c2 := H6.out.a.ext.cell HC2.out
      have c3 := H6.out.a.ext.cell HC3.out
      have c4 := H6.out.a.ext.cell HC4.out
      have c5 := H6.out.a.ext.cell HC5.out
      go_wp2_with fail
      refine (back_any g PA pcc bs w6 HG6.out (H6.out.a.ext.rd HPI.out.br) (fun b o e hl => ?_) hbn).mono ?_
      · obtain ⟨b', o', e', hlt', _⟩ := HPI.out.br.toB 0 (by rw [u8s_length]; exact hl)
        rw [e] at e'
        simp only [Option.some.injEq, Addr.mk.injEq] at e'
        omega
      rintro e w7 ⟨rfl, h7⟩
      have H7 := Lib.hid (H6.out.keepO h7 (fun i hi => by omega) (fun i hi e => by rcases HF6.out i hi with h1 | h1 <;> omega) (fun i hi e => by have := HFM.out i hi; omega))
      replace c0 := h7.cell c0 (by omega)
      replace c1 := h7.cell c1 (by omega)
      replace c2 := h7.cell c2 (by omega)
      replace c3 := h7.cell c3 (by omega)
      replace c4 := h7.cell c4 (by omega)
      replace c5 := h7.cell c5 (by omega)
      clear h7 H6 HG6 HF6
      go_wp2_with fail
      refine (model_any mb sk u ⟨kind, size, n, NA, nc, ns, SA, sc, ss, PA, pcc, bs⟩ w7 H7.out.b.st (HPI.out.ext H7.out.a.ext) (HPI.out.apart H7.out.b.foot) (by omega)).mono ?_
      rintro e w8 ⟨rfl, u8, h8⟩
      have H8 := Lib.hid (H7.out.toB h8)
      clear h8 H7 c0 c1 c2 c3 c4 c5
      go_wp2
      go_roundw
      case rel => exact ⟨k + 1, v6, u8, by omega, by go_num, by rw [HE.out]; exact H8.out⟩
      case measure => simp [intOf]; omega
    · rw [show x0.take k = x0 from List.take_of_length_le (by omega)] at hw
      have HW := Lib.hid hw
      clear hw
      go_wp2_with fail
      refine (bytes_got pa _ v wr HW.out.a.st (by omega)).mono ?_
      rintro e w7 ⟨A7, c7, rfl, hx7, ho7⟩
      have HW7 := Lib.hid (HW.out.ex hx7)
      have HO7 := Lib.hid ho7
      have HSZ : Hid (w.heap.size ≤ wr.heap.size ∧ wr.heap.size ≤ w7.heap.size) := Lib.hid ⟨HW.out.a.ext.size, hx7.size⟩
      clear hx7 ho7 HW
      go_wp2_with fail
      refine (bytes_got pa _ v w7 HW7.out.a.st (by omega)).mono ?_
      rintro e w8 ⟨A8, c8, rfl, hx8, ho8⟩
      have HW8 := Lib.hid (HW7.out.ex hx8)
      have HAP : Hid (∀ i, inB A7 i → wr.heap.size ≤ i ∧ i < w7.heap.size) := Lib.hid (fun i hi => own_inB HO7.out hi)
      have HAQ : Hid (∀ i, inB A8 i → w7.heap.size ≤ i ∧ i < w8.heap.size) := Lib.hid (fun i hi => own_inB ho8 hi)
      have HO78 := Lib.hid (hx8.own HO7.out)
      have HO8 := Lib.hid ho8
      clear hx8 ho8 HW7 HO7
      go_wp2_with fail
      refine (vbytes_any mb _ u w8 HW8.out.b.st).mono ?_
      rintro e w9 ⟨A9, c9, rfl, hx9, hr9⟩
      have HW9 := Lib.hid (HW8.out.ex hx9)
      have HO79 := Lib.hid (hx9.own HO78.out)
      have HO89 := Lib.hid (hx9.own HO8.out)
      have cv1 := conv_bytes w9 A7 c7 _ (Rd.of_own HO79.out)
      have cv2 := conv_bytes w9 A8 c8 _ (Rd.of_own HO89.out)
      have cv3 := conv_bytes w9 A9 c9 _ hr9
      clear hx9 hr9 HW8 HO78 HO8
      generalize wputs (0, []) x0 = S at *
      go_wp2_with fail
      have HXA := Lib.hid (Ext.alloc w9 (.cells #[.slice A7 (wgot S).length c7, .slice A8 (wgot S).length c8] 29))
      refine (owned_any w9.heap.size 2 [⟨A7, (wgot S).length, c7⟩, ⟨A8, (wgot S).length, c8⟩] _ (rows_two HO79.out HO89.out (by omega) (by omega) (fun i hi => (HAP.out i hi).2))).mono ?_
      rintro e w10 ⟨rfl, h10⟩
      have hxe : Ext w w10 := h10.ext (HW9.out.a.ext.trans HXA.out) (fun i hi => by
        rcases inRows_two hi with h1 | h1
        · have := (own_inB HO79.out h1).1; have := HSZ.out; omega
        · have := (own_inB HO89.out h1).1; have := HSZ.out; have := (HAQ.out i h1).1; omega)
      have HXE := Lib.hid hxe
      clear h10 hxe HXA HO79 HO89 cv1 cv2 cv3
      go_wp2
      go_ret
      exact ⟨rfl, HXE.out⟩

set_option maxRecDepth 100000 in
theorem liftedU_CursorWrites (os : Os) (started : os.Started) (H : Type) (enc : TypeId × Value → H) (F : Stop.Interp) :
    ReturnsInHanded {} Try.checked os 5 .any ((Rows.OpenSpec.upto Rows.cursorWritesSpec).pre6 enc Try.prog Try.f5 Rows.cursorWritesUptoRow.domain false) (((Rows.OpenSpec.upto Rows.cursorWritesSpec).at F).post enc Try.prog Try.f5 false true false false) := by
  refine returnsInHanded_of_cond_sized (C := Try.checked) (s := Rows.OpenSpec.upto Rows.cursorWritesSpec) (k := Rows.uptoSmall) rfl own started (by kernel_rfl) Try.func5
    (OpenSpec.witness (enc := enc) (C := Try.checked) (s := Rows.OpenSpec.upto Rows.cursorWritesSpec) (k := Rows.uptoSmall) rfl false ⟨#[], #[.slice none 0 0], []⟩ 8 (by kernel_rfl) (by kernel_rfl) (by kernel_rfl)
      (x := ([.nil], [], [])) (by kernel_rfl) rfl (by kernel_rfl)) ?_
  intro W base args ds gs before hval0 hW _ hk0 hsz0 _
  have hsz : (DataW.weightsEach Try.prog (Try.f5.params.toList ++ Rows.cursorWritesSpec.plain.varTypes Try.prog) (ds ++ gs)).all (· ≤ reachBytes) = true := hsz0
  clear hsz0
  have hval : ∀ (j : Nat) t v, Try.f5.params[j]? = some t → args[j]? = some v → Value.okWide Try.prog W .any base t v := hval0
  have hW' := hW
  obtain ⟨p, q, hA0, hV, rfl, hfz, hnd⟩ := hW
  have hA : DataW.TrodAll enc Try.prog W 0 (fun _ => true) true Try.f5.params.toList args.toList ds p := hA0
  rw [Try.params5] at hA hval hsz
  obtain ⟨v0, vs0, d0, ds0, p0, q0, hargs, rfl, rfl, h0, r0⟩ := trodAll_cons hA
  obtain ⟨rfl, rfl, rfl⟩ := trodAll_nil r0
  obtain rfl : args = #[v0] := by cases args; simp_all
  obtain ⟨rfl, rfl⟩ := trodVars_none hV
  have hk : Rows.uptoBulkAll [d0] ≤ 1048576 := of_decide_eq_true hk0
  simp only [Rows.uptoBulkAll] at hk
  have lt0 : ∀ x ∈ p0, x.block < W.heap.size := by obtain ⟨m, hm⟩ := h0; exact DataW.trod_lt m _ _ _ hm
  obtain ⟨x0, hx0, hb0⟩ := open_InPcsU (hval 0 39 v0 rfl rfl) h0 (light_each (j := 0) hsz rfl rfl)
  clear hA0 hval0
  refine (walk_CursorWrites v0 x0 W hx0 (by omega)).mono fun e W' ⟨he, bel⟩ => ?_
  subst he
  exact ⟨_, rfl, _, _, _, [], _, [], hW', trodAll_mk1 (shut_bool Try.underlying4 _), (trodAll_cons_mk (Below.trod laidOut (by kernel_rfl) (of_decide_eq_true (by kernel_rfl)) h0 bel lt0) trodAll_mk0), rfl, bel.frame _, fun h => by cases h⟩

/-- the statement, where what comes in is of bulk at most 1048576 -/
theorem holds_CursorWritesUpto : Rows.CursorWritesUptoSaid :=
  OpenClaim.holds_of_cond 5 Try.f5 rfl rfl rfl rfl rfl rfl rfl ⟨rfl, rfl, rfl, rfl, rfl⟩ rfl rfl rfl rfl rfl (by kernel_rfl) Try.func5 (by kernel_rfl)
    (of_decide_eq_true (by kernel_rfl)) (by unfold Func.isWrapper; first | (rw [if_pos (by decide +kernel)]; kernel_rfl) | (rw [if_neg (by decide +kernel)]; exact ⟨rfl, rfl⟩))
    (fun os started H enc _ F => liftedU_CursorWrites os started H enc F)
#print axioms holds_CursorWritesUpto

end Go.Proofs.Ytjgghahjcmdnmaa
