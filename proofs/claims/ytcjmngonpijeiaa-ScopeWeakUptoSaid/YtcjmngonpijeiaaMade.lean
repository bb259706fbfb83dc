/- clevislaw14.made: an image of symbols, with the table that is made of them. -/
import Derived.Test.YtcjmngonpijeiaaRMake
import Derived.Test.YtcjmngonpijeiaaOpI
import Derived.Test.YtcjmngonpijeiaaLookP
namespace Go.Proofs.Ytcjmngonpijeiaa
set_option maxRecDepth 100000
open Go.RowKit Pl
set_option linter.unusedVariables false

/-- an image of symbols and a table -/
def imOf (A : Option Addr) (c : Nat) (l : List Sym) (t : Tb) : Im := ⟨⟨#[]⟩, 0, sl0, sl0, sl0, A, c, l, t, sl0, sl0, sl0, sl0, sl0, 0⟩
/-- a made image -/
def MdP (A : Option Addr) (c : Nat) (l : List Sym) (w : World) (e : Ending) (w' : World) : Prop :=
  ∃ t : Tb, e = .returned (.agg (imOf A c l t).vals.toArray) ∧ t.In w' ∧ Ext w w' ∧ RowsT w' t ∧ t.bs.map Bk.is = bksI l (cntN (seenI l).length) (seenI l) ∧ t.ws = wordsI l (seenI l) ∧ t.sh = 6

theorem chg15 (w : World) (b : Nat) (v0 v1 v2 v3 v4 v5 v6 v7 v8 v9 v10 v11 v12 v13 v14 : Value) : Chg (fun k => k = b) w (((((((((((((((w.setCell ⟨b, 0, none⟩ v0).setCell ⟨b, 1, none⟩ v1).setCell ⟨b, 2, none⟩ v2).setCell ⟨b, 3, none⟩ v3).setCell ⟨b, 4, none⟩ v4).setCell ⟨b, 5, none⟩ v5).setCell ⟨b, 6, none⟩ v6).setCell ⟨b, 7, none⟩ v7).setCell ⟨b, 8, none⟩ v8).setCell ⟨b, 9, none⟩ v9).setCell ⟨b, 10, none⟩ v10).setCell ⟨b, 11, none⟩ v11).setCell ⟨b, 12, none⟩ v12).setCell ⟨b, 13, none⟩ v13).setCell ⟨b, 14, none⟩ v14) :=
  ((((((((((((((Chg.set w b 0 v0).trans (Chg.set _ b 1 v1) (fun i h => .inl h)).trans (Chg.set _ b 2 v2) (fun i h => .inl h)).trans (Chg.set _ b 3 v3) (fun i h => .inl h)).trans (Chg.set _ b 4 v4) (fun i h => .inl h)).trans (Chg.set _ b 5 v5) (fun i h => .inl h)).trans (Chg.set _ b 6 v6) (fun i h => .inl h)).trans (Chg.set _ b 7 v7) (fun i h => .inl h)).trans (Chg.set _ b 8 v8) (fun i h => .inl h)).trans (Chg.set _ b 9 v9) (fun i h => .inl h)).trans (Chg.set _ b 10 v10) (fun i h => .inl h)).trans (Chg.set _ b 11 v11) (fun i h => .inl h)).trans (Chg.set _ b 12 v12) (fun i h => .inl h)).trans (Chg.set _ b 13 v13) (fun i h => .inl h)).trans (Chg.set _ b 14 v14) (fun i h => .inl h)
theorem blk15 {w : World} {b : Nat} {t : TypeId} {u0 u1 u2 u3 u4 u5 u6 u7 u8 u9 u10 u11 u12 u13 u14 : Value} (h : Blk w b t #[u0, u1, u2, u3, u4, u5, u6, u7, u8, u9, u10, u11, u12, u13, u14]) (v0 v1 v2 v3 v4 v5 v6 v7 v8 v9 v10 v11 v12 v13 v14 : Value) : Blk (((((((((((((((w.setCell ⟨b, 0, none⟩ v0).setCell ⟨b, 1, none⟩ v1).setCell ⟨b, 2, none⟩ v2).setCell ⟨b, 3, none⟩ v3).setCell ⟨b, 4, none⟩ v4).setCell ⟨b, 5, none⟩ v5).setCell ⟨b, 6, none⟩ v6).setCell ⟨b, 7, none⟩ v7).setCell ⟨b, 8, none⟩ v8).setCell ⟨b, 9, none⟩ v9).setCell ⟨b, 10, none⟩ v10).setCell ⟨b, 11, none⟩ v11).setCell ⟨b, 12, none⟩ v12).setCell ⟨b, 13, none⟩ v13).setCell ⟨b, 14, none⟩ v14) b t #[v0, v1, v2, v3, v4, v5, v6, v7, v8, v9, v10, v11, v12, v13, v14] := by
  have h1 := h.set 0 v0
  simp only [List.setIfInBounds_toArray, List.set_cons_zero] at h1
  have h2 := h1.set 1 v1
  simp only [List.setIfInBounds_toArray, List.set_cons_zero, List.set_cons_succ] at h2
  have h3 := h2.set 2 v2
  simp only [List.setIfInBounds_toArray, List.set_cons_zero, List.set_cons_succ] at h3
  have h4 := h3.set 3 v3
  simp only [List.setIfInBounds_toArray, List.set_cons_zero, List.set_cons_succ] at h4
  have h5 := h4.set 4 v4
  simp only [List.setIfInBounds_toArray, List.set_cons_zero, List.set_cons_succ] at h5
  have h6 := h5.set 5 v5
  simp only [List.setIfInBounds_toArray, List.set_cons_zero, List.set_cons_succ] at h6
  have h7 := h6.set 6 v6
  simp only [List.setIfInBounds_toArray, List.set_cons_zero, List.set_cons_succ] at h7
  have h8 := h7.set 7 v7
  simp only [List.setIfInBounds_toArray, List.set_cons_zero, List.set_cons_succ] at h8
  have h9 := h8.set 8 v8
  simp only [List.setIfInBounds_toArray, List.set_cons_zero, List.set_cons_succ] at h9
  have h10 := h9.set 9 v9
  simp only [List.setIfInBounds_toArray, List.set_cons_zero, List.set_cons_succ] at h10
  have h11 := h10.set 10 v10
  simp only [List.setIfInBounds_toArray, List.set_cons_zero, List.set_cons_succ] at h11
  have h12 := h11.set 11 v11
  simp only [List.setIfInBounds_toArray, List.set_cons_zero, List.set_cons_succ] at h12
  have h13 := h12.set 12 v12
  simp only [List.setIfInBounds_toArray, List.set_cons_zero, List.set_cons_succ] at h13
  have h14 := h13.set 13 v13
  simp only [List.setIfInBounds_toArray, List.set_cons_zero, List.set_cons_succ] at h14
  have h15 := h14.set 14 v14
  simp only [List.setIfInBounds_toArray, List.set_cons_zero, List.set_cons_succ] at h15
  exact h15
theorem Tb.In.chg {S : Nat → Prop} {w w' : World} {t : Tb} (h : t.In w) (hc : Chg S w w') (hn : ∀ b, rowsAt t b → ¬ S b) : t.In w' :=
  ⟨hc.rd h.brd (fun b o e => hn b (.inl ⟨o, e⟩)), fun k hk => ⟨hc.rd (h.bin k hk).rd (fun b o e => hn b (.inr (.inl ⟨k, hk, o, e⟩))), (h.bin k hk).fit, (h.bin k hk).len⟩, h.blen, hc.rd h.wrd (fun b o e => hn b (.inr (.inr ⟨o, e⟩))), h.wfit, h.wlen, h.sfit⟩
theorem RowsT.chg {S : Nat → Prop} {w w' : World} {t : Tb} (h : RowsT w t) (hc : Chg S w w') (hn : ∀ b, rowsAt t b → ¬ S b) : RowsT w' t := fun b hb => by
  obtain ⟨e, cs, h1, h2⟩ := h b hb
  exact ⟨e, cs, hc.blk h1 (hn b hb), h2⟩
theorem RowsT.ne {w : World} {t : Tb} (h : RowsT w t) {g : Nat} {ty : TypeId} {cs : Array Value} (hg : Blk w g ty cs) (h1 : ty ≠ 3) (h2 : ty ≠ 82) (h3 : ty ≠ 30) : ∀ b, rowsAt t b → b ≠ g := fun b hb e => by
  obtain ⟨e2, ds, hd, ht⟩ := h b hb
  rw [e] at hd
  unfold Blk at hd hg
  rw [hg] at hd
  injection hd with hd
  injection hd with _ hd
  rcases ht with rfl | rfl | rfl
  · exact h1 hd
  · exact h2 hd
  · exact h3 hd

set_option maxRecDepth 100000 in
set_option maxHeartbeats 3200000 in
theorem made_any (A : Option Addr) (c : Nat) (l : List Sym) (w : World) (hA : RdY w A l) (hf : ∀ s ∈ l, s.Fit) (hl : l.length ≤ 512) :
    Calls Try.prog 28 #[.slice A l.length c] w (MdP A c l w) := by
  have HA := Lib.hid hA
  have HF := Lib.hid hf
  clear hA hf
  have HPP : Hid (∀ (t : Tb) (w' : World), t.In w' → Ext w w' → RowsT w' t → t.bs.map Bk.is = bksI l (cntN (seenI l).length) (seenI l) → t.ws = wordsI l (seenI l) → t.sh = 6 → MdP A c l w (.returned (.agg (imOf A c l t).vals.toArray)) w') := Lib.hid (fun t w' a1 a2 a3 a4 a5 a6 => ⟨t, rfl, a1, a2, a3, a4, a5, a6⟩)
  go_enter Try.func28, Try.ntmps28
  go_wp2_with fail
  have hb0 : Blk (w.alloc (.cells #[.string ⟨#[]⟩, .int .i64 0, .slice none 0 0, .slice none 0 0, .slice none 0 0, .slice none 0 0, .slice none 0 0, .slice none 0 0, .int .i64 0, .slice none 0 0, .slice none 0 0, .slice none 0 0, .slice none 0 0, .slice none 0 0, .int .i64 0] 60)) w.heap.size 60 #[.string ⟨#[]⟩, .int .i64 0, .slice none 0 0, .slice none 0 0, .slice none 0 0, .slice none 0 0, .slice none 0 0, .slice none 0 0, .int .i64 0, .slice none 0 0, .slice none 0 0, .slice none 0 0, .slice none 0 0, .slice none 0 0, .int .i64 0] := Blk.new _ _ _
  have hx0 := Ext.alloc w (.cells #[.string ⟨#[]⟩, .int .i64 0, .slice none 0 0, .slice none 0 0, .slice none 0 0, .slice none 0 0, .slice none 0 0, .slice none 0 0, .int .i64 0, .slice none 0 0, .slice none 0 0, .slice none 0 0, .slice none 0 0, .slice none 0 0, .int .i64 0] 60)
  generalize w.alloc (.cells #[.string ⟨#[]⟩, .int .i64 0, .slice none 0 0, .slice none 0 0, .slice none 0 0, .slice none 0 0, .slice none 0 0, .slice none 0 0, .int .i64 0, .slice none 0 0, .slice none 0 0, .slice none 0 0, .slice none 0 0, .slice none 0 0, .int .i64 0] 60) = w1 at *
  generalize hrb : w.heap.size = rb at *
  refine (rmake_any A c l w1 (hx0.rdy HA.out) HF.out (by omega)).mono ?_
  intro e w2 hm
  rcases hm with ⟨h1, _⟩ | ⟨_, t, rfl, hti, hx2, h1, h2, h3, h4⟩
  · omega
  have HTI := Lib.hid hti
  have HB2 := Lib.hid (hx2.blk hb0)
  have HX2 := Lib.hid hx2
  have HX0 := Lib.hid hx0
  have HRW := Lib.hid h4
  have HPT := Lib.hid (fun w' a1 a2 a3 => HPP.out t w' a1 a2 a3 h1 h2 h3)
  clear hti hb0 hx2 hx0 h1 h2 h3 h4 HPP
  obtain ⟨BA, bc, bs, WA, wc, ws, sh⟩ := t
  simp only [Tb.vals, imOf, Im.vals, sl0] at HPT ⊢
  have hbl := HB2.out.lt
  have hxa := Ext.alloc w2 (.cells #[.slice BA bs.length bc, .slice WA ws.length wc, .int .i64 sh] 55)
  have hkt := Blk.new w2 55 #[.slice BA bs.length bc, .slice WA ws.length wc, .int .i64 sh]
  have r0 : w2.cell? ⟨rb, 0, none⟩ = some (.string ⟨#[]⟩) := HB2.out.cell 0 rfl
  have r1 : w2.cell? ⟨rb, 1, none⟩ = some (.int .i64 0) := HB2.out.cell 1 rfl
  have r2 : w2.cell? ⟨rb, 2, none⟩ = some (.slice none 0 0) := HB2.out.cell 2 rfl
  have r3 : w2.cell? ⟨rb, 3, none⟩ = some (.slice none 0 0) := HB2.out.cell 3 rfl
  have r4 : w2.cell? ⟨rb, 4, none⟩ = some (.slice none 0 0) := HB2.out.cell 4 rfl
  have r5 : w2.cell? ⟨rb, 5, none⟩ = some (.slice none 0 0) := HB2.out.cell 5 rfl
  have r6 : w2.cell? ⟨rb, 6, none⟩ = some (.slice none 0 0) := HB2.out.cell 6 rfl
  have r7 : w2.cell? ⟨rb, 7, none⟩ = some (.slice none 0 0) := HB2.out.cell 7 rfl
  have r8 : w2.cell? ⟨rb, 8, none⟩ = some (.int .i64 0) := HB2.out.cell 8 rfl
  have r9 : w2.cell? ⟨rb, 9, none⟩ = some (.slice none 0 0) := HB2.out.cell 9 rfl
  have r10 : w2.cell? ⟨rb, 10, none⟩ = some (.slice none 0 0) := HB2.out.cell 10 rfl
  have r11 : w2.cell? ⟨rb, 11, none⟩ = some (.slice none 0 0) := HB2.out.cell 11 rfl
  have r12 : w2.cell? ⟨rb, 12, none⟩ = some (.slice none 0 0) := HB2.out.cell 12 rfl
  have r13 : w2.cell? ⟨rb, 13, none⟩ = some (.slice none 0 0) := HB2.out.cell 13 rfl
  have r14 : w2.cell? ⟨rb, 14, none⟩ = some (.int .i64 0) := HB2.out.cell 14 rfl
  have z0 := HB2.out.frozen 0
  have z1 := HB2.out.frozen 1
  have z2 := HB2.out.frozen 2
  have z3 := HB2.out.frozen 3
  have z4 := HB2.out.frozen 4
  have z5 := HB2.out.frozen 5
  have z6 := HB2.out.frozen 6
  have z7 := HB2.out.frozen 7
  have z8 := HB2.out.frozen 8
  have z9 := HB2.out.frozen 9
  have z10 := HB2.out.frozen 10
  have z11 := HB2.out.frozen 11
  have z12 := HB2.out.frozen 12
  have z13 := HB2.out.frozen 13
  have z14 := HB2.out.frozen 14
  have hc := chg15 w2 rb (.string ⟨#[]⟩) (.int .i64 0) (.slice none 0 0) (.slice none 0 0) (.slice none 0 0) (.slice A l.length c) (.slice BA bs.length bc) (.slice WA ws.length wc) (.int .i64 sh) (.slice none 0 0) (.slice none 0 0) (.slice none 0 0) (.slice none 0 0) (.slice none 0 0) (.int .i64 0)
  have hn : ∀ b, rowsAt ⟨BA, bc, bs, WA, wc, ws, sh⟩ b → ¬ b = rb := fun b hb e => HRW.out.ne HB2.out (by decide) (by decide) (by decide) b hb e
  have hxc := hc.ext (HX0.out.trans HX2.out) (fun k hk => by rw [hk, hrb]; exact Nat.le_refl _)
  have hti := HTI.out.chg hc hn
  have hrw := HRW.out.chg hc hn
  have HFIN := Lib.hid (HPT.out ((((((((((((((((w2.setCell ⟨rb, 0, none⟩ (.string ⟨#[]⟩)).setCell ⟨rb, 1, none⟩ (.int .i64 0)).setCell ⟨rb, 2, none⟩ (.slice none 0 0)).setCell ⟨rb, 3, none⟩ (.slice none 0 0)).setCell ⟨rb, 4, none⟩ (.slice none 0 0)).setCell ⟨rb, 5, none⟩ (.slice A l.length c)).setCell ⟨rb, 6, none⟩ (.slice BA bs.length bc)).setCell ⟨rb, 7, none⟩ (.slice WA ws.length wc)).setCell ⟨rb, 8, none⟩ (.int .i64 sh)).setCell ⟨rb, 9, none⟩ (.slice none 0 0)).setCell ⟨rb, 10, none⟩ (.slice none 0 0)).setCell ⟨rb, 11, none⟩ (.slice none 0 0)).setCell ⟨rb, 12, none⟩ (.slice none 0 0)).setCell ⟨rb, 13, none⟩ (.slice none 0 0)).setCell ⟨rb, 14, none⟩ (.int .i64 0)).alloc (.cells #[.slice BA bs.length bc, .slice WA ws.length wc, .int .i64 sh] 55)) (hti.ext (Ext.alloc _ _)) (hxc.trans (Ext.alloc _ _)) (hrw.ext (Ext.alloc _ _)))
  have HKF := Lib.hid ((blk15 HB2.out (.string ⟨#[]⟩) (.int .i64 0) (.slice none 0 0) (.slice none 0 0) (.slice none 0 0) (.slice A l.length c) (.slice BA bs.length bc) (.slice WA ws.length wc) (.int .i64 sh) (.slice none 0 0) (.slice none 0 0) (.slice none 0 0) (.slice none 0 0) (.slice none 0 0) (.int .i64 0)).alloc (.cells #[.slice BA bs.length bc, .slice WA ws.length wc, .int .i64 sh] 55))
  clear hxa hkt hc hn hxc hti hrw
  go_wp2
  generalize ((((((((((((((((w2.setCell ⟨rb, 0, none⟩ (.string ⟨#[]⟩)).setCell ⟨rb, 1, none⟩ (.int .i64 0)).setCell ⟨rb, 2, none⟩ (.slice none 0 0)).setCell ⟨rb, 3, none⟩ (.slice none 0 0)).setCell ⟨rb, 4, none⟩ (.slice none 0 0)).setCell ⟨rb, 5, none⟩ (.slice A l.length c)).setCell ⟨rb, 6, none⟩ (.slice BA bs.length bc)).setCell ⟨rb, 7, none⟩ (.slice WA ws.length wc)).setCell ⟨rb, 8, none⟩ (.int .i64 sh)).setCell ⟨rb, 9, none⟩ (.slice none 0 0)).setCell ⟨rb, 10, none⟩ (.slice none 0 0)).setCell ⟨rb, 11, none⟩ (.slice none 0 0)).setCell ⟨rb, 12, none⟩ (.slice none 0 0)).setCell ⟨rb, 13, none⟩ (.slice none 0 0)).setCell ⟨rb, 14, none⟩ (.int .i64 0)).alloc (.cells #[.slice BA bs.length bc, .slice WA ws.length wc, .int .i64 sh] 55)) = wf at *
  have c0 : wf.cell? ⟨rb, 0, none⟩ = some (.string ⟨#[]⟩) := HKF.out.cell 0 rfl
  have c1 : wf.cell? ⟨rb, 1, none⟩ = some (.int .i64 0) := HKF.out.cell 1 rfl
  have c2 : wf.cell? ⟨rb, 2, none⟩ = some (.slice none 0 0) := HKF.out.cell 2 rfl
  have c3 : wf.cell? ⟨rb, 3, none⟩ = some (.slice none 0 0) := HKF.out.cell 3 rfl
  have c4 : wf.cell? ⟨rb, 4, none⟩ = some (.slice none 0 0) := HKF.out.cell 4 rfl
  have c5 : wf.cell? ⟨rb, 5, none⟩ = some (.slice A l.length c) := HKF.out.cell 5 rfl
  have c6 : wf.cell? ⟨rb, 6, none⟩ = some (.slice BA bs.length bc) := HKF.out.cell 6 rfl
  have c7 : wf.cell? ⟨rb, 7, none⟩ = some (.slice WA ws.length wc) := HKF.out.cell 7 rfl
  have c8 : wf.cell? ⟨rb, 8, none⟩ = some (.int .i64 sh) := HKF.out.cell 8 rfl
  have c9 : wf.cell? ⟨rb, 9, none⟩ = some (.slice none 0 0) := HKF.out.cell 9 rfl
  have c10 : wf.cell? ⟨rb, 10, none⟩ = some (.slice none 0 0) := HKF.out.cell 10 rfl
  have c11 : wf.cell? ⟨rb, 11, none⟩ = some (.slice none 0 0) := HKF.out.cell 11 rfl
  have c12 : wf.cell? ⟨rb, 12, none⟩ = some (.slice none 0 0) := HKF.out.cell 12 rfl
  have c13 : wf.cell? ⟨rb, 13, none⟩ = some (.slice none 0 0) := HKF.out.cell 13 rfl
  have c14 : wf.cell? ⟨rb, 14, none⟩ = some (.int .i64 0) := HKF.out.cell 14 rfl
  exact bodyPost_ret (v := .agg #[.string ⟨#[]⟩, .int .i64 0, .slice none 0 0, .slice none 0 0, .slice none 0 0, .slice A l.length c, .slice BA bs.length bc, .slice WA ws.length wc, .int .i64 sh, .slice none 0 0, .slice none 0 0, .slice none 0 0, .slice none 0 0, .slice none 0 0, .int .i64 0]) (by simp [results, Try.results28, go_sem, c0, c1, c2, c3, c4, c5, c6, c7, c8, c9, c10, c11, c12, c13, c14]) rfl HFIN.out

end Go.Proofs.Ytcjmngonpijeiaa
