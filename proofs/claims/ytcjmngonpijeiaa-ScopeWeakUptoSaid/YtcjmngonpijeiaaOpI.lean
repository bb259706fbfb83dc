/- How images open: each in Go's memory reads as plain data: its symbols and its table; the rest as it stands. -/
import Derived.Test.YtcjmngonpijeiaaSymV
namespace Go.Proofs.Ytcjmngonpijeiaa
set_option maxRecDepth 100000
open Go.ChangeShapes Go.WideShapes Go.ChangeAt Go.RowKit Go.Joins Pl
set_option linter.unusedVariables false

/-- a slice of which nothing is asked -/
structure Sl3 where
  A : Option Addr
  n : Nat
  c : Nat
def Sl3.v (s : Sl3) : Value := .slice s.A s.n s.c

/-- an image -/
structure Im where
  c0 : ByteArray
  c1 : Int
  c2 : Sl3
  c3 : Sl3
  c4 : Sl3
  SA : Option Addr
  sc : Nat
  l : List Sym
  t : Tb
  c9 : Sl3
  c10 : Sl3
  c11 : Sl3
  c12 : Sl3
  c13 : Sl3
  c14 : Int
def Im.vals (m : Im) : List Value := [.string m.c0, .int .i64 m.c1, .slice m.c2.A m.c2.n m.c2.c, .slice m.c3.A m.c3.n m.c3.c, .slice m.c4.A m.c4.n m.c4.c, .slice m.SA m.l.length m.sc, .slice m.t.BA m.t.bs.length m.t.bc, .slice m.t.WA m.t.ws.length m.t.wc, .int .i64 m.t.sh, .slice m.c9.A m.c9.n m.c9.c, .slice m.c10.A m.c10.n m.c10.c, .slice m.c11.A m.c11.n m.c11.c, .slice m.c12.A m.c12.n m.c12.c, .slice m.c13.A m.c13.n m.c13.c, .int .i64 m.c14]
def sl0 : Sl3 := ⟨none, 0, 0⟩
def im0 : Im := ⟨⟨#[]⟩, 0, sl0, sl0, sl0, none, 0, [], ⟨none, 0, [], none, 0, [], 0⟩, sl0, sl0, sl0, sl0, sl0, 0⟩
structure Im.In (w : World) (m : Im) : Prop where
  rd : RdY w m.SA m.l
  fit : ∀ s ∈ m.l, s.Fit
  len : m.l.length ≤ 140737488351232
  cap : m.l.length ≤ m.sc
  capm : m.sc ≤ maxLen
  t : m.t.In w
theorem Im.In.ext {w w' : World} {m : Im} (h : m.In w) (hx : Ext w w') : m.In w' := ⟨RdY.ext h.rd hx, h.fit, h.len, h.cap, h.capm, h.t.ext hx⟩

/-- images in a row -/
def RdI (w : World) (A : Option Addr) (ims : List Im) : Prop := RdC w A 15 (fun m cs => cs = Im.vals m) ims
theorem RdI.ext {w w' : World} {A : Option Addr} {ims : List Im} (h : RdI w A ims) (hx : Ext w w') : RdI w' A ims := RdC.ext h hx
structure ImsIn (w : World) (A : Option Addr) (ims : List Im) : Prop where
  rd : RdI w A ims
  each : ∀ m ∈ ims, m.In w
  len : ims.length * 304 ≤ 140737488351232
theorem ImsIn.ext {w w' : World} {A : Option Addr} {ims : List Im} (h : ImsIn w A ims) (hx : Ext w w') : ImsIn w' A ims := ⟨h.rd.ext hx, fun m hm => (h.each m hm).ext hx, h.len⟩
def InImgs (w : World) (v : Value) (ims : List Im) : Prop := ∃ A cap, v = .slice A ims.length cap ∧ ImsIn w A ims ∧ ims.length ≤ cap ∧ cap ≤ maxLen
def InImgsW (w : World) (v : Value) (ims : List Im) : Prop := InImgs w v ims ∧ ∀ m ∈ ims, m.l.length * 88 ≤ 140737488351232
def InImg (w : World) (v : Value) (m : Im) : Prop := v = .agg m.vals.toArray ∧ m.In w

section
variable {H : Type} {enc : TypeId × Value → H} {w : World} {base : Nat} {spare : Nat → Bool} {held : Bool} {r : Reach} {b0 : Nat} {v : Value} {d : DataW H} {ps : List MemPlace}

theorem slice_one {P : Program} {t e : TypeId} {fuel : Nat} {c : Value} {x : DataW H × List MemPlace} (ht : P.underlying t = some (.slice e)) (h : DataW.trod enc P w base spare held fuel t [c] = some x) : ∃ s : Sl3, c = .slice s.A s.n s.c := by
  rcases Go.Deep.open_slice ht h with ⟨hcs, _⟩ | ⟨a, len, cap, m, n, D, Pl, hcs, _⟩
  · simp only [List.cons.injEq, and_true] at hcs
    exact ⟨⟨_, _, _⟩, hcs⟩
  · simp only [List.cons.injEq, and_true] at hcs
    exact ⟨⟨_, _, _⟩, hcs⟩

/-- symbols, and the bytes that they take -/
theorem cells_symsN {fuel : Nat} {x : DataW H × List MemPlace} (h : DataW.trod enc Try.prog w base spare held fuel 49 [v] = some x) (hz : Light Try.prog 49 x.1) : ∃ l, InSyms w v l ∧ l.length * 88 ≤ 140737488351232 := by
  obtain ⟨A, c, xs, hv, hR, hb, _, hc, hm⟩ := cells_slice (α := Sym) (Q := fun s cs => cs = s.vals ∧ s.Fit) (bk := fun _ => 1) (by_ := 88) Try.underlying49 (show Try.prog.cellsOf 25 = 9 by kernel_rfl) (by omega) (by kernel_rfl) h hz (fun fuel cs y hy hz1 _ => by
    obtain ⟨s, h1, h2⟩ := sym_parts hy hz1
    exact ⟨s, ⟨h1, h2⟩, bulk_one _⟩)
  refine ⟨xs, ⟨A, c, hv, fun i s hs => ?_, fun s hs => ?_, by omega, hc, hm⟩, hb⟩
  · obtain ⟨b, off, cs, hA, hl, ⟨hq, _⟩, hc⟩ := hR i s hs
    exact ⟨b, off, cs, hA, hl, hq, hc⟩
  · obtain ⟨i, hi, rfl⟩ := List.getElem_of_mem hs
    obtain ⟨b, off, cs, hA, hl, ⟨_, hq⟩, hc⟩ := hR i _ (List.getElem?_eq_getElem hi)
    exact hq

theorem img_parts {fuel : Nat} {cs : List Value} {y : DataW H × List MemPlace} (hy : DataW.trod enc Try.prog w base spare held fuel 60 cs = some y) (hz : Light Try.prog 60 y.1) :
    ∃ m : Im, cs = m.vals ∧ (m.In w ∧ m.l.length * 88 ≤ 140737488351232) ∧ m.t.bs.length + 1 ≤ Rows.uptoBulk y.1 := by
  obtain ⟨xs, n, _, hx, hl, hlen, hf⟩ := DataW.trod_struct Try.underlying60 hy
  have hC : Try.prog.cellsOf 60 = 15 := by kernel_rfl
  rw [hC] at hl
  match cs, hl with
  | [c0, c1, c2, c3, c4, c5, c6, c7, c8, c9, c10, c11, c12, c13, c14], _ =>
  match xs, hlen with
  | [y0, y1, y2, y3, y4, y5, y6, y7, y8, y9, y10, y11, y12], _ =>
  have h0 : DataW.trod enc Try.prog w base spare held n 9 [c0] = some y0 := hf 0 _ rfl
  have h1 : DataW.trod enc Try.prog w base spare held n 45 [c1] = some y1 := hf 1 _ rfl
  have h2 : DataW.trod enc Try.prog w base spare held n 46 [c2] = some y2 := hf 2 _ rfl
  have h3 : DataW.trod enc Try.prog w base spare held n 47 [c3] = some y3 := hf 3 _ rfl
  have h4 : DataW.trod enc Try.prog w base spare held n 48 [c4] = some y4 := hf 4 _ rfl
  have h5 : DataW.trod enc Try.prog w base spare held n 49 [c5] = some y5 := hf 5 _ rfl
  have h6 : DataW.trod enc Try.prog w base spare held n 55 [c6, c7, c8] = some y6 := hf 6 _ rfl
  have h7 : DataW.trod enc Try.prog w base spare held n 56 [c9] = some y7 := hf 7 _ rfl
  have h8 : DataW.trod enc Try.prog w base spare held n 57 [c10] = some y8 := hf 8 _ rfl
  have h9 : DataW.trod enc Try.prog w base spare held n 30 [c11] = some y9 := hf 9 _ rfl
  have h10 : DataW.trod enc Try.prog w base spare held n 30 [c12] = some y10 := hf 10 _ rfl
  have h11 : DataW.trod enc Try.prog w base spare held n 58 [c13] = some y11 := hf 11 _ rfl
  have h12 : DataW.trod enc Try.prog w base spare held n 3 [c14] = some y12 := hf 12 _ rfl
  subst hx
  have hzj : ∀ (j : Nat) (t : TypeId) (d : DataW H), (#[9, 45, 46, 47, 48, 49, 55, 56, 57, 30, 30, 58, 3] : Array TypeId).toList[j]? = some t → [y0.1, y1.1, y2.1, y3.1, y4.1, y5.1, y6.1, y7.1, y8.1, y9.1, y10.1, y11.1, y12.1][j]? = some d → Light Try.prog t d := by
    intro j t d ht hd k hk
    refine hz k ?_
    simp only [DataW.weights, Try.underlying60]
    exact DataW.weights_mem_each (j := j) ht hd k hk
  have hz5 := hzj 5 _ _ rfl rfl
  have hz6 := hzj 6 _ _ rfl rfl
  clear hzj hz hf
  obtain ⟨s0, e0, _⟩ := DataW.trod_string Try.underlying9 h0
  obtain ⟨k1, e1, _⟩ := DataW.trod_int Try.underlying45 h1
  obtain ⟨s2, rfl⟩ := slice_one Try.underlying46 h2
  obtain ⟨s3, rfl⟩ := slice_one Try.underlying47 h3
  obtain ⟨s4, rfl⟩ := slice_one Try.underlying48 h4
  obtain ⟨l, ⟨SA, sc, rfl, hrd, hfit, hlen, hcap, hcm⟩, hby⟩ := cells_symsN h5 hz5
  obtain ⟨tb, htb, htI, htk⟩ := tb_parts h6 hz6
  obtain ⟨s7, rfl⟩ := slice_one Try.underlying56 h7
  obtain ⟨s8, rfl⟩ := slice_one Try.underlying57 h8
  obtain ⟨s9, rfl⟩ := slice_one Try.underlying30 h9
  obtain ⟨s10, rfl⟩ := slice_one Try.underlying30 h10
  obtain ⟨s11, rfl⟩ := slice_one Try.underlying58 h11
  obtain ⟨k12, e12, _⟩ := DataW.trod_int Try.underlying3 h12
  simp only [List.cons.injEq, and_true] at e0 e1 e12
  subst e0 e1 e12
  simp only [Tb.vals, List.cons.injEq, and_true] at htb
  obtain ⟨rfl, rfl, rfl⟩ := htb
  refine ⟨⟨_, _, s2, s3, s4, SA, sc, l, tb, s7, s8, s9, s10, s11, _⟩, rfl, ⟨⟨hrd, hfit, hlen, hcap, hcm, htI⟩, hby⟩, ?_⟩
  simp only [List.map_cons, List.map_nil, Rows.uptoBulk, Rows.uptoBulkAll]
  omega

theorem cells_imgs {fuel : Nat} {x : DataW H × List MemPlace} (h : DataW.trod enc Try.prog w base spare held fuel 26 [v] = some x) (hz : Light Try.prog 26 x.1) :
    ∃ ims, (InImgs w v ims ∧ ∀ m ∈ ims, m.l.length * 88 ≤ 140737488351232) ∧ (ims.map fun m => m.t.bs.length).sum + ims.length + 1 ≤ Rows.uptoBulk x.1 := by
  obtain ⟨A, c, xs, hv, hR, hb, hk, hc, hm⟩ := cells_slice (α := Im) (Q := fun m cs => cs = m.vals ∧ m.In w ∧ m.l.length * 88 ≤ 140737488351232) (bk := fun m => m.t.bs.length + 1) (by_ := 304) Try.underlying26 (show Try.prog.cellsOf 60 = 15 by kernel_rfl) (by omega) (by kernel_rfl) h hz (fun fuel cs y hy hz1 _ => by
    obtain ⟨m, h1, h2, h3⟩ := img_parts hy hz1
    exact ⟨m, ⟨h1, h2⟩, h3⟩)
  have hsum : ∀ l : List Im, (l.map fun m => m.t.bs.length + 1).sum = (l.map fun m => m.t.bs.length).sum + l.length := fun l => by
    induction l with
    | nil => rfl
    | cons a l ih => simp only [List.map_cons, List.sum_cons, List.length_cons, ih]; omega
  refine ⟨xs, ⟨⟨A, c, hv, ⟨fun i s hs => ?_, fun s hs => ?_, hb⟩, hc, hm⟩, fun s hs => ?_⟩, by rw [← hsum]; exact hk⟩
  · obtain ⟨b, off, cs, hA, hl, ⟨hq, _⟩, hc⟩ := hR i s hs
    exact ⟨b, off, cs, hA, hl, hq, hc⟩
  · obtain ⟨i, hi, rfl⟩ := List.getElem_of_mem hs
    obtain ⟨b, off, cs, hA, hl, ⟨_, hq, _⟩, hc⟩ := hR i _ (List.getElem?_eq_getElem hi)
    exact hq
  · obtain ⟨i, hi, rfl⟩ := List.getElem_of_mem hs
    obtain ⟨b, off, cs, hA, hl, ⟨_, _, hq⟩, hc⟩ := hR i _ (List.getElem?_eq_getElem hi)
    exact hq

theorem open_InImgsU (hval : Value.okWide Try.prog w r b0 26 v) (hd : DataW.Trod enc Try.prog w base spare held 26 v d ps) (hz : Light Try.prog 26 d) : ∃ x, InImgs w v x ∧ (x.map fun m => m.t.bs.length).sum + 1 ≤ Rows.uptoBulk d := by
  obtain ⟨a, len, cap, rfl⟩ := okWide_slice Try.underlying26 hval
  obtain ⟨fuel, hf⟩ := hd
  obtain ⟨x, ⟨h1, _⟩, h2⟩ := cells_imgs (by simpa [Value.cells] using hf) hz
  exact ⟨x, h1, Nat.le_trans (by omega) h2⟩
/-- with their number, and the bytes that their symbols take -/
theorem open_InImgsW (hval : Value.okWide Try.prog w r b0 26 v) (hd : DataW.Trod enc Try.prog w base spare held 26 v d ps) (hz : Light Try.prog 26 d) : ∃ x, InImgsW w v x ∧ (x.map fun m => m.t.bs.length).sum + x.length + 1 ≤ Rows.uptoBulk d := by
  obtain ⟨a, len, cap, rfl⟩ := okWide_slice Try.underlying26 hval
  obtain ⟨fuel, hf⟩ := hd
  exact cells_imgs (by simpa [Value.cells] using hf) hz
theorem open_InImgsN (hval : Value.okWide Try.prog w r b0 26 v) (hd : DataW.Trod enc Try.prog w base spare held 26 v d ps) (hz : Light Try.prog 26 d) : ∃ x, InImgs w v x ∧ (x.map fun m => m.t.bs.length).sum + x.length + 1 ≤ Rows.uptoBulk d := by
  obtain ⟨x, h, hk⟩ := open_InImgsW hval hd hz
  exact ⟨x, h.1, hk⟩
theorem open_InImgs (hval : Value.okWide Try.prog w r b0 26 v) (hd : DataW.Trod enc Try.prog w base spare held 26 v d ps) (hz : Light Try.prog 26 d) : ∃ x, InImgs w v x := by
  obtain ⟨x, hx, _⟩ := open_InImgsU hval hd hz
  exact ⟨x, hx⟩
theorem open_InImgU (hval : Value.okWide Try.prog w r b0 60 v) (hd : DataW.Trod enc Try.prog w base spare held 60 v d ps) (hz : Light Try.prog 60 d) : ∃ x, InImg w v x ∧ x.t.bs.length ≤ Rows.uptoBulk d := by
  obtain ⟨cs, rfl, _⟩ := okWide_struct Try.underlying60 hval
  obtain ⟨fuel, hf⟩ := hd
  obtain ⟨p, h1, ⟨h2, _⟩, h3⟩ := img_parts hf hz
  refine ⟨p, ⟨?_, h2⟩, Nat.le_of_succ_le h3⟩
  congr 1
  rw [← h1]
  simp [Value.cells]
theorem open_InSymU (hval : Value.okWide Try.prog w r b0 25 v) (hd : DataW.Trod enc Try.prog w base spare held 25 v d ps) (hz : Light Try.prog 25 d) : ∃ x, InSym w v x ∧ 1 ≤ Rows.uptoBulk d := by
  obtain ⟨x, h⟩ := open_InSym hval hd hz
  exact ⟨x, h, bulk_one d⟩
theorem open_InIntU (hval : Value.okWide Try.prog w r b0 3 v) (hd : DataW.Trod enc Try.prog w base spare held 3 v d ps) (hz : Light Try.prog 3 d) : ∃ x, InInt w v x ∧ 1 ≤ Rows.uptoBulk d := by
  obtain ⟨x, h⟩ := open_InInt Try.underlying3 hval hd hz
  exact ⟨x, h, bulk_one d⟩
theorem open_InBoolU (hval : Value.okWide Try.prog w r b0 4 v) (hd : DataW.Trod enc Try.prog w base spare held 4 v d ps) (hz : Light Try.prog 4 d) : ∃ x, InBool w v x ∧ 1 ≤ Rows.uptoBulk d := by
  obtain ⟨x, h⟩ := open_InBool Try.underlying4 hval hd hz
  exact ⟨x, h, bulk_one d⟩
end

/-- an image's place in a row: its cells -/
def IAt (w : World) (b o : Nat) (m : Im) : Prop :=
  w.cell? ⟨b, o, none⟩ = some (.string m.c0) ∧ w.cell? ⟨b, o + 1, none⟩ = some (.int .i64 m.c1) ∧ w.cell? ⟨b, o + 2, none⟩ = some (.slice m.c2.A m.c2.n m.c2.c) ∧ w.cell? ⟨b, o + 3, none⟩ = some (.slice m.c3.A m.c3.n m.c3.c) ∧ w.cell? ⟨b, o + 4, none⟩ = some (.slice m.c4.A m.c4.n m.c4.c) ∧
  w.cell? ⟨b, o + 5, none⟩ = some (.slice m.SA m.l.length m.sc) ∧ w.cell? ⟨b, o + 6, none⟩ = some (.slice m.t.BA m.t.bs.length m.t.bc) ∧ w.cell? ⟨b, o + 7, none⟩ = some (.slice m.t.WA m.t.ws.length m.t.wc) ∧ w.cell? ⟨b, o + 8, none⟩ = some (.int .i64 m.t.sh) ∧
  w.cell? ⟨b, o + 9, none⟩ = some (.slice m.c9.A m.c9.n m.c9.c) ∧ w.cell? ⟨b, o + 10, none⟩ = some (.slice m.c10.A m.c10.n m.c10.c) ∧ w.cell? ⟨b, o + 11, none⟩ = some (.slice m.c11.A m.c11.n m.c11.c) ∧ w.cell? ⟨b, o + 12, none⟩ = some (.slice m.c12.A m.c12.n m.c12.c) ∧ w.cell? ⟨b, o + 13, none⟩ = some (.slice m.c13.A m.c13.n m.c13.c) ∧ w.cell? ⟨b, o + 14, none⟩ = some (.int .i64 m.c14)
theorem RdI.at {w : World} {A : Option Addr} {ims : List Im} (h : RdI w A ims) {i : Nat} (hi : i < ims.length) : ∃ b off, A = some ⟨b, off, none⟩ ∧ b < w.heap.size ∧ IAt w b (off + i * 15) ims[i] := by
  obtain ⟨b, off, cs, hA, hl, rfl, hc⟩ := h i _ (List.getElem?_eq_getElem hi)
  refine ⟨b, off, hA, cell_lt (v := .string ims[i].c0) (hc 0 (by omega)), hc 0 (by omega), hc 1 (by omega), hc 2 (by omega), hc 3 (by omega), hc 4 (by omega), hc 5 (by omega), hc 6 (by omega), hc 7 (by omega), hc 8 (by omega), hc 9 (by omega), hc 10 (by omega), hc 11 (by omega), hc 12 (by omega), hc 13 (by omega), hc 14 (by omega)⟩
theorem IAt.ext {w w' : World} {b o : Nat} {m : Im} (h : IAt w b o m) (hx : Ext w w') : IAt w' b o m := by
  obtain ⟨h0, h1, h2, h3, h4, h5, h6, h7, h8, h9, h10, h11, h12, h13, h14⟩ := h
  exact ⟨hx.cell h0, hx.cell h1, hx.cell h2, hx.cell h3, hx.cell h4, hx.cell h5, hx.cell h6, hx.cell h7, hx.cell h8, hx.cell h9, hx.cell h10, hx.cell h11, hx.cell h12, hx.cell h13, hx.cell h14⟩

end Go.Proofs.Ytcjmngonpijeiaa
