/- Memory for a symbol whose weakness is turned in copies of the call's own: symbols as flat cells; one cell of a row of the call's own is stored anew. -/
import Derived.Test.YtcjmngonpijeiaaWeakP
import Derived.Test.YtcjmngonpijeiaaApp15
import Derived.Test.YtcjmngonpijeiaaCop
namespace Go.Proofs.Ytcjmngonpijeiaa
set_option maxRecDepth 100000
open Go.RowKit Pl
set_option linter.unusedVariables false

/-- symbols' cells, in a row -/
def flatY (l : List Sym) : List Value := l.flatMap Sym.vals
theorem yvals_len (s : Sym) : s.vals.length = 9 := rfl
theorem flatY_len (l : List Sym) : (flatY l).length = l.length * 9 := by
  induction l with
  | nil => rfl
  | cons m r ih => simp only [flatY, List.flatMap_cons, List.length_append, yvals_len, List.length_cons] at ih ⊢; omega
theorem flatY_oneCell (l : List Sym) : ∀ u ∈ flatY l, u.oneCell' = true := by
  intro u hu
  obtain ⟨m, _, hm⟩ := List.mem_flatMap.1 hu
  simp only [Sym.vals, List.mem_cons, List.not_mem_nil, or_false] at hm
  rcases hm with rfl | rfl | rfl | rfl | rfl | rfl | rfl | rfl | rfl <;> rfl
theorem flatY_get : ∀ (l : List Sym) (i j : Nat) (hi : i < l.length), j < 9 → (flatY l)[i * 9 + j]? = (l[i].vals)[j]?
  | [], i, j, hi, _ => by simp at hi
  | m :: r, 0, j, hi, hj => by
    simp only [flatY, List.flatMap_cons, List.getElem_cons_zero]
    rw [List.getElem?_append_left (by rw [yvals_len]; omega), Nat.zero_mul, Nat.zero_add]
  | m :: r, i + 1, j, hi, hj => by
    have ih := flatY_get r i j (by simpa using hi) hj
    simp only [flatY, List.flatMap_cons, List.getElem_cons_succ] at ih ⊢
    rw [List.getElem?_append_right (by rw [yvals_len]; omega), yvals_len, show (i + 1) * 9 + j - 9 = i * 9 + j by omega]
    exact ih
theorem RdY.flat {w : World} {A : Option Addr} {l : List Sym} (h : RdY w A l) : Rd w A (flatY l) := by
  intro x hx
  rw [flatY_len] at hx
  have hi : x / 9 < l.length := by omega
  have hj : x % 9 < 9 := Nat.mod_lt _ (by omega)
  have he : x / 9 * 9 + x % 9 = x := by omega
  obtain ⟨b, off, cs, hA, hl, rfl, hc⟩ := h (x / 9) _ (List.getElem?_eq_getElem hi)
  refine ⟨b, off, hA, ?_⟩
  have h1 := hc (x % 9) hj
  rw [← flatY_get l _ _ hi hj, he, Nat.add_assoc, he] at h1
  rw [h1, List.getElem?_eq_getElem (by rw [flatY_len]; exact hx)]
theorem Rd.syms {w : World} {A : Option Addr} {l : List Sym} (h : Rd w A (flatY l)) : RdY w A l := by
  intro i m hm
  obtain ⟨hi, rfl⟩ := List.getElem?_eq_some_iff.1 hm
  obtain ⟨b, off, hA, _⟩ := h (i * 9) (by rw [flatY_len]; omega)
  refine ⟨b, off, _, hA, yvals_len _, rfl, fun j hj => ?_⟩
  have hlt : i * 9 + j < (flatY l).length := by rw [flatY_len]; omega
  obtain ⟨b', off', hA', hc⟩ := h (i * 9 + j) hlt
  rw [hA] at hA'
  simp only [Option.some.injEq, Addr.mk.injEq, and_true] at hA'
  obtain ⟨rfl, rfl⟩ := hA'
  rw [Nat.add_assoc, hc, ← flatY_get l i j hi hj, List.getElem?_eq_getElem hlt]

/-- one cell of one element -/
theorem flatMap_set {α : Type} (f : α → List Value) (c : Nat) (hf : ∀ x, (f x).length = c) (y : α) (v : Value) (j : Nat) (hj : j < c) : ∀ (l : List α) (i : Nat) (hi : i < l.length), f y = (f l[i]).set j v → (l.flatMap f).set (i * c + j) v = (l.set i y).flatMap f
  | [], i, hi, _ => by simp at hi
  | x :: r, 0, hi, hy => by
    simp only [List.getElem_cons_zero] at hy
    simp only [List.flatMap_cons, List.set_cons_zero, Nat.zero_mul, Nat.zero_add]
    rw [List.set_append_left _ _ (by rw [hf]; exact hj), hy]
  | x :: r, i + 1, hi, hy => by
    simp only [List.getElem_cons_succ] at hy
    have ih := flatMap_set f c hf y v j hj r i (by simpa using hi) hy
    simp only [List.flatMap_cons, List.set_cons_succ]
    have hm : (i + 1) * c = i * c + c := Nat.succ_mul i c
    rw [List.set_append_right _ _ (by rw [hf]; omega), hf, show (i + 1) * c + j - c = i * c + j by omega, ih]

theorem tw_syms (l : List Sym) (b : Nat) (hb : b < l.length) : (flatY l).set (b * 9 + 4) (.bool (!l[b].weak)) = flatY (l.set b (tw (l.getD b sym0))) := by
  have hg : l.getD b sym0 = l[b] := by rw [List.getD_eq_getElem?_getD, List.getElem?_eq_getElem hb]; rfl
  rw [hg]
  exact flatMap_set Sym.vals 9 yvals_len _ _ 4 (by omega) l b hb rfl
theorem tw_imgs (ims : List Im) (a b : Nat) (ha : a < ims.length) (A : Option Addr) (c : Nat) : (flat ims).set (a * 15 + 5) (.slice A ims[a].l.length c) = flat (ims.set a (twI (ims.getD a im0) b A c)) := by
  have hg : ims.getD a im0 = ims[a] := by rw [List.getD_eq_getElem?_getD, List.getElem?_eq_getElem ha]; rfl
  rw [hg]
  refine flatMap_set Im.vals 15 vals_len _ _ 5 (by omega) ims a ha ?_
  simp only [Im.vals, twI, List.length_set, List.set_cons_succ, List.set_cons_zero]

/-- the copies, whose cells are stored anew: images that read -/
theorem tw_ims {w w5 : World} {A : Option Addr} {ims : List Im} {a b g1 k1 g3 k3 : Nat} (hI : ImsIn w A ims) (hx : Ext w w5)
    (h1 : w5.ownsRow w.heap.size 60 15 (.slice (some ⟨g1, 0, none⟩) ims.length k1) ims.length (flat ims)) (ha : a < ims.length)
    (h3 : w5.ownsRow w.heap.size 25 9 (.slice (some ⟨g3, 0, none⟩) ims[a].l.length k3) ims[a].l.length (flatY ims[a].l)) (hb : b < ims[a].l.length) :
    ImsIn ((w5.setCell ⟨g3, b * 9 + 4, none⟩ (.bool (!ims[a].l[b].weak))).setCell ⟨g1, a * 15 + 5, none⟩ (.slice (some ⟨g3, 0, none⟩) ims[a].l.length k3)) (some ⟨g1, 0, none⟩) (ims.set a (twI (ims.getD a im0) b (some ⟨g3, 0, none⟩) k3)) ∧
    Ext w ((w5.setCell ⟨g3, b * 9 + 4, none⟩ (.bool (!ims[a].l[b].weak))).setCell ⟨g1, a * 15 + 5, none⟩ (.slice (some ⟨g3, 0, none⟩) ims[a].l.length k3)) := by
  have hg1 := (own_lt h1).1
  have hg3 := (own_lt h3).1
  have hne : g1 ≠ g3 := by
    rcases own_ne_ty h1 h3 (by decide) with h | h
    · cases h
    · exact fun e => h (by rw [e]; rfl)
  have hX : Ext w ((w5.setCell ⟨g3, b * 9 + 4, none⟩ (.bool (!ims[a].l[b].weak))).setCell ⟨g1, a * 15 + 5, none⟩ (.slice (some ⟨g3, 0, none⟩) ims[a].l.length k3)) :=
    Ext.of ((hx.below.setCell hg3 _).setCell hg1 _)
  have hgd : ims.getD a im0 = ims[a] := by rw [List.getD_eq_getElem?_getD, List.getElem?_eq_getElem ha]; rfl
  have o3 := (h3.stored (b * 9 + 4) (.bool (!ims[a].l[b].weak))).1
  rw [tw_syms _ _ hb] at o3
  have o3' := own_far o3 (p := ⟨g1, a * 15 + 5, none⟩) (fun e => hne e.symm) (.slice (some ⟨g3, 0, none⟩) ims[a].l.length k3)
  have o1 := own_far h1 (p := ⟨g3, b * 9 + 4, none⟩) hne (.bool (!ims[a].l[b].weak))
  have o1' := (o1.stored (a * 15 + 5) (.slice (some ⟨g3, 0, none⟩) ims[a].l.length k3)).1
  rw [tw_imgs _ _ b ha] at o1'
  refine ⟨⟨Rd.imgs (Rd.of_ownN o1'), fun q hq => ?_, by rw [List.length_set]; exact hI.len⟩, hX⟩
  rcases List.mem_or_eq_of_mem_set hq with h | h
  · exact (hI.each q h).ext hX
  · subst h
    rw [hgd]
    have hm := (hI.each _ (List.getElem_mem ha)).ext hX
    obtain ⟨_, _, he, _, _, hnk, hkm⟩ := own_at h3 (by omega)
    injection he with _ _ hk
    subst hk
    have hl : (ims[a].l.set b (tw (ims[a].l.getD b sym0))).length = ims[a].l.length := List.length_set
    refine ⟨?_, fun s hs => ?_, by show (ims[a].l.set b _).length ≤ _; rw [hl]; exact hm.len, by show (ims[a].l.set b _).length ≤ _; rw [hl]; exact hnk, hkm, hm.t⟩
    · exact Rd.syms (Rd.of_ownN o3')
    · rcases List.mem_or_eq_of_mem_set hs with h | h
      · exact hm.fit s h
      · subst h
        rw [List.getD_eq_getElem?_getD, List.getElem?_eq_getElem hb]
        have hf := hm.fit _ (List.getElem_mem hb)
        exact ⟨hf.name, hf.ver, hf.kind, hf.vis, hf.val, hf.size⟩

/-- what the walk asks of the copies -/
theorem tw_cells {w5 : World} {B1 B3 a b g1 k1 g3 k3 : Nat} {ims : List Im} {l : List Sym}
    (h1 : w5.ownsRow B1 60 15 (.slice (some ⟨g1, 0, none⟩) ims.length k1) ims.length (flat ims)) (ha : a < ims.length)
    (h3 : w5.ownsRow B3 25 9 (.slice (some ⟨g3, 0, none⟩) l.length k3) l.length (flatY l)) (hb : b < l.length) :
    g1 ≠ g3 ∧ g1 < w5.heap.size ∧ g3 < w5.heap.size ∧ w5.cell? ⟨g3, b * 9 + 4, none⟩ = some (.bool l[b].weak) ∧ w5.cell? ⟨g1, a * 15 + 5, none⟩ = some (.slice ims[a].SA ims[a].l.length ims[a].sc) ∧
    w5.frozen? ⟨g3, b * 9 + 4, none⟩ = false ∧ w5.frozen? ⟨g1, a * 15 + 5, none⟩ = false := by
  refine ⟨?_, (own_lt h1).2, (own_lt h3).2, ?_, ?_, h3.frozenAt _, h1.frozenAt _⟩
  · rcases own_ne_ty h1 h3 (by decide) with h | h
    · cases h
    · exact fun e => h (by rw [e]; rfl)
  · rw [h3.cellAt _ (by omega), flatY_get _ _ _ hb (by omega)]; rfl
  · rw [h1.cellAt _ (by omega), flat_get _ _ _ ha (by omega)]; rfl

/-- what the symbol means among the copies -/
theorem bind_tw_any {w w5 : World} {A : Option Addr} {ims : List Im} {a b g1 k1 g3 k3 : Nat} (copied : Bool) (hI : ImsIn w A ims) (hbs : ∀ m ∈ ims, m.t.bs.length < 4294967296) (hx : Ext w w5)
    (h1 : w5.ownsRow w.heap.size 60 15 (.slice (some ⟨g1, 0, none⟩) ims.length k1) ims.length (flat ims)) (ha : a < ims.length)
    (h3 : w5.ownsRow w.heap.size 25 9 (.slice (some ⟨g3, 0, none⟩) ims[a].l.length k3) ims[a].l.length (flatY ims[a].l)) (hb : b < ims[a].l.length) :
    Ext w ((w5.setCell ⟨g3, b * 9 + 4, none⟩ (.bool (!ims[a].l[b].weak))).setCell ⟨g1, a * 15 + 5, none⟩ (.slice (some ⟨g3, 0, none⟩) ims[a].l.length k3)) ∧
    ∃ gc : Int, (((bindP a b copied ims).1.2.2 = true ∧ (bindP a b copied ims).2 = 0 ∧ gc = 0) ∨ ((bindP a b copied ims).1.2.2 = false ∧ (((bindP a b copied ims).2 = 0 ∧ gc = 141) ∨ ((bindP a b copied ims).2 = 141 ∧ gc = 0)))) ∧
      Calls Try.prog 17 #[.int .i64 a, .int .i64 b, .bool copied, .slice (some ⟨g1, 0, none⟩) ims.length k1] ((w5.setCell ⟨g3, b * 9 + 4, none⟩ (.bool (!ims[a].l[b].weak))).setCell ⟨g1, a * 15 + 5, none⟩ (.slice (some ⟨g3, 0, none⟩) ims[a].l.length k3))
        fun e w' => e = .returned (.tuple #[.agg #[.int .i64 (bindP a b copied ims).1.1, .int .i64 (bindP a b copied ims).1.2.1, .bool (bindP a b copied ims).1.2.2], .int .i64 gc]) ∧
          Ext ((w5.setCell ⟨g3, b * 9 + 4, none⟩ (.bool (!ims[a].l[b].weak))).setCell ⟨g1, a * 15 + 5, none⟩ (.slice (some ⟨g3, 0, none⟩) ims[a].l.length k3)) w' := by
  obtain ⟨hI2, hX⟩ := tw_ims hI hx h1 ha h3 hb
  refine ⟨hX, (bindP a b copied (ims.set a (twI (ims.getD a im0) b (some ⟨g3, 0, none⟩) k3))).2, ?_, ?_⟩
  rotate_left
  · have hcall := bind_any a b copied (some ⟨g1, 0, none⟩) k1 _ _ hI2 (fun q hq => by
      rcases List.mem_or_eq_of_mem_set hq with h | h
      · exact hbs q h
      · rw [h]
        have hgd : ims.getD a im0 = ims[a] := by rw [List.getD_eq_getElem?_getD, List.getElem?_eq_getElem ha]; rfl
        rw [hgd]
        show ims[a].t.bs.length < 4294967296
        exact hbs ims[a] (List.getElem_mem ha))
    rw [List.length_set] at hcall
    refine hcall.mono fun e w' h => ?_
    unfold BdP at h
    rw [(bind_tw a b copied ims (some ⟨g3, 0, none⟩) k3 ha (by
      rw [List.getD_eq_getElem?_getD, List.getElem?_eq_getElem ha]; exact hb)).1] at h
    exact h
  · exact (bind_tw a b copied ims (some ⟨g3, 0, none⟩) k3 ha (by
      rw [List.getD_eq_getElem?_getD, List.getElem?_eq_getElem ha]; exact hb)).2

end Go.Proofs.Ytcjmngonpijeiaa
