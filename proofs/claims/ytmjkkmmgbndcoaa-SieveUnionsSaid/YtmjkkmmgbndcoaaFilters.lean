/- Slices of filters: how they read. -/
import Derived.Test.YtmjkkmmgbndcoaaOpen
namespace Go.Proofs.Ytmjkkmmgbndcoaa
open Go.ChangeShapes Go.WideShapes Go.ChangeAt Go.RowKit Go.Joins
set_option linter.unusedVariables false

/-- a filter in memory -/
structure Fl where
  A : Option Addr
  cap : Nat
  ws : List Nat
  sh : Int

def Fl.val (f : Fl) : Value := .agg #[.slice f.A f.ws.length f.cap, .int .i64 f.sh]
def Fl.pair (f : Fl) : List Nat × Int := (f.ws, f.sh)
def Fl.Fit (f : Fl) : Prop := (∀ y ∈ f.ws, y < 18446744073709551616) ∧ f.ws.length * 8 ≤ 140737488351232 ∧ -9223372036854775808 ≤ f.sh ∧ f.sh ≤ 9223372036854775807

/-- the slice at A reads as these filters -/
def RdF (w : World) (A : Option Addr) (fs : List Fl) : Prop :=
  ∀ (i : Nat) (f : Fl), fs[i]? = some f → ∃ b off, A = some ⟨b, off, none⟩ ∧ w.cell? ⟨b, off + i * 2, none⟩ = some (.slice f.A f.ws.length f.cap) ∧
    w.cell? ⟨b, off + i * 2 + 1, none⟩ = some (.int .i64 f.sh) ∧ Rd w f.A (u64s f.ws)

theorem RdF.ext {w w' : World} {A : Option Addr} {fs : List Fl} (h : RdF w A fs) (hb : Ext w w') : RdF w' A fs := by
  intro i f hf
  obtain ⟨b, off, hA, h0, h1, hR⟩ := h i f hf
  exact ⟨b, off, hA, hb.cell h0, hb.cell h1, hb.rd hR⟩

theorem RdF.tail {w : World} {A : Option Addr} {f : Fl} {fs : List Fl} {cap : Nat} (h : RdF w A (f :: fs)) (hc : (f :: fs).length ≤ cap) :
    RdF w (if cap = 1 then A else A.map (·.add 2)) fs := by
  intro i g hg
  have hi : i < fs.length := (List.getElem?_eq_some_iff.1 hg).1
  obtain ⟨b, off, rfl, h0, h1, hR⟩ := h (i + 1) g (by simpa using hg)
  refine ⟨b, off + 2, ?_, ?_, ?_, hR⟩
  · rw [if_neg (by simp at hc; omega)]
    simp [Addr.add]
  · rw [show off + 2 + i * 2 = off + (i + 1) * 2 by omega]; exact h0
  · rw [show off + 2 + i * 2 + 1 = off + (i + 1) * 2 + 1 by omega]; exact h1

/-- a slice of filters comes in -/
def InFilters (w : World) (v : Value) (fs : List Fl) : Prop :=
  ∃ A cap, v = .slice A fs.length cap ∧ RdF w A fs ∧ (∀ f ∈ fs, f.Fit) ∧ fs.length ≤ cap ∧ fs.length * 32 ≤ 140737488351232

theorem weights_nth {H : Type} {P : Program} {e : TypeId} : ∀ (ds : List (DataW H)) (d : DataW H), d ∈ ds → ∀ n ∈ d.weights P e, n ∈ DataW.weightsAll P e ds
  | [], d, h, _, _ => by cases h
  | d0 :: ds, d, h, n, hn => by
    simp only [DataW.weightsAll, List.mem_append]
    rcases List.mem_cons.1 h with rfl | h
    · exact .inl hn
    · exact .inr (weights_nth ds d h n hn)

theorem build_list {α : Type} {Q : Nat → α → Prop} : ∀ (n : Nat), (∀ i, i < n → ∃ a, Q i a) → ∃ l : List α, l.length = n ∧ ∀ i a, l[i]? = some a → Q i a
  | 0, _ => ⟨[], rfl, fun i a h => by simp at h⟩
  | n + 1, h => by
    obtain ⟨l, hl, hq⟩ := build_list n (fun i hi => h i (by omega))
    obtain ⟨a, ha⟩ := h n (by omega)
    refine ⟨l ++ [a], by simp [hl], fun i b hb => ?_⟩
    by_cases hi : i < n
    · rw [List.getElem?_append_left (by omega)] at hb
      exact hq i b hb
    · have hin : i < (l ++ [a]).length := (List.getElem?_eq_some_iff.1 hb).1
      have : i = n := by simp [hl] at hin; omega
      subst this
      rw [List.getElem?_append_right (by omega), hl] at hb
      simp at hb
      subst hb
      exact ha

theorem open_InFilters {H : Type} {enc : TypeId × Value → H} {w : World} {base : Nat} {spare : Nat → Bool} {held : Bool} {r : Reach} {b0 : Nat} {v : Value} {d : DataW H} {ps : List MemPlace}
    (hval : Value.okWide Try.prog w r b0 46 v) (hd : DataW.Trod enc Try.prog w base spare held 46 v d ps) (hz : Light Try.prog 46 d) : ∃ fs, InFilters w v fs := by
  obtain ⟨a0, len0, cap0, rfl⟩ := okWide_slice Try.underlying46 hval
  obtain ⟨fuel, hf⟩ := hd
  have hC : Try.prog.cellsOf 26 = 2 := by kernel_rfl
  have hB : Try.prog.bytesOf 26 = 32 := by kernel_rfl
  rcases Go.Deep.open_slice Try.underlying46 hf with ⟨hcs, _⟩ | ⟨a, len, cap, m, n, D, Pl, hcs, _, hl, hm, hmm, hx, hi⟩
  · simp [Value.cells] at hcs
    obtain ⟨rfl, rfl, rfl⟩ := hcs
    exact ⟨[], none, 0, rfl, (fun i f h => by simp at h), (fun f h => by cases h), Nat.le_refl _, by simp⟩
  · simp [Value.cells] at hcs
    obtain ⟨rfl, rfl, rfl⟩ := hcs
    simp only [Prod.mk.injEq] at hx
    obtain ⟨rfl, _⟩ := hx
    have hmlen : len0 ≤ m := by rw [hmm]; split <;> omega
    have hw : len0 * 32 ≤ 140737488351232 := by
      have := hz ((((List.range len0).map D).length + ((List.range (m - len0)).map fun j => D (len0 + j)).length) * Try.prog.bytesOf 26) (by simp only [DataW.weights, Try.underlying46, List.mem_cons, true_or])
      rw [hB] at this
      simp at this
      omega
    obtain ⟨fs, hlen, hq⟩ := build_list (α := Fl) (Q := fun i f => ∃ b off, a = ⟨b, off, none⟩ ∧ w.cell? ⟨b, off + i * 2, none⟩ = some (.slice f.A f.ws.length f.cap) ∧
        w.cell? ⟨b, off + i * 2 + 1, none⟩ = some (.int .i64 f.sh) ∧ Rd w f.A (u64s f.ws) ∧ f.Fit) len0 (fun i hil => by
      obtain ⟨cs', hcc, ht⟩ := hi i (by omega)
      rw [hC] at hcc
      obtain ⟨_, hcl, hat⟩ := World.cells?_some hcc
      obtain ⟨y0, y1, n', hy, _, h0, h1⟩ := trod_struct2 Try.underlying26 ht
      obtain ⟨c0, c1, rfl⟩ : ∃ c0 c1, cs' = [c0, c1] := by
        match cs', hcl with
        | [c0, c1], _ => exact ⟨c0, c1, rfl⟩
      have h0' : DataW.trod enc Try.prog w base spare held n' 24 [c0] = some y0 := h0
      have h1' : DataW.trod enc Try.prog w base spare held n' 3 [c1] = some y1 := h1
      have hD : D i = .agg [y0.1, y1.1] := by simp only [Prod.mk.injEq] at hy; exact hy.1
      have hlight : Light Try.prog 24 y0.1 := by
        intro k hk
        refine hz k ?_
        simp only [DataW.weights, Try.underlying46, List.mem_cons, List.mem_append]
        refine .inr (.inl (weights_nth _ (D i) (List.mem_map.2 ⟨i, by simp; omega, rfl⟩) k ?_))
        rw [hD]
        simp only [DataW.weights, Try.underlying26]
        exact DataW.weights_mem_each (j := 0) rfl rfl k hk
      obtain ⟨ws, A, cap, rfl, hR, hb, hm8⟩ := cells_InU64s Try.underlying24 Try.underlying53 (by kernel_rfl) (by kernel_rfl) h0' hlight
      obtain ⟨x, hx, _, hwf⟩ := DataW.trod_int Try.underlying3 h1'
      simp only [List.cons.injEq, and_true] at hx
      subst hx
      have hb64 := bounds_i64 hwf
      have e0 := hat 0 (by omega)
      have e1 := hat 1 (by omega)
      obtain ⟨b, off, spot⟩ := a
      have hs : spot = none := by
        obtain ⟨cs2, hcc2, _⟩ := hi 0 (by omega)
        rw [hC] at hcc2
        obtain ⟨_, hcl2, hat2⟩ := World.cells?_some hcc2
        have h00 := hat2 0 (by omega)
        rw [List.getElem?_eq_getElem (by omega)] at h00
        have := World.cell?_spot h00
        simpa [Addr.add] using this
      subst hs
      rw [Addr.add_lit, Addr.add_lit] at e0 e1
      exact ⟨⟨A, cap, ws, x⟩, b, off, rfl, by simpa using e0, by simpa using e1, hR, hb, hm8, hb64.1, hb64.2⟩)
    refine ⟨fs, some a, cap0, by rw [hlen], fun i f hf => ?_, fun f hf => ?_, by omega, by rw [hlen]; exact hw⟩
    · obtain ⟨b, off, rfl, h0, h1, hR, _⟩ := hq i f hf
      exact ⟨b, off, rfl, h0, h1, hR⟩
    · obtain ⟨i, hi, rfl⟩ := List.getElem_of_mem hf
      exact (hq i _ (List.getElem?_eq_getElem hi)).elim fun b h => h.elim fun off h => h.2.2.2.2

end Go.Proofs.Ytmjkkmmgbndcoaa
