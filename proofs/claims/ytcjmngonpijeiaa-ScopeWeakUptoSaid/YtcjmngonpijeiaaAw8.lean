/- clevislaw08.awake: the document's examples. -/
import Derived.Test.YtcjmngonpijeiaaRight
import Derived.Test.YtcjmngonpijeiaaMake
import Derived.Test.YtcjmngonpijeiaaFind
namespace Go.Proofs.Ytcjmngonpijeiaa
set_option maxRecDepth 100000
open Go.RowKit Pl
set_option linter.unusedVariables false

/-- a definition with a name -/
def symD (s : ByteArray) : Sym := ⟨s, ⟨#[]⟩, false, 1, false, 0, true, 0, 0⟩
def symR (s : ByteArray) : Sym := ⟨s, ⟨#[]⟩, false, 0, false, 0, false, 0, 0⟩
def exL : List Sym := [symD ⟨#[102]⟩, symD ⟨#[103]⟩]

theorem OwnT.inn {w0 w : World} {t : Tb} {l : List Sym} {n : Nat} (h : OwnT w0 w t) (h1 : t.bs.map Bk.is = bksI l n (seenI l)) (h2 : t.ws = wordsI l (seenI l)) (h3 : t.sh = 6) (hl : l.length ≤ 512) (hn : n ≤ 600) : t.In w := by
  obtain ⟨g, hg, hb⟩ := h.b
  have hbl : t.bs.length = n := by have := congrArg List.length h1; simpa [bksI_len] using this
  have hsn := seenK_len l l.length
  have hmem : ∀ k ∈ t.bs, ∃ b, k.is = natI (bkI l n (seenI l) b) := fun k hk => by
    have hm : k.is ∈ bksI l n (seenI l) := by rw [← h1]; exact List.mem_map_of_mem hk
    unfold bksI at hm
    obtain ⟨b, _, hb⟩ := List.mem_map.1 hm
    exact ⟨b, hb.symm⟩
  refine ⟨?_, ?_, by omega, Rd.of_own h.f, ?_, ?_, by rw [h3]; unfold i64B; omega⟩
  · rw [hg]; exact Rd.of_own hb.row
  · intro k hk
    obtain ⟨j, hj, hjk⟩ := List.getElem_of_mem hk
    obtain ⟨b, hb2⟩ := hmem k hk
    refine ⟨Rd.of_own (hb.each j k (by rw [List.getElem?_eq_getElem hj, hjk])), ?_, ?_⟩
    · intro i hi
      rw [hb2] at hi
      obtain ⟨m, hm, rfl⟩ := List.mem_map.1 hi
      have := seenK_lt l l.length m (List.mem_filter.1 hm).1
      unfold i64B
      omega
    · rw [hb2, natI_len]
      have := bkI_len l n (seenI l) b
      have : (seenI l).length ≤ 512 := Nat.le_trans hsn hl
      omega
  · rw [h2]
    refine putAll_lt 6 _ _ (fun x hx => ?_)
    rw [List.eq_of_mem_replicate hx]
    omega
  · rw [h2]
    unfold wordsI
    rw [putAll_length, List.length_replicate]
    have := wideN_words (seenI l).length
    omega

theorem ex_seen : seenI exL = [0, 1] := by decide
theorem ex_bks : bksI exL (cntN (seenI exL).length) (seenI exL) = [[0, 1]] := by decide
theorem ex_facts (t : Tb) (h1 : t.bs.map Bk.is = bksI exL (cntN (seenI exL).length) (seenI exL)) (h2 : t.ws = wordsI exL (seenI exL)) (h3 : t.sh = 6) :
    t.bs.length = 1 ∧ findP t (symR ⟨#[103]⟩) exL = (1, 2) ∧ rightT t exL = true := by
  rw [ex_bks] at h1
  obtain ⟨BA, bc, bs, WA, wc, ws, sh⟩ := t
  simp only at h1 h2 h3
  subst h2 h3
  match bs, h1 with
  | [⟨A, c, is⟩], h1 =>
    simp only [List.map_cons, List.map_nil, List.cons.injEq, and_true] at h1
    subst h1
    exact ⟨rfl, by kernel_rfl, by kernel_rfl⟩
theorem ex_fit : ∀ s ∈ exL, s.Fit := by
  intro s hs
  simp only [exL, List.mem_cons, List.not_mem_nil, or_false] at hs
  rcases hs with rfl | rfl <;> exact ⟨by decide, by decide, by unfold i64B symD; decide, by unfold i64B symD; decide, by unfold i64B symD; decide, by unfold i64B symD; decide⟩
theorem exR_fit : (symR ⟨#[103]⟩).Fit := ⟨by decide, by decide, by unfold i64B symR; decide, by unfold i64B symR; decide, by unfold i64B symR; decide, by unfold i64B symR; decide⟩

theorem ex_rdy {w : World} {g : Nat} {t : TypeId} (h : Blk w g t #[.string ⟨#[102]⟩, .string ⟨#[]⟩, .bool false, .int .i64 1, .bool false, .int .i64 0, .bool true, .int .i64 0, .int .i64 0, .string ⟨#[103]⟩, .string ⟨#[]⟩, .bool false, .int .i64 1, .bool false, .int .i64 0, .bool true, .int .i64 0, .int .i64 0]) : RdY w (some ⟨g, 0, none⟩) exL := by
  intro i a ha
  have hi := (List.getElem?_eq_some_iff.1 ha).1
  have : i = 0 ∨ i = 1 := by simp [exL] at hi; omega
  refine ⟨g, 0, a.vals, rfl, rfl, rfl, fun j hj => ?_⟩
  have hj9 : j = 0 ∨ j = 1 ∨ j = 2 ∨ j = 3 ∨ j = 4 ∨ j = 5 ∨ j = 6 ∨ j = 7 ∨ j = 8 := by omega
  rcases this with rfl | rfl
  · simp only [exL, List.getElem?_cons_zero, Option.some.injEq] at ha
    subst ha
    rcases hj9 with rfl | rfl | rfl | rfl | rfl | rfl | rfl | rfl | rfl <;> exact h.cell _ rfl
  · simp only [exL, List.getElem?_cons_zero, List.getElem?_cons_succ, Option.some.injEq] at ha
    subst ha
    rcases hj9 with rfl | rfl | rfl | rfl | rfl | rfl | rfl | rfl | rfl <;> exact h.cell _ rfl

end Go.Proofs.Ytcjmngonpijeiaa
