/- A region that draws its order, whose operations may make memory and call: one condition on what is done holds behind each of them, in whatever order; at the end the last ones come in a row. -/
import Derived.Test.YtcjmngonpijeiaaMem
import Derived.StillTail
namespace Go.Proofs.Ytcjmngonpijeiaa
set_option maxRecDepth 100000
open Go Go.RowKit
set_option linter.unusedVariables false

/-- each operation waits for earlier ones alone -/
def backB (ops : Array Oper) : Bool := (List.range ops.size).all fun i => ((ops[i]?).map fun o => o.after.all fun e => decide (e.on < i)).getD true

theorem backB_spec {ops : Array Oper} (h : backB ops = true) {i : Nat} {o : Oper} (ho : ops[i]? = some o) : ∀ e ∈ o.after, e.on < i := by
  have hi : i < ops.size := (Array.getElem?_eq_some_iff.1 ho).1
  have h1 := List.all_eq_true.1 h i (List.mem_range.2 hi)
  rw [ho] at h1
  simp only [Option.map_some, Option.getD_some] at h1
  intro e he
  have := Array.all_eq_true'.1 h1 e he
  simpa using this

theorem count_set (p : Nat → Bool) (i : Nat) : ∀ n, i < n → p i = true → (List.range n).countP p = (List.range n).countP (fun j => p j && decide (j ≠ i)) + 1
  | 0, h, _ => by omega
  | n + 1, h, hp => by
    rw [List.range_succ, List.countP_append, List.countP_append]
    by_cases e : i = n
    · subst e
      have : (List.range i).countP (fun j => p j && decide (j ≠ i)) = (List.range i).countP p := List.countP_congr (fun j hj => by
        have : j ≠ i := by have := List.mem_range.1 hj; omega
        simp [this])
      rw [this]
      simp [hp]
    · rw [count_set p i n (by omega) hp]
      have : n ≠ i := fun e2 => e e2.symm
      simp [this]
      omega

theorem first_false (p : Nat → Bool) : ∀ n, (∀ i, i < n → p i = true) ∨ ∃ i, i < n ∧ p i = false ∧ ∀ j, j < i → p j = true
  | 0 => .inl (fun i h => by omega)
  | n + 1 => by
    rcases first_false p n with h | ⟨i, h1, h2, h3⟩
    · cases hp : p n with
      | true => exact .inl (fun i hi => by
          rcases Nat.lt_or_ge i n with h4 | h4
          · exact h i h4
          · have : i = n := by omega
            rw [this]; exact hp)
      | false => exact .inr ⟨n, by omega, hp, h⟩
    · exact .inr ⟨i, by omega, h2, h3⟩

def stabB (ops : Array Oper) (n : Nat) : Bool :=
  decide (n < ops.size) && Region.sinkB .any ops n && Region.chainB .any ops n && backB ops && Region.seqB .any ops (ops.size - n) n (Array.replicate n true ++ Array.replicate (ops.size - n) false)

section
variable {P : Program} {ops : Array Oper} {Q : Exit → Act → World → Prop} {n : Nat} {I : (Nat → Bool) → Act → World → Prop}

theorem wpAny_stab (hn : n < ops.size) (hs : Region.sinkB .any ops n = true) (hc : Region.chainB .any ops n = true) (hb : backB ops = true) {g : Nat}
    (hstep : ∀ (i : Nat) (done : Nat → Bool) (a : Act) (u : World), i < n → I done a u → done i = false → (∀ o, ops[i]? = some o → ∀ e ∈ o.after, Region.binds .any e = true → done e.on = true) →
      wpOp P ops Q i (fun a' u' => I (fun j => if j = i then true else done j) a' u') a u)
    (hend : ∀ (listed : Array Bool) (a : Act) (u : World), HeadInv .any ops n listed → (∀ i, i < n → listed.getD i false = true) → I (fun i => listed.getD i false) a u → wpAny P .any ops Q g listed a u) :
    ∀ (f : Nat) (listed : Array Bool) (a : Act) (u : World), HeadInv .any ops n listed → (List.range n).countP (fun i => !listed.getD i false) = f → I (fun i => listed.getD i false) a u →
      wpAny P .any ops Q (f + g) listed a u
  | 0, listed, a, u, inv, hcnt, hI => by
    rw [Nat.zero_add]
    refine hend listed a u inv (fun i hi => ?_) hI
    have := (List.countP_eq_zero.1 hcnt) i (List.mem_range.2 hi)
    simpa using this
  | f + 1, listed, a, u, inv, hcnt, hI => by
    obtain ⟨i0, hi0, hf0, hall0⟩ : ∃ i, i < n ∧ listed.getD i false = false ∧ ∀ j, j < i → listed.getD j false = true := by
      rcases first_false (fun i => listed.getD i false) n with h | h
      · have : (List.range n).countP (fun i => !listed.getD i false) = 0 := List.countP_eq_zero.2 (fun i hi => by
          have := h i (List.mem_range.1 hi)
          simp [this])
        omega
      · exact h
    have hin : ∀ {i : Nat}, i < n → i < listed.size := fun hi => by rw [inv.size]; omega
    have hu0 := getD_in (hin hi0) hf0
    have hrdy : i0 ∈ Region.ready .any ops listed := by
      obtain ⟨o, ho⟩ : ∃ o, ops[i0]? = some o := ⟨_, Array.getElem?_eq_getElem (by omega)⟩
      exact mem_ready.2 ⟨hu0, o, ho, fun e he _ => hall0 _ (backB_spec hb ho e he)⟩
    rw [show f + 1 + g = (f + g) + 1 by omega]
    refine ⟨fun h => (by rw [h] at hrdy; cases hrdy), fun i hi => ?_⟩
    have hin2 : i < n := by
      rcases Nat.lt_or_ge i n with h | h
      · exact h
      · exact absurd hi (tail_waits hs hc hn inv _ i0 rfl hi0 hu0 i h)
    obtain ⟨hun, o, ho, hdep⟩ := mem_ready.1 hi
    have hun2 := getD_both hun
    have hst := hstep i (fun j => listed.getD j false) a u hin2 hI hun2 (fun o' ho' e he hb2 => by
      rw [ho] at ho'
      cases ho'
      exact hdep e he hb2)
    refine wpOp_mono (fun a' u' hI' => ?_) hst
    have hset : (fun j => (listed.setIfInBounds i true).getD j false) = (fun j => if j = i then true else listed.getD j false) := by
      funext j
      by_cases e : j = i
      · subst e
        rw [if_pos rfl]
        simp [hin hin2]
      · rw [if_neg e, getD_set_ne false (fun e2 => e e2.symm)]
    refine wpAny_stab hn hs hc hb hstep hend f _ a' u' (inv.set hi hin2) ?_ (by rw [hset]; exact hI')
    have hc2 := count_set (fun j => !listed.getD j false) i n hin2 (by simp [hun2])
    rw [hcnt] at hc2
    have hc3 : (List.range n).countP (fun j => !(listed.setIfInBounds i true).getD j false) = (List.range n).countP (fun j => (!listed.getD j false) && decide (j ≠ i)) := by
      refine congrArg (fun p => (List.range n).countP p) ?_
      funext j
      have := congrFun hset j
      rw [this]
      by_cases e : j = i <;> simp [e]
    omega

end

theorem wp_region_stab {P : Program} {id : Nat} {Q : Exit → Act → World → Prop} {a : Act} {w : World} {l : List Oper} (n : Nat) (I : (Nat → Bool) → Act → World → Prop)
    (hm : P.follows .mixedOrders = true) (hB : stabB l.toArray n = true)
    (h0 : I (fun _ => false) a { w with drawn := w.drawn + 1 })
    (hstep : ∀ (i : Nat) (done : Nat → Bool) (a : Act) (u : World), i < n → I done a u → done i = false → (∀ o, l.toArray[i]? = some o → ∀ e ∈ o.after, Region.binds .any e = true → done e.on = true) →
      wpOp P l.toArray Q i (fun a' u' => I (fun j => if j = i then true else done j) a' u') a u)
    (hend : ∀ (done : Nat → Bool) (a : Act) (u : World), I done a u → (∀ i, i < n → done i = true) → wpList P l.toArray Q (l.drop n) a u) :
    (Code.region id l.toArray true).wp P Q a w := by
  simp only [stabB, Bool.and_eq_true, decide_eq_true_eq] at hB
  obtain ⟨⟨⟨⟨hn, hs⟩, hc⟩, hb⟩, hseq⟩ := hB
  have inv0 : HeadInv .any l.toArray n (Array.replicate l.toArray.size false) :=
    ⟨by simp, fun j oj _ hl => (by rw [getD_replicate_false] at hl; cases hl), fun t _ ht => getD_in (by simpa using ht) (getD_replicate_false _ _)⟩
  refine wp_region_any hm ?_
  have hz : (fun i => (Array.replicate l.toArray.size false).getD i false) = (fun _ => false) := by
    funext i; exact getD_replicate_false _ _
  have H := wpAny_stab (P := P) (Q := Q) (I := I) (g := l.toArray.size - n) hn hs hc hb hstep (fun listed a' u inv hall hI => by
    have hdl : (l.drop n).length = l.toArray.size - n := by simp
    have heq : listed = Array.replicate n true ++ Array.replicate (l.toArray.size - n) false := by
      apply Array.ext
      · rw [inv.size]; simp at hn ⊢; omega
      · intro i h1 h2
        by_cases hi : i < n
        · have := hall i hi
          rw [Array.getD, dif_pos h1] at this
          simp only [Array.getElem_append, Array.size_replicate, hi, dif_pos, Array.getElem_replicate]
          simpa using this
        · have := inv.tail i (by omega) (by rw [← inv.size]; exact h1)
          rw [Array.getD, dif_pos h1] at this
          simp only [Array.getElem_append, Array.size_replicate, hi, dif_neg, not_false_eq_true, Array.getElem_replicate]
          simpa using this
    have := wpAny_of_seq (md := .any) (Q' := Q) (P := P) (l.drop n) n listed a' u (fun j => by simp [List.getElem?_drop]) (by rw [hdl, heq]; exact hseq) (hend _ a' u hI hall)
    rwa [hdl] at this) n _ a _ inv0 (by
      have : (fun i => !(Array.replicate l.toArray.size false).getD i false) = (fun _ => true) := by
        funext i; rw [getD_replicate_false]; rfl
      rw [this]; simp) (by rw [hz]; exact h0)
  rw [show n + (l.toArray.size - n) = l.toArray.size by omega] at H
  exact H

end Go.Proofs.Ytcjmngonpijeiaa
