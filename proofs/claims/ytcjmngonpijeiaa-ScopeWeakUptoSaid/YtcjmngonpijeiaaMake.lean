/- table.Make: the table of any symbols. -/
import Derived.Test.YtcjmngonpijeiaaBuck
import Derived.Test.YtcjmngonpijeiaaSieve5
namespace Go.Proofs.Ytcjmngonpijeiaa
set_option maxRecDepth 100000
open Go.RowKit Pl
set_option linter.unusedVariables false

/-- the buckets of some places -/
def bksI (l : List Sym) (many : Nat) (is : List Nat) : List (List Int) := (List.range many).map fun b => natI (bkI l many is b)

theorem bksI_nil (l : List Sym) (many : Nat) : bksI l many [] = List.replicate many [] := by
  unfold bksI
  apply List.ext_getElem (by simp)
  intro i h1 h2
  simp [bkI, natI]
theorem bksI_len (l : List Sym) (many : Nat) (is : List Nat) : (bksI l many is).length = many := by simp [bksI]
theorem bksI_get (l : List Sym) (many : Nat) (is : List Nat) {j : Nat} (h : j < many) : (bksI l many is)[j]? = some (natI (bkI l many is j)) := by
  unfold bksI
  rw [List.getElem?_map, List.getElem?_range h]
  rfl
theorem bksI_snoc (l : List Sym) (many : Nat) (is : List Nat) (i : Nat) (hm : 0 < many) : bksI l many (is ++ [i]) = (bksI l many is).set (hashN (l.getD i sym0).name % many) (natI (bkI l many is (hashN (l.getD i sym0).name % many)) ++ [(i : Int)]) := by
  have hj : hashN (l.getD i sym0).name % many < many := Nat.mod_lt _ hm
  apply List.ext_getElem?
  intro b
  by_cases hb : b < many
  · rw [bksI_get _ _ _ hb, bkI_append]
    by_cases he : hashN (l.getD i sym0).name % many = b
    · rw [he, List.getElem?_set_self (by rw [bksI_len]; exact hb)]
      simp only [bkI, List.filter_cons, he, decide_true, if_true, List.filter_nil, natI_append]
      rfl
    · rw [List.getElem?_set_ne he, bksI_get _ _ _ hb]
      have e0 : bkI l many [i] b = [] := by simp only [bkI, List.filter_cons, decide_eq_false he]; rfl
      rw [e0, List.append_nil]
  · rw [List.getElem?_eq_none (by rw [bksI_len]; omega), List.getElem?_eq_none (by rw [List.length_set, bksI_len]; omega)]

/-- the words of the filter -/
def wordsI (l : List Sym) (is : List Nat) : List Nat := putAll 6 (List.replicate (wideN is.length) 0) (hashL l is)

/-- a table of the call's own -/
structure OwnT (w0 w : World) (t : Tb) : Prop where
  b : ∃ g, t.BA = some ⟨g, 0, none⟩ ∧ BSt w0 w g t.bc t.bs
  f : w.ownsRow w0.heap.size 82 1 (.slice t.WA t.ws.length t.wc) t.ws.length (u64s t.ws)
  x : Ext w0 w

/-- what Make answers: the table, or the error -/
def Mk (w : World) (l : List Sym) (r : Ending) (w' : World) : Prop :=
  (512 < l.length ∧ r = .returned (.tuple #[.agg #[.slice none 0 0, .slice none 0 0, .int .i64 0], .int .i64 2]) ∧ Ext w w') ∨
  (l.length ≤ 512 ∧ ∃ t : Tb, r = .returned (.tuple #[.agg t.vals.toArray, .int .i64 0]) ∧ OwnT w w' t ∧ t.bs.map Bk.is = bksI l (cntN (seenI l).length) (seenI l) ∧ t.ws = wordsI l (seenI l) ∧ t.sh = 6)

/-- the table's block and the buckets, in whatever order they were made -/
theorem made_fam (wm : World) (mcs : Array Value) (many : Nat) (W : Option Addr) (wid fc : Nat) (hm : mcs = madeCells #[Value.slice none 0 0] many) (hl : many ≤ 1000) :
    (BSt wm ((wm.alloc (.cells mcs 30)).alloc (.cells #[.slice (some ⟨wm.heap.size, 0, none⟩) many many, .slice W wid fc, .int .i64 6] 55)).drew wm.heap.size many (List.replicate many bk0) ∧
      Blk ((wm.alloc (.cells mcs 30)).alloc (.cells #[.slice (some ⟨wm.heap.size, 0, none⟩) many many, .slice W wid fc, .int .i64 6] 55)).drew (wm.heap.size + 1) 55 #[.slice (some ⟨wm.heap.size, 0, none⟩) many many, .slice W wid fc, .int .i64 6]) ∧
    (BSt wm ((wm.alloc (.cells #[.slice (some ⟨wm.heap.size + 1, 0, none⟩) many many, .slice W wid fc, .int .i64 6] 55)).alloc (.cells mcs 30)).drew (wm.heap.size + 1) many (List.replicate many bk0) ∧
      Blk ((wm.alloc (.cells #[.slice (some ⟨wm.heap.size + 1, 0, none⟩) many many, .slice W wid fc, .int .i64 6] 55)).alloc (.cells mcs 30)).drew wm.heap.size 55 #[.slice (some ⟨wm.heap.size + 1, 0, none⟩) many many, .slice W wid fc, .int .i64 6]) := by
  have ht : mcs.toList = List.replicate many (.slice none 0 0) := by rw [hm, toList_madeCells_one]
  have hs : mcs.size = many * 1 := by rw [← Array.length_toList, ht]; simp
  refine ⟨⟨?_, ?_⟩, ⟨?_, ?_⟩⟩
  · have h1 : (wm.alloc (.cells mcs 30)).ownsRow wm.heap.size 30 1 (.slice (some ⟨wm.heap.size, 0, none⟩) many many) many (List.replicate many (.slice none 0 0)) := by
      rw [← ht]; exact World.ownsRow_lit wm mcs many (Nat.le_refl _) (by unfold maxLen; omega) hs
    exact BSt.made (((Ext.alloc _ _).trans (Ext.drew _)).own h1) (((Ext.alloc _ _).trans (Ext.alloc _ _)).trans (Ext.drew _))
  · have := (Blk.new (wm.alloc (.cells mcs 30)) 55 #[.slice (some ⟨wm.heap.size, 0, none⟩) many many, .slice W wid fc, .int .i64 6]).drew
    simpa using this
  · have h1 : ((wm.alloc (.cells #[.slice (some ⟨wm.heap.size + 1, 0, none⟩) many many, .slice W wid fc, .int .i64 6] 55)).alloc (.cells mcs 30)).ownsRow wm.heap.size 30 1 (.slice (some ⟨wm.heap.size + 1, 0, none⟩) many many) many (List.replicate many (.slice none 0 0)) := by
      rw [← ht]
      have := World.ownsRow_lit (base := wm.heap.size) (e := 30) (size := 1) (wm.alloc (.cells #[.slice (some ⟨wm.heap.size + 1, 0, none⟩) many many, .slice W wid fc, .int .i64 6] 55)) mcs many (by simp) (by unfold maxLen; omega) hs
      simpa using this
    exact BSt.made ((Ext.drew _).own h1) (((Ext.alloc _ _).trans (Ext.alloc _ _)).trans (Ext.drew _))
  · exact ((Blk.new _ _ _).alloc _).drew

theorem info_ints : (Try.prog.info? 30).map (fun i => (i.zero, i.size, i.bytes)) = some (some (.slice none 0 0), 1, 24) := by kernel_rfl

theorem own_natI {w : World} {b0 : Nat} {A : Option Addr} {c n : Nat} {is : List Nat} (h : w.ownsRow b0 3 1 (.slice A n c) n (ints (natI is))) (hn : n = is.length) {k : Nat} (hk : k < is.length) :
    ∃ b off, A = some ⟨b, off, none⟩ ∧ w.cell? ⟨b, off + k, none⟩ = some (.int .i64 ((is.getD k 0 : Nat) : Int)) := by
  obtain ⟨b, off, hA, hc⟩ := (Rd.of_own h) k (by simp [ints, natI]; exact hk)
  refine ⟨b, off, hA, ?_⟩
  rw [hc, List.getD_eq_getElem?_getD, List.getElem?_eq_getElem hk]
  simp [ints, natI]

end Go.Proofs.Ytcjmngonpijeiaa
