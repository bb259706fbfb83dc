/- table.hashes: the places of those that are seen, and their names' hashes. -/
import Derived.Test.YtcjmngonpijeiaaMk1
import Derived.Test.YtcjmngonpijeiaaChg
namespace Go.Proofs.Ytcjmngonpijeiaa
set_option maxRecDepth 100000
open Go.RowKit Pl
set_option linter.unusedVariables false

theorem info_int : (Try.prog.info? 3).map (fun i => (i.zero, i.size, i.bytes)) = some (some (.int .i64 0), 1, 8) := by kernel_rfl
theorem info_u32 : (Try.prog.info? 66).map (fun i => (i.zero, i.size, i.bytes)) = some (some (.int .u32 0), 1, 4) := by kernel_rfl

/-- two rows of the call's own: places and hashes -/
structure St2 (w0 w : World) (v : Value) (n : Nat) (xs : List Value) (u : Value) (m : Nat) (ys : List Value) : Prop where
  i : w.ownsRow w0.heap.size 3 1 v n xs
  h : w.ownsRow w0.heap.size 66 1 u m ys
  x : Ext w0 w

theorem St2.ex {w0 w w' : World} {v u : Value} {n m : Nat} {xs ys : List Value} (s : St2 w0 w v n xs u m ys) (hx : Ext w w') : St2 w0 w' v n xs u m ys := ⟨hx.own s.i, hx.own s.h, s.x.trans hx⟩
theorem St2.appI {w0 w w' : World} {v u v' : Value} {n m n' : Nat} {xs ys xs' : List Value} (s : St2 w0 w v n xs u m ys) (o1 : w'.ownsRow w0.heap.size 3 1 v' n' xs') (o2 : w.grownBy w' v.ownBlock) : St2 w0 w' v' n' xs' u m ys :=
  ⟨o1, s.h.kept o2 (own_ne_ty s.h s.i (by decide)), (Chg.grown o2).ext s.x (fun k hk => (s.i.lt k hk.symm).1)⟩
theorem St2.appH {w0 w w' : World} {v u u' : Value} {n m m' : Nat} {xs ys ys' : List Value} (s : St2 w0 w v n xs u m ys) (o1 : w'.ownsRow w0.heap.size 66 1 u' m' ys') (o2 : w.grownBy w' u.ownBlock) : St2 w0 w' v n xs u' m' ys' :=
  ⟨s.i.kept o2 (own_ne_ty s.i s.h (by decide)), o1, (Chg.grown o2).ext s.x (fun k hk => (s.h.lt k hk.symm).1)⟩

theorem Blk.rd {w : World} {g : Nat} {e : TypeId} {xs : List Value} (h : Blk w g e xs.toArray) : Rd w (some ⟨g, 0, none⟩) xs := by
  intro i hi
  exact ⟨g, 0, rfl, by rw [Nat.zero_add]; exact h.cell i (by simp [hi])⟩

/-- two rows, and a symbol's block -/
structure St3 (w0 w : World) (v : Value) (n : Nat) (xs : List Value) (u : Value) (m : Nat) (ys : List Value) (b : Nat) (cs : Array Value) : Prop where
  s : St2 w0 w v n xs u m ys
  b : Blk w b 25 cs

theorem own_neS {w : World} {base n : Nat} {e : TypeId} {v : Value} {xs : List Value} {b : Nat} {cs : Array Value} (h : w.ownsRow base e 1 v n xs) (k : Blk w b 25 cs) (hne : e ≠ 25) : some b ≠ v.ownBlock := by
  rcases h.2 with ⟨rfl, _⟩ | ⟨g, cap, cur, rfl, _⟩
  · simp [Value.ownBlock]
  · have := own_ne h k hne
    simpa [Value.ownBlock] using this
theorem St3.ex {w0 w w' : World} {v u : Value} {n m b : Nat} {xs ys : List Value} {cs : Array Value} (s : St3 w0 w v n xs u m ys b cs) (hx : Ext w w') : St3 w0 w' v n xs u m ys b cs := ⟨s.s.ex hx, hx.blk s.b⟩
theorem St3.appI {w0 w w' : World} {v u v' : Value} {n m n' b : Nat} {xs ys xs' : List Value} {cs : Array Value} (s : St3 w0 w v n xs u m ys b cs) (o1 : w'.ownsRow w0.heap.size 3 1 v' n' xs') (o2 : w.grownBy w' v.ownBlock) : St3 w0 w' v' n' xs' u m ys b cs :=
  ⟨s.s.appI o1 o2, s.b.grown o2 (own_neS s.s.i s.b (by decide))⟩
theorem St3.appH {w0 w w' : World} {v u u' : Value} {n m m' b : Nat} {xs ys ys' : List Value} {cs : Array Value} (s : St3 w0 w v n xs u m ys b cs) (o1 : w'.ownsRow w0.heap.size 66 1 u' m' ys') (o2 : w.grownBy w' u.ownBlock) : St3 w0 w' v n xs u' m' ys' b cs :=
  ⟨s.s.appH o1 o2, s.b.grown o2 (own_neS s.s.h s.b (by decide))⟩

/-- what hashes answers -/
def Hs (w : World) (l : List Sym) (r : Ending) (w' : World) : Prop :=
  ∃ A c B d, r = .returned (.tuple #[.slice A (seenI l).length c, .slice B (seenI l).length d]) ∧ St2 w w' (.slice A (seenI l).length c) (seenI l).length (ints (natI (seenI l))) (.slice B (seenI l).length d) (seenI l).length (u32s (hashL l (seenI l)))

end Go.Proofs.Ytcjmngonpijeiaa
