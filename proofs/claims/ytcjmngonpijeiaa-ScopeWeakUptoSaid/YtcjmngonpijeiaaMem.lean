/- Words for memory: a slice whose cells are known ('Rd'), over new blocks ('Below') and rows of the call's own ('ownsRow'). -/
import Derived.Below
import Derived.Laws.OwnMore
import Derived.Laws.Rows
import Derived.Deep.AppendLies
import Derived.Deep.Draws
import Derived.Maps.AppendAt
import Derived.RegionTactic
import Derived.OwnWalk
namespace Go.Proofs.Ytcjmngonpijeiaa
set_option maxRecDepth 100000
open Go.RowKit

theorem bcell {W w1 : World} {B : Nat} (hb : Below B W w1) : ∀ b o, b < B → w1.cell? ⟨b, o, none⟩ = W.cell? ⟨b, o, none⟩ :=
  fun b o h => hb.cell (p := ⟨b, o, none⟩) h

theorem bfroz {W w1 : World} {B : Nat} (hb : Below B W w1) : ∀ b o, b < B → w1.frozen? ⟨b, o, none⟩ = W.frozen? ⟨b, o, none⟩ :=
  fun b o h => hb.frozen (p := ⟨b, o, none⟩) h

theorem ckeep {W w1 : World} {B b o : Nat} {v : Value} (hb : Below B W w1) (h : W.cell? ⟨b, o, none⟩ = some v) (hB : b < B) : w1.cell? ⟨b, o, none⟩ = some v :=
  (bcell hb b o hB).trans h

theorem cnew (w : World) (c : Array Value) (t : TypeId) (i : Nat) {v : Value} (h : c[i]? = some v) : (w.alloc (.cells c t)).cell? ⟨w.heap.size, i, none⟩ = some v := by
  rw [World.cell?_alloc_new]; exact h

theorem cold {w : World} {o : Obj} {b i : Nat} {v : Value} (h : w.cell? ⟨b, i, none⟩ = some v) : (w.alloc o).cell? ⟨b, i, none⟩ = some v := by
  have hb : b < w.heap.size := World.block_lt_of_cell? w ⟨b, i, none⟩ h
  rw [World.cell?_alloc_lt _ _ _ hb]; exact h

/-- a block of the call's own, known whole -/
def Blk (w : World) (g : Nat) (t : TypeId) (cs : Array Value) : Prop := w.heap[g]? = some (.cells cs t (0, 0))

theorem Blk.lt {w : World} {g : Nat} {t : TypeId} {cs : Array Value} (h : Blk w g t cs) : g < w.heap.size := by
  unfold Blk at h
  exact (Array.getElem?_eq_some_iff.1 h).1
theorem Blk.cell {w : World} {g : Nat} {t : TypeId} {cs : Array Value} (h : Blk w g t cs) (i : Nat) {v : Value} (hv : cs[i]? = some v) : w.cell? ⟨g, i, none⟩ = some v :=
  (cell_of_row w g i cs t (0, 0) h).trans hv
theorem Blk.frozen {w : World} {g : Nat} {t : TypeId} {cs : Array Value} (h : Blk w g t cs) (i : Nat) : w.frozen? ⟨g, i, none⟩ = false :=
  frozen_of_row w g i cs t h
theorem Blk.new (w : World) (t : TypeId) (cs : Array Value) : Blk (w.alloc (.cells cs t)) w.heap.size t cs := heap_alloc_new w _
theorem Blk.drew {w : World} {g : Nat} {t : TypeId} {cs : Array Value} (h : Blk w g t cs) : Blk w.drew g t cs := h
theorem Blk.alloc {w : World} {g : Nat} {t : TypeId} {cs : Array Value} (h : Blk w g t cs) (o : Obj) : Blk (w.alloc o) g t cs := (Below.heap_alloc w o g h.lt).trans h
theorem Blk.set {w : World} {g : Nat} {t : TypeId} {cs : Array Value} (h : Blk w g t cs) (i : Nat) (u : Value) : Blk (w.setCell ⟨g, i, none⟩ u) g t (cs.setIfInBounds i u) :=
  heap_setCell_same w g i cs t u h
theorem Blk.far {w : World} {g : Nat} {t : TypeId} {cs : Array Value} (h : Blk w g t cs) {p : Addr} (hp : g ≠ p.block) (u : Value) : Blk (w.setCell p u) g t cs := (Below.heap_setCell w p u g hp).trans h
theorem Blk.below {w w' : World} {g B : Nat} {t : TypeId} {cs : Array Value} (h : Blk w g t cs) (hb : Below B w w') (hg : g < B) : Blk w' g t cs := (hb.block g hg).trans h
theorem Blk.grown {w w' : World} {g : Nat} {t : TypeId} {cs : Array Value} {row : Option Nat} (h : Blk w g t cs) (hb : w.grownBy w' row) (hg : some g ≠ row) : Blk w' g t cs := (hb.block g h.lt hg).trans h

/-- 64-bit numbers as cells -/
def u64s (ws : List Nat) : List Value := ws.map fun x : Nat => Value.int .u64 (x : Int)
def u32s (ws : List Nat) : List Value := ws.map fun x : Nat => Value.int .u32 (x : Int)

/-- the slice at A has (at least) the cells xs -/
def Rd (w : World) (A : Option Addr) (xs : List Value) : Prop :=
  ∀ (i : Nat) (h : i < xs.length), ∃ b off, A = some ⟨b, off, none⟩ ∧ w.cell? ⟨b, off + i, none⟩ = some xs[i]

theorem cell_lt {w : World} {b off : Nat} {v : Value} (h : w.cell? ⟨b, off, none⟩ = some v) : b < w.heap.size :=
  World.block_lt_of_cell? w ⟨b, off, none⟩ h

theorem Rd.nil (w : World) (A : Option Addr) : Rd w A [] := fun i h => absurd h (by simp)

theorem Rd.of_below {B : Nat} {w w' : World} {A : Option Addr} {xs : List Value} (h : Rd w A xs) (hb : Below B w w') (hB : ∀ b off v, w.cell? ⟨b, off, none⟩ = some v → b < B) : Rd w' A xs := by
  intro i hi
  obtain ⟨b, off, hA, hc⟩ := h i hi
  exact ⟨b, off, hA, by rw [hb.cell (p := ⟨b, off + i, none⟩) (hB _ _ _ hc)]; exact hc⟩

theorem Rd.below {w w' : World} {A : Option Addr} {xs : List Value} (h : Rd w A xs) (hb : Below w.heap.size w w') : Rd w' A xs :=
  h.of_below hb fun _ _ _ hc => cell_lt hc

theorem Rd.take {w : World} {A : Option Addr} {xs : List Value} (h : Rd w A xs) (n : Nat) : Rd w A (xs.take n) := by
  intro i hi
  have hi' : i < xs.length := by simp at hi; omega
  obtain ⟨b, off, hA, hc⟩ := h i hi'
  exact ⟨b, off, hA, by rw [hc]; simp⟩

/-- a slice below a block number: kept by whatever keeps what lies below it -/
def RdB (B : Nat) (w : World) (A : Option Addr) (xs : List Value) : Prop :=
  ∀ (i : Nat) (h : i < xs.length), ∃ b off, A = some ⟨b, off, none⟩ ∧ b < B ∧ w.cell? ⟨b, off + i, none⟩ = some xs[i]

theorem Rd.toB {w : World} {A : Option Addr} {xs : List Value} (h : Rd w A xs) : RdB w.heap.size w A xs := by
  intro i hi
  obtain ⟨b, off, hA, hc⟩ := h i hi
  exact ⟨b, off, hA, cell_lt hc, hc⟩

theorem RdB.rd {B : Nat} {w : World} {A : Option Addr} {xs : List Value} (h : RdB B w A xs) : Rd w A xs := by
  intro i hi
  obtain ⟨b, off, hA, _, hc⟩ := h i hi
  exact ⟨b, off, hA, hc⟩

theorem RdB.below {B : Nat} {w w' : World} {A : Option Addr} {xs : List Value} (h : RdB B w A xs) (hb : Below B w w') : RdB B w' A xs := by
  intro i hi
  obtain ⟨b, off, hA, hlt, hc⟩ := h i hi
  exact ⟨b, off, hA, hlt, by rw [hb.cell (p := ⟨b, off + i, none⟩) hlt]; exact hc⟩

theorem RdB.more {B B' : Nat} {w : World} {A : Option Addr} {xs : List Value} (h : RdB B w A xs) (hB : B ≤ B') : RdB B' w A xs := by
  intro i hi
  obtain ⟨b, off, hA, hlt, hc⟩ := h i hi
  exact ⟨b, off, hA, by omega, hc⟩

/-- a row of the call's own reads -/
theorem Rd.of_own {w : World} {base : Nat} {e : TypeId} {n cap : Nat} {A : Option Addr} {xs : List Value} (h : w.ownsRow base e 1 (.slice A n cap) n xs) : Rd w A xs := by
  intro i hi
  rcases h with ⟨hl, h⟩
  rcases h with ⟨hv, hn⟩ | ⟨g, cap', cur, hv, hg, hh, hnc, hm, hcs, hx⟩
  · subst hn; rw [Nat.zero_mul] at hl; omega
  · injection hv with hA
    refine ⟨g, 0, hA, ?_⟩
    have : w.cell? ⟨g, 0 + i, none⟩ = cur[0 + i]? := cell_of_row w g (0 + i) cur e (0, 0) hh
    rw [this, Nat.zero_add]
    rw [Nat.mul_one] at hl hcs
    have hl' : i < cur.size := by omega
    rw [Array.getElem?_eq_getElem hl']
    congr 1
    subst hx
    simp

theorem Rd.u64 {w : World} {A : Option Addr} {ws : List Nat} (h : Rd w A (u64s ws)) {i : Nat} (hi : i < ws.length) :
    ∃ b off, A = some ⟨b, off, none⟩ ∧ b < w.heap.size ∧ w.cell? ⟨b, off + i, none⟩ = some (.int .u64 ((ws.getD i 0 : Nat) : Int)) := by
  obtain ⟨b, off, hA, hc⟩ := h i (by simpa [u64s] using hi)
  refine ⟨b, off, hA, cell_lt hc, ?_⟩
  rw [hc, List.getD_eq_getElem?_getD, List.getElem?_eq_getElem hi]
  simp [u64s]

theorem Rd.u32 {w : World} {A : Option Addr} {ws : List Nat} (h : Rd w A (u32s ws)) {i : Nat} (hi : i < ws.length) :
    ∃ b off, A = some ⟨b, off, none⟩ ∧ b < w.heap.size ∧ w.cell? ⟨b, off + i, none⟩ = some (.int .u32 ((ws.getD i 0 : Nat) : Int)) := by
  obtain ⟨b, off, hA, hc⟩ := h i (by simpa [u32s] using hi)
  refine ⟨b, off, hA, cell_lt hc, ?_⟩
  rw [hc, List.getD_eq_getElem?_getD, List.getElem?_eq_getElem hi]
  simp [u32s]

/-- a row of the call's own is kept by what keeps all that was there -/
theorem own_below {w w' : World} {base : Nat} {e : TypeId} {size n : Nat} {v : Value} {xs : List Value} (h : w.ownsRow base e size v n xs) (hb : Below w.heap.size w w') : w'.ownsRow base e size v n xs := by
  refine ⟨h.1, ?_⟩
  rcases h.2 with hn | ⟨g, cap, cur, rfl, hg, hh, rest⟩
  · exact .inl hn
  · exact .inr ⟨g, cap, cur, rfl, hg, (hb.block g (Array.getElem?_eq_some_iff.1 hh).1).trans hh, rest⟩

theorem own_mono {w : World} {base base' : Nat} {e : TypeId} {size n : Nat} {v : Value} {xs : List Value} (h : w.ownsRow base e size v n xs) (hb : base' ≤ base) : w.ownsRow base' e size v n xs := by
  refine ⟨h.1, ?_⟩
  rcases h.2 with hn | ⟨g, cap, cur, rfl, hg, rest⟩
  · exact .inl hn
  · exact .inr ⟨g, cap, cur, rfl, by omega, rest⟩

theorem own_far {w : World} {base : Nat} {e : TypeId} {size n g cap : Nat} {xs : List Value} (h : w.ownsRow base e size (.slice (some ⟨g, 0, none⟩) n cap) n xs) {p : Addr} (hp : g ≠ p.block) (u : Value) :
    (w.setCell p u).ownsRow base e size (.slice (some ⟨g, 0, none⟩) n cap) n xs := by
  refine ⟨h.1, ?_⟩
  rcases h.2 with ⟨h', _⟩ | ⟨g2, cap2, cur, h', hg, hh, rest⟩
  · cases h'
  · have h2 := h'
    simp only [Value.slice.injEq, Option.some.injEq, Addr.mk.injEq, and_true, true_and] at h2
    obtain ⟨rfl, rfl⟩ := h2
    exact .inr ⟨g, cap, cur, h', hg, (Below.heap_setCell w p u g hp).trans hh, rest⟩

theorem own_lt {w : World} {base : Nat} {e : TypeId} {size n g cap : Nat} {xs : List Value} (h : w.ownsRow base e size (.slice (some ⟨g, 0, none⟩) n cap) n xs) : base ≤ g ∧ g < w.heap.size :=
  h.lt g rfl

/-- a row of the call's own that is not empty: where it lies -/
theorem own_at {w : World} {base : Nat} {e : TypeId} {size n : Nat} {v : Value} {xs : List Value} (h : w.ownsRow base e size v n xs) (hn : 0 < n) :
    ∃ g cap, v = .slice (some ⟨g, 0, none⟩) n cap ∧ base ≤ g ∧ g < w.heap.size ∧ n ≤ cap ∧ cap ≤ maxLen := by
  rcases h.2 with ⟨_, hn'⟩ | ⟨g, cap, cur, rfl, hg, hh, hnc, hm, _⟩
  · omega
  · exact ⟨g, cap, rfl, hg, (Array.getElem?_eq_some_iff.1 hh).1, hnc, hm⟩

/-- the rows and a block of another element type lie apart -/
theorem own_ne {w : World} {base : Nat} {e : TypeId} {size n g cap : Nat} {xs : List Value} (h : w.ownsRow base e size (.slice (some ⟨g, 0, none⟩) n cap) n xs) {g' : Nat} {t : TypeId} {cs : Array Value} (hb : Blk w g' t cs) (hne : e ≠ t) : g' ≠ g := by
  rcases h.2 with ⟨h', _⟩ | ⟨g2, cap2, cur, h', _, hh, _⟩
  · cases h'
  · simp only [Value.slice.injEq, Option.some.injEq, Addr.mk.injEq, and_true, true_and] at h'
    obtain ⟨rfl, rfl⟩ := h'
    rintro rfl
    unfold Blk at hb
    rw [hh] at hb
    injection hb with hb
    injection hb with _ ht
    exact hne ht

/-- a store into a block of another element type -/
theorem own_farB {w : World} {base : Nat} {e : TypeId} {size n : Nat} {v : Value} {xs : List Value} (h : w.ownsRow base e size v n xs) {g' : Nat} {t : TypeId} {cs : Array Value} (hb : Blk w g' t cs) (hne : e ≠ t) {i : Nat} (u : Value) :
    (w.setCell ⟨g', i, none⟩ u).ownsRow base e size v n xs := by
  rcases h.2 with ⟨rfl, rfl⟩ | ⟨g, cap, cur, rfl, rest⟩
  · exact ⟨h.1, .inl ⟨rfl, rfl⟩⟩
  · have hn := own_ne h hb hne
    exact own_far h (p := ⟨g', i, none⟩) (fun e => hn e.symm) u

/-- nothing that was there has turned -/
def Ext (w w' : World) : Prop := Below w.heap.size w w'

theorem Ext.refl (w : World) : Ext w w := Below.refl _ _
theorem Ext.trans {a b c : World} (h : Ext a b) (k : Ext b c) : Ext a c := Below.trans h (Below.mono k (Below.size h))
theorem Ext.of {a b : World} (h : Below a.heap.size a b) : Ext a b := h
theorem Ext.below {a b : World} (h : Ext a b) : Below a.heap.size a b := h
theorem Ext.size {a b : World} (h : Ext a b) : a.heap.size ≤ b.heap.size := Below.size h
theorem Ext.alloc (w : World) (o : Obj) : Ext w (w.alloc o) := (Below.refl _ _).alloc (Nat.le_refl _) _
theorem Ext.drew (w : World) : Ext w w.drew := (Below.refl _ _).drew
theorem Ext.drewN (w : World) (n : Nat) : Ext w (w.drewN n) := ⟨rfl, rfl, rfl, Nat.le_refl _, fun _ _ => rfl⟩
theorem Ext.cell {w w' : World} (h : Ext w w') {b o : Nat} {v : Value} (hc : w.cell? ⟨b, o, none⟩ = some v) : w'.cell? ⟨b, o, none⟩ = some v :=
  ckeep h.below hc (World.block_lt_of_cell? w ⟨b, o, none⟩ hc)
theorem Ext.blk {w w' : World} (h : Ext w w') {g : Nat} {t : TypeId} {cs : Array Value} (hb : Blk w g t cs) : Blk w' g t cs := Blk.below hb h.below hb.lt
theorem Ext.rd {w w' : World} (h : Ext w w') {A : Option Addr} {xs : List Value} (hr : Rd w A xs) : Rd w' A xs := hr.below h.below
theorem Ext.own {w w' : World} (h : Ext w w') {base : Nat} {e : TypeId} {size n : Nat} {v : Value} {xs : List Value} (ho : w.ownsRow base e size v n xs) : w'.ownsRow base e size v n xs := own_below ho h.below

theorem u64s_length (ws : List Nat) : (u64s ws).length = ws.length := by simp [u64s]
theorem u32s_length (ws : List Nat) : (u32s ws).length = ws.length := by simp [u32s]
theorem u64s_get (ws : List Nat) (i : Nat) (h : i < ws.length) : (u64s ws)[i]? = some (.int .u64 ((ws.getD i 0 : Nat) : Int)) := by
  rw [List.getD_eq_getElem?_getD, List.getElem?_eq_getElem h]; simp [u64s, h]
theorem u64s_set (ws : List Nat) (i x : Nat) : (u64s ws).set i (.int .u64 (x : Int)) = u64s (ws.set i x) := by simp [u64s, List.map_set]
theorem u64s_one (ws : List Nat) : ∀ u ∈ u64s ws, u.oneCell' = true := by
  intro u hu
  obtain ⟨_, _, rfl⟩ := List.mem_map.1 hu
  rfl

end Go.Proofs.Ytcjmngonpijeiaa
