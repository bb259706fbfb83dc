/- Buckets of the call's own: rows that lie apart, and a row of them. -/
import Derived.Test.YtcjmngonpijeiaaMk2
namespace Go.Proofs.Ytcjmngonpijeiaa
set_option maxRecDepth 100000
open Go.RowKit Pl
set_option linter.unusedVariables false

/-- buckets of the call's own -/
structure BSt (w0 w : World) (g c : Nat) (bs : List Bk) : Prop where
  row : w.ownsRow w0.heap.size 30 1 (.slice (some ⟨g, 0, none⟩) bs.length c) bs.length (bs.map Bk.cell)
  each : ∀ (j : Nat) k, bs[j]? = some k → w.ownsRow w0.heap.size 3 1 k.cell k.is.length (ints k.is)
  apart : ∀ (i j : Nat) a b, bs[i]? = some a → bs[j]? = some b → i ≠ j → a.cell.ownBlock = none ∨ a.cell.ownBlock ≠ b.cell.ownBlock
  x : Ext w0 w

theorem BSt.ex {w0 w w' : World} {g c : Nat} {bs : List Bk} (h : BSt w0 w g c bs) (hx : Ext w w') : BSt w0 w' g c bs :=
  ⟨hx.own h.row, fun j k hk => hx.own (h.each j k hk), h.apart, h.x.trans hx⟩

theorem BSt.up {w0 w1 w : World} {g c : Nat} {bs : List Bk} (h : BSt w1 w g c bs) (hx : Ext w0 w1) : BSt w0 w g c bs :=
  ⟨own_mono h.row hx.size, fun j k hk => own_mono (h.each j k hk) hx.size, h.apart, hx.trans h.x⟩

/-- a number appended to a bucket, and the bucket's slice stored -/
theorem BSt.put {w0 w w1 : World} {g c j : Nat} {bs : List Bk} (h : BSt w0 w g c bs) {k : Bk} (hk : bs[j]? = some k) {k' : Bk} {x : Int} (hi : k'.is = k.is ++ [x])
    (o1 : w1.ownsRow w0.heap.size 3 1 k'.cell (k.is.length + 1) (ints k.is ++ [.int .i64 x])) (o2 : w.grownBy w1 k.cell.ownBlock) (o3 : k'.cell.ownBlock = k.cell.ownBlock ∨ k'.cell.ownBlock = some w.heap.size) :
    w1.cell? ⟨g, j, none⟩ = some k.cell ∧ w1.frozen? ⟨g, j, none⟩ = false ∧ BSt w0 (w1.setCell ⟨g, j, none⟩ k'.cell) g c (bs.set j k') := by
  have hj : j < bs.length := (List.getElem?_eq_some_iff.1 hk).1
  have hkj : bs[j] = k := (List.getElem?_eq_some_iff.1 hk).2
  have hek := h.each j k hk
  have hrow1 := h.row.kept o2 (own_ne_ty h.row hek (by decide))
  have hx1 : Ext w0 w1 := (Chg.grown o2).ext h.x (fun b hb => (hek.lt b hb.symm).1)
  have hgl := h.row.lt g rfl
  have oi : w1.ownsRow w0.heap.size 3 1 k'.cell k'.is.length (ints k'.is) := by
    rw [hi, List.length_append, ints_append]
    exact o1
  refine ⟨?_, hrow1.frozenAt j, ?_, ?_, ?_, ?_⟩
  · rw [hrow1.cellAt j (by omega), List.getElem?_map, hk]; rfl
  · have := (hrow1.stored j k'.cell).1
    rw [List.length_set, List.map_set]
    exact this
  · intro i a ha
    by_cases hij : i = j
    · subst hij
      rw [List.getElem?_set_self hj] at ha
      simp only [Option.some.injEq] at ha
      subst ha
      refine ownsRow_setCell_other oi (fun e => ?_) _
      rcases own_ne_ty oi hrow1 (by decide) with h1 | h1
      · rw [h1] at e; cases e
      · exact h1 e
    · rw [List.getElem?_set_ne (Ne.symm hij)] at ha
      have hea := h.each i a ha
      have h1 := hea.kept o2 (h.apart i j a k ha hk hij)
      refine ownsRow_setCell_other h1 (fun e => ?_) _
      rcases own_ne_ty h1 hrow1 (by decide) with h2 | h2
      · rw [h2] at e; cases e
      · exact h2 e
  · intro i m a b ha hb him
    have fresh : ∀ (q : Nat) (d : Bk), bs[q]? = some d → d.cell.ownBlock ≠ some w.heap.size := fun q d hd e => by
      have := ((h.each q d hd).lt _ e).2
      omega
    by_cases hij : i = j
    · subst hij
      rw [List.getElem?_set_self hj] at ha
      simp only [Option.some.injEq] at ha
      subst ha
      rw [List.getElem?_set_ne him] at hb
      rcases o3 with e | e
      · rw [e]; exact h.apart i m k b hk hb him
      · right; rw [e]; exact fun e2 => fresh m b hb e2.symm
    · rw [List.getElem?_set_ne (Ne.symm hij)] at ha
      by_cases hmj : m = j
      · subst hmj
        rw [List.getElem?_set_self hj] at hb
        simp only [Option.some.injEq] at hb
        subst hb
        rcases o3 with e | e
        · rw [e]; exact h.apart i m a k ha hk him
        · right; rw [e]; exact fresh i a ha
      · rw [List.getElem?_set_ne (Ne.symm hmj)] at hb
        exact h.apart i m a b ha hb him
  · exact Ext.of (hx1.below.setCell hgl.1 _)

theorem replicate_get {α : Type} {n : Nat} {a b : α} {i : Nat} (h : (List.replicate n a)[i]? = some b) : b = a := by
  rw [List.getElem?_replicate] at h
  split at h
  · simpa using h.symm
  · cases h

/-- buckets just made: all empty -/
theorem BSt.made {w0 w : World} {g n : Nat} (h : w.ownsRow w0.heap.size 30 1 (.slice (some ⟨g, 0, none⟩) n n) n (List.replicate n (.slice none 0 0))) (hx : Ext w0 w) : BSt w0 w g n (List.replicate n bk0) := by
  refine ⟨?_, fun j k hk => ?_, fun i j a b ha hb hij => ?_, hx⟩
  · rw [List.length_replicate, List.map_replicate]; exact h
  · rw [replicate_get hk]; exact World.ownsRow_nil _ _ _ _
  · rw [replicate_get ha]; exact .inl rfl

theorem own_neT {w : World} {base n : Nat} {e : TypeId} {v : Value} {xs : List Value} {b : Nat} {cs : Array Value} (h : w.ownsRow base e 1 v n xs) (k : Blk w b 55 cs) (hne : e ≠ 55) : some b ≠ v.ownBlock := by
  rcases h.2 with ⟨rfl, _⟩ | ⟨g, cap, cur, rfl, _⟩
  · simp [Value.ownBlock]
  · have := own_ne h k hne
    simpa [Value.ownBlock] using this

/-- the same, in a region: with the table's own block -/
theorem BSt.putE {w0 w wc w1 : World} {g c j tb : Nat} {bs : List Bk} {cs : Array Value} {k k' : Bk} {x : Int} (hE : Ext w wc) (h : BSt w0 w g c bs) (hb : Blk w tb 55 cs) (hk : bs[j]? = some k) (hi : k'.is = k.is ++ [x])
    (o1 : w1.ownsRow w0.heap.size 3 1 k'.cell (k.is.length + 1) (ints k.is ++ [.int .i64 x])) (o2 : wc.grownBy w1 k.cell.ownBlock) (o3 : k'.cell.ownBlock = k.cell.ownBlock ∨ k'.cell.ownBlock = some wc.heap.size) :
    w1.cell? ⟨g, j, none⟩ = some k.cell ∧ w1.frozen? ⟨g, j, none⟩ = false ∧ (∀ (m : Nat) (v : Value), cs[m]? = some v → w1.cell? ⟨tb, m, none⟩ = some v) ∧
      Hid (BSt w0 (w1.setCell ⟨g, j, none⟩ k'.cell) g c (bs.set j k') ∧ Blk (w1.setCell ⟨g, j, none⟩ k'.cell) tb 55 cs) := by
  have h2 := h.ex hE
  have hb1 : Blk w1 tb 55 cs := (hE.blk hb).grown o2 (own_neT (h2.each j k hk) (hE.blk hb) (by decide))
  obtain ⟨a1, a2, a3⟩ := h2.put hk hi o1 o2 o3
  refine ⟨a1, a2, fun m v hv => hb1.cell m hv, Lib.hid ⟨a3, ?_⟩⟩
  refine hb1.far (p := ⟨g, j, none⟩) ?_ _
  intro e
  have hrow := h2.row.kept o2 (own_ne_ty h2.row (h2.each j k hk) (by decide))
  have := own_neT hrow hb1 (by decide)
  exact this (by simp [Value.ownBlock]; exact e)

/-- a store into the table's own block -/
theorem BSt.setFar {w0 w : World} {g c rb i : Nat} {bs : List Bk} {cs : Array Value} (h : BSt w0 w g c bs) (hb : Blk w rb 55 cs) (hr : w0.heap.size ≤ rb) (u : Value) : BSt w0 (w.setCell ⟨rb, i, none⟩ u) g c bs :=
  ⟨own_farB h.row hb (by decide) u, fun j k hk => own_farB (h.each j k hk) hb (by decide) u, h.apart, Ext.of (h.x.below.setCell hr u)⟩

end Go.Proofs.Ytcjmngonpijeiaa
