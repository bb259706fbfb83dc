/- What comes out is its owner's: Owned answers true of rows that lie apart. -/
import Derived.Test.YtjgghahjcmdnmaaHold
namespace Go.Proofs.Ytjgghahjcmdnmaa
open Go.RowKit Pl
set_option linter.unusedVariables false

/-- an append of one value: what lies ahead in the row stays -/
theorem run_app_keep {P : Program} (w : World) (t ty e : TypeId) (i : TypeInfo) (z : Value) (bytes : Nat) (ht : P.underlying t = some (.slice e)) (hi : P.info? e = some i) (hz : i.zero = some z)
    (hsize : i.size = 1) (hby : i.bytes = bytes) (hzs : z.cells.size = 1)
    (v : Value) (n : Nat) (xs : List Value) (hown : w.ownsRow 0 e 1 v n xs)
    (b c : Nat) (u : Value) (hu : w.cell? ⟨b, 0, none⟩ = some u) (h1 : u.oneCell' = true)
    (h63 : n + 1 ≤ maxLen) (hbytes : (n + 1) * bytes ≤ 140737488355328) :
    ∃ v' w', (Builtin.append_ #[t, t] ty #[v, .slice (some ⟨b, 0, none⟩) 1 c]).run P w = .ok v' w' ∧ w'.ownsRow 0 e 1 v' (n + 1) (xs ++ [u]) ∧ w.grownBy w' v.ownBlock ∧ (v'.ownBlock = v.ownBlock ∨ v'.ownBlock = some w.heap.size) ∧
      (∀ k j, k < w.heap.size → (v.ownBlock ≠ some k ∨ j < n) → w'.cell? ⟨k, j, none⟩ = w.cell? ⟨k, j, none⟩) := by
  have hnews : ∀ j x, [u][j]? = some x → w.cell? ((⟨b, 0, none⟩ : Addr).add j) = some x := by
    intro j x hj
    match j, hj with
    | 0, hj =>
      simp at hj
      subst hj
      rw [Addr.add_lit]; exact hu
  have hones : ∀ x ∈ [u], x.oneCell' = true := fun x hx => by rw [List.mem_singleton.1 hx]; exact h1
  obtain ⟨v', w', hrun, h2, h3, _, h5⟩ := run_append_own_at (P := P) w 0 t ty e i z 1 bytes ht hi hz hsize hby hzs (by omega) v n xs hown ⟨b, 0, none⟩ 1 c [u] (by simp) hnews hones h63 hbytes (Nat.zero_le _)
  refine ⟨v', w', hrun, h2, h3, h5, ?_⟩
  intro k j hk hkj
  rcases hown.2 with ⟨rfl, rfl⟩ | ⟨g, cap, cur, rfl, hbg, hg, hnc, hcm, hcs, htake⟩
  · exact World.cell?_of_block (a := ⟨k, j, none⟩) (h3.block k hk (by simp [Value.ownBlock]))
  · by_cases hkg : k = g
    · subst hkg
      have hj : j < n := by
        rcases hkj with h | h
        · exact absurd rfl h
        · exact h
      have hold : w.cell? ⟨k, j, none⟩ = cur[j]? := cell_of_row w k j cur e (0, 0) hg
      rw [Nat.mul_one] at hcs htake
      by_cases hroom : n + 1 ≤ cap
      · have hr := run_append_room (P := P) w t ty e i ht hi k n cap cur hg ⟨b, 0, none⟩ 1 c [u] (by simp [hsize]) hnews hones hroom (by simp [hsize]; omega)
        rw [hr] at hrun
        injection hrun with e1 e2
        rw [← e2, cell_setRow_same w k j cur _ e (0, 0) hg, hold, hsize]
        simp only [Nat.mul_one, List.append_assoc, List.getElem?_toArray]
        rw [List.getElem?_append_left (by rw [List.length_take, Array.length_toList]; omega), List.getElem?_take, if_pos hj, Array.getElem?_toList]
      · have holds : ∀ j u, xs[j]? = some u → w.cell? ((⟨k, 0, none⟩ : Addr).add j) = some u := hown.cells (g := k) rfl
        have hr := run_append_grow (P := P) w t ty e i z ht hi hz ⟨k, 0, none⟩ n cap xs (by rw [hsize]; exact hown.1) holds ⟨b, 0, none⟩ 1 c [u] (by simp [hsize]) hnews (by omega) (by simp only [maxLen] at h63; omega) (by rw [hby]; exact growslice_fits (by omega) hbytes)
        rw [hr] at hrun
        injection hrun with e1 e2
        rw [← e2, World.cell?_alloc_lt _ _ _ hk]
        rfl
    · exact World.cell?_of_block (a := ⟨k, j, none⟩) (h3.block k hk (by simp [Value.ownBlock, hkg]))

theorem wpList_app_keep {P : Program} {w : World} {ops : Array Oper} {rest : List Oper} {o : Oper} {a : Act} {Q : Exit → Act → World → Prop} (hgd : o.guard = none) (s x : Operand) (t : TypeId)
    (ho : o.op = .call { callee := .builtin .append, args := #[s, x], argTypes := #[t, t] })
    (e : TypeId) (i : TypeInfo) (z : Value) (bytes : Nat) (ht : P.underlying t = some (.slice e)) (hi : P.info? e = some i) (hz : i.zero = some z)
    (hsize : i.size = 1) (hby : i.bytes = bytes) (hzs : z.cells.size = 1)
    (v : Value) (n : Nat) (xs : List Value) (hs : a.eval s = v) (hown : w.ownsRow 0 e 1 v n xs)
    (b c : Nat) (u : Value) (hx : a.eval x = .slice (some ⟨b, 0, none⟩) 1 c) (hu : w.cell? ⟨b, 0, none⟩ = some u) (h1 : u.oneCell' = true)
    (h63 : n + 1 ≤ maxLen) (hbytes : (n + 1) * bytes ≤ 140737488355328)
    (h : ∀ v' w', w'.ownsRow 0 e 1 v' (n + 1) (xs ++ [u]) → w.grownBy w' v.ownBlock → (v'.ownBlock = v.ownBlock ∨ v'.ownBlock = some w.heap.size) → (∀ k j, k < w.heap.size → (v.ownBlock ≠ some k ∨ j < n) → w'.cell? ⟨k, j, none⟩ = w.cell? ⟨k, j, none⟩) → wpList P ops Q rest (a.put o.dst v') w') : wpList P ops Q (o :: rest) a w := by
  refine wpList_plain hgd fun K hK => ?_
  obtain ⟨v', w', hr, h2, h3, h4, h5⟩ := run_app_keep (P := P) w t o.type e i z bytes ht hi hz hsize hby hzs v n xs hown b c u hu h1 h63 hbytes
  unfold Oper.wp execOp
  simp only [ho, resolve, invoke, builtin, Sem.run_bind, Sem.run_pure, Result.andThen_ok, List.map_toArray, List.map_cons, List.map_nil, hs, hx, hr]
  exact hK _ _ (h v' w' h2 h3 h4 h5)

/-- a slice -/
structure Sl where
  A : Option Addr
  n : Nat
  c : Nat
def Sl.val (s : Sl) : Value := .slice s.A s.n s.c
/-- a row of some call's own -/
def Sl.Own (w : World) (s : Sl) : Prop := ∃ xs, w.ownsRow 0 5 1 s.val s.n xs
def mark (i : Nat) : Value := .int .u8 (1 + (i : Int))

theorem own_sl {w : World} {base : Nat} {e : TypeId} {size n : Nat} {v : Value} {xs : List Value} (h : w.ownsRow base e size v n xs) : ∃ s : Sl, v = s.val ∧ s.n = n := by
  obtain ⟨A, c, rfl⟩ := own_slice h
  exact ⟨⟨A, n, c⟩, rfl, rfl⟩

theorem own_inBv {w : World} {base : Nat} {e : TypeId} {size n : Nat} {s : Sl} {xs : List Value} (h : w.ownsRow base e size s.val n xs) (b : Nat) : inB s.A b ↔ s.val.ownBlock = some b := by
  obtain ⟨A, m, c⟩ := s
  rcases h.2 with ⟨hv, _⟩ | ⟨g, cap, cur, hv, _⟩
  · simp only [Sl.val, Value.slice.injEq] at hv
    obtain ⟨rfl, _, _⟩ := hv
    simp [inB, Sl.val, Value.ownBlock]
  · simp only [Sl.val, Value.slice.injEq] at hv
    obtain ⟨rfl, _, _⟩ := hv
    simp [inB, Sl.val, Value.ownBlock]

/-- the rows lie apart -/
structure RowsOk (w : World) (R : Nat) (rows : List Sl) : Prop where
  own : ∀ (i : Nat) r, rows[i]? = some r → r.Own w
  len : ∀ (i : Nat) r, rows[i]? = some r → r.n ≤ 140737488355312
  apart : ∀ (i j : Nat) r s, rows[i]? = some r → rows[j]? = some s → i ≠ j → ∀ b, inB r.A b → ¬ inB s.A b
  far : ∀ (i : Nat) r, rows[i]? = some r → ¬ inB r.A R
  rr : Rd w (some ⟨R, 0, none⟩) (rows.map Sl.val)
  few : rows.length ≤ 200

/-- the blocks of the rows -/
def InRows (rows : List Sl) (b : Nat) : Prop := ∃ (i : Nat) (r : Sl), rows[i]? = some r ∧ inB r.A b

/-- how far the owner has got -/
structure OwnSt (w0 w : World) (R : Nat) (rows : List Sl) (k : Nat) (lv : Value) (xs : List Sl) : Prop where
  len : xs.length = 2 * k
  own : w.ownsRow 0 29 1 lv (2 * k) (xs.map Sl.val)
  mks : ∀ (j : Nat) s, xs[j]? = some s → s.n ≤ 140737488355328 ∧ Rd w s.A (List.replicate s.n (mark (j / 2))) ∧ ∀ b, inB s.A b → b < w.heap.size ∧ lv.ownBlock ≠ some b ∧ ∀ (i : Nat) r, rows[i]? = some r → k ≤ i → ¬ inB r.A b
  rest : ∀ (i : Nat) r, rows[i]? = some r → k ≤ i → r.Own w
  lvw : ∀ b, lv.ownBlock = some b → w0.heap.size ≤ b
  chg : Chg (InRows rows) w0 w

theorem RowsOk.lt {w : World} {R : Nat} {rows : List Sl} (h : RowsOk w R rows) {b : Nat} (hb : InRows rows b) : b < w.heap.size := by
  obtain ⟨i, r, hr, hb⟩ := hb
  obtain ⟨xs, ho⟩ := h.own i r hr
  exact (ho.lt b ((own_inBv ho b).1 hb)).2

theorem OwnSt.start {w : World} {R : Nat} {rows : List Sl} (h : RowsOk w R rows) : OwnSt w w R rows 0 (.slice none 0 0) [] :=
  ⟨rfl, World.ownsRow_nil _ _ _ _, fun j s hs => by simp at hs, fun i r hr _ => h.own i r hr, fun b hb => by simp [Value.ownBlock] at hb, Chg.refl _ _⟩

theorem OwnSt.rr {w0 w : World} {R : Nat} {rows : List Sl} {k : Nat} {lv : Value} {xs : List Sl} (h : OwnSt w0 w R rows k lv xs) (h0 : RowsOk w0 R rows) : Rd w (some ⟨R, 0, none⟩) (rows.map Sl.val) :=
  h.chg.rd h0.rr (fun b o e hb => by
    simp only [Option.some.injEq, Addr.mk.injEq] at e
    obtain ⟨rfl, _⟩ := e
    obtain ⟨i, r, hr, hb⟩ := hb
    exact h0.far i r hr hb)

/-- a row is written over, grown and laid down: what holds behind it -/
theorem OwnSt.next {w0 w w1 w2 : World} {R : Nat} {rows : List Sl} {k : Nat} {lv lv' : Value} {xs : List Sl} (h : OwnSt w0 w R rows k lv xs) (h0 : RowsOk w0 R rows) {r s : Sl} (hr : rows[k]? = some r)
    (hc : Chg (inB r.A) w w1) (hs : s.n = r.n + 9) (rs : Rd w1 s.A (List.replicate s.n (mark k))) (rr : Rd w1 r.A (List.replicate r.n (mark k))) (sf : ∀ b, inB s.A b → b < w1.heap.size ∧ (inB r.A b ∨ w.heap.size ≤ b))
    (ho : w2.ownsRow 0 29 1 lv' (2 * k + 2) (xs.map Sl.val ++ [s.val, r.val])) (hg : w1.grownBy w2 lv.ownBlock) (ha : lv'.ownBlock = lv.ownBlock ∨ ∃ q, lv'.ownBlock = some q ∧ w1.heap.size ≤ q) :
    OwnSt w0 w2 R rows (k + 1) lv' (xs ++ [s, r]) := by
  have hin : ∀ b, inB r.A b → InRows rows b := fun b hb => ⟨k, r, hr, hb⟩
  have lvr : ∀ b, inB r.A b → lv.ownBlock ≠ some b := fun b hb e => by
    have := h0.lt (hin b hb)
    have := h.lvw b e
    omega
  have rlt : ∀ b, inB r.A b → b < w1.heap.size := fun b hb => by
    have := h0.lt (hin b hb)
    have := h.chg.size
    have := hc.size
    omega
  have c2 : Chg (fun b => lv.ownBlock = some b) w1 w2 := (Chg.grown hg).mono (fun b e => e.symm)
  have lv2 : ∀ b, b < w1.heap.size → lv.ownBlock ≠ some b → lv'.ownBlock ≠ some b := fun b hb hl e => by
    rcases ha with ha | ⟨q, ha, hq⟩
    · exact hl (ha ▸ e)
    · rw [ha] at e
      injection e with e
      omega
  have lvs : ∀ b, lv.ownBlock = some b → b < w.heap.size := fun b e => (h.own.lt b e).2
  refine ⟨by simp [h.len]; omega, by simpa [Nat.mul_add] using ho, ?_, ?_, ?_, ?_⟩
  · intro j x hx
    by_cases hj : j < xs.length
    · rw [List.getElem?_append_left hj] at hx
      obtain ⟨a1, a2, a3⟩ := h.mks j x hx
      refine ⟨a1, c2.rd (hc.rd a2 (fun b o e hb => (a3 b ⟨o, e⟩).2.2 k r hr (Nat.le_refl _) hb)) (fun b o e hb => (a3 b ⟨o, e⟩).2.1 hb), fun b hb => ?_⟩
      obtain ⟨b1, b2, b3⟩ := a3 b hb
      have := hc.size
      have := c2.size
      exact ⟨by omega, lv2 b (by omega) b2, fun i y hy hi => b3 i y hy (by omega)⟩
    · rw [List.getElem?_append_right (by omega), h.len] at hx
      have hjl := (List.getElem?_eq_some_iff.1 hx).1
      simp only [List.length_cons, List.length_nil] at hjl
      rw [h.len] at hj
      have hjk : j / 2 = k := by omega
      rw [hjk]
      have hc2s := c2.size
      have hcs := hc.size
      rcases (show j - 2 * k = 0 ∨ j - 2 * k = 1 by omega) with e | e
      · rw [e] at hx
        simp at hx
        subst hx
        have := h0.len k r hr
        have sl : ∀ b, inB s.A b → lv.ownBlock ≠ some b := fun b hb e => by
          rcases (sf b hb).2 with h1 | h1
          · exact lvr b h1 e
          · have := lvs b e; omega
        refine ⟨by omega, c2.rd rs (fun b o e hb => sl b ⟨o, e⟩ hb), fun b hb => ⟨by have := (sf b hb).1; omega, lv2 b (sf b hb).1 (sl b hb), fun i y hy hi hb2 => ?_⟩⟩
        rcases (sf b hb).2 with h1 | h1
        · exact h0.apart k i r y hr hy (by omega) b h1 hb2
        · have := h0.lt ⟨i, y, hy, hb2⟩
          have := h.chg.size
          omega
      · rw [e] at hx
        simp at hx
        subst hx
        have := h0.len k r hr
        exact ⟨by omega, c2.rd rr (fun b o e hb => lvr b ⟨o, e⟩ hb), fun b hb => ⟨by have := rlt b hb; omega, lv2 b (rlt b hb) (lvr b hb), fun i y hy hi hb2 => h0.apart k i r y hr hy (by omega) b hb hb2⟩⟩
  · intro i y hy hi
    obtain ⟨ys, hoy⟩ := h.rest i y hy (by omega)
    refine ⟨ys, c2.own (hc.own hoy (fun b hb hr2 => ?_)) (fun b hb e => ?_)⟩
    · exact h0.apart k i r y hr hy (by omega) b hr2 ((own_inBv hoy b).2 hb)
    · have := h0.lt ⟨i, y, hy, (own_inBv hoy b).2 hb⟩
      have := h.lvw b e
      omega
  · intro b e
    rcases ha with ha | ⟨q, ha, hq⟩
    · exact h.lvw b (ha ▸ e)
    · rw [ha] at e
      injection e with e
      have := h.chg.size
      have := hc.size
      omega
  · refine (h.chg.trans hc (fun b hb => .inl (hin b hb))).trans c2 (fun b e => .inr (h.lvw b e))

end Go.Proofs.Ytjgghahjcmdnmaa
