/- An append of elements of many cells; images as flat cells. -/
import Derived.Test.YtcjmngonpijeiaaOpI
import Derived.Test.YtcjmngonpijeiaaApp2
namespace Go.Proofs.Ytcjmngonpijeiaa
set_option maxRecDepth 100000
open Go.RowKit
set_option linter.unusedVariables false

/-- of cells that read one by one -/
theorem run_app_rdN {P : Program} (w : World) (base : Nat) (t ty e : TypeId) (i : TypeInfo) (z : Value) (size bytes : Nat) (ht : P.underlying t = some (.slice e)) (hi : P.info? e = some i) (hz : i.zero = some z)
    (hsize : i.size = size) (hby : i.bytes = bytes) (hzs : z.cells.size = size) (hsz : 0 < size)
    (v : Value) (n : Nat) (xs : List Value) (hown : w.ownsRow base e size v n xs)
    (A : Option Addr) (c : Nat) (news : List Value) (m : Nat) (hm : news.length = m * size) (hr : Rd w A news) (h1 : ∀ u ∈ news, u.oneCell' = true)
    (h63 : n + m ≤ maxLen) (hbytes : (n + m) * bytes ≤ 140737488355328) (hbase : base ≤ w.heap.size) :
    ∃ v' w', (Builtin.append_ #[t, t] ty #[v, .slice A m c]).run P w = .ok v' w' ∧ w'.ownsRow base e size v' (n + m) (xs ++ news) ∧ w.grownBy w' v.ownBlock ∧ (v'.ownBlock = v.ownBlock ∨ v'.ownBlock = some w.heap.size) := by
  by_cases h0 : news = []
  · subst h0
    have hm0 : m = 0 := by
      rcases Nat.eq_zero_or_pos m with h | h
      · exact h
      · have := Nat.mul_pos h hsz; simp at hm; omega
    subst hm0
    cases A with
    | none => exact ⟨v, w, run_app_nil2 w base t ty e i size ht hi v n xs hown c, by simpa using hown, World.grownBy.refl w _, .inl rfl⟩
    | some ad =>
      obtain ⟨v', w', hrun, h2, h3, _, h5⟩ := run_append_own_at (P := P) w base t ty e i z size bytes ht hi hz hsize hby hzs hsz v n xs hown ad 0 c [] (by simp) (fun j u hu => by simp at hu) h1 h63 hbytes hbase
      exact ⟨v', w', hrun, h2, h3, h5⟩
  · have hpos : 0 < news.length := List.length_pos_iff.2 h0
    obtain ⟨b, off, rfl, _⟩ := hr 0 hpos
    obtain ⟨v', w', hrun, h2, h3, _, h5⟩ := run_append_own_at (P := P) w base t ty e i z size bytes ht hi hz hsize hby hzs hsz v n xs hown ⟨b, off, none⟩ m c news hm (fun j u hu => by
      obtain ⟨hj, rfl⟩ := List.getElem?_eq_some_iff.1 hu
      obtain ⟨b', off', he, hc⟩ := hr j hj
      simp only [Option.some.injEq, Addr.mk.injEq, and_true] at he
      obtain ⟨rfl, rfl⟩ := he
      rw [Addr.add_lit]; exact hc) h1 h63 hbytes hbase
    exact ⟨v', w', hrun, h2, h3, h5⟩

theorem wp_app_rdN {P : Program} {w : World} {o : Oper} {a : Act} {K : Act → World → Prop} {Q : Exit → Act → World → Prop} (s x : Operand) (t : TypeId)
    (ho : o.op = .call { callee := .builtin .append, args := #[s, x], argTypes := #[t, t] })
    (base : Nat) (e : TypeId) (i : TypeInfo) (z : Value) (size bytes : Nat) (ht : P.underlying t = some (.slice e)) (hi : P.info? e = some i) (hz : i.zero = some z)
    (hsize : i.size = size) (hby : i.bytes = bytes) (hzs : z.cells.size = size) (hsz : 0 < size)
    (v : Value) (n : Nat) (xs : List Value) (hs : a.eval s = v) (hown : w.ownsRow base e size v n xs)
    (A : Option Addr) (c : Nat) (news : List Value) (m : Nat) (hx : a.eval x = .slice A m c) (hm : news.length = m * size) (hr : Rd w A news) (h1 : ∀ u ∈ news, u.oneCell' = true)
    (h63 : n + m ≤ maxLen) (hbytes : (n + m) * bytes ≤ 140737488355328) (hbase : base ≤ w.heap.size)
    (h : ∀ v' w', w'.ownsRow base e size v' (n + m) (xs ++ news) → w.grownBy w' v.ownBlock → (v'.ownBlock = v.ownBlock ∨ v'.ownBlock = some w.heap.size) → K (a.put o.dst v') w') : o.wp P a w K Q := by
  obtain ⟨v', w', hrun, h2, h3, h5⟩ := run_app_rdN (P := P) w base t o.type e i z size bytes ht hi hz hsize hby hzs hsz v n xs hown A c news m hm hr h1 h63 hbytes hbase
  unfold Oper.wp execOp
  simp only [ho, resolve, invoke, builtin, Sem.run_bind, Sem.run_pure, Result.andThen_ok, List.map_toArray, List.map_cons, List.map_nil, hs, hx, hrun]
  exact h v' w' h2 h3 h5

theorem wpList_app_rdN {P : Program} {w : World} {ops : Array Oper} {rest : List Oper} {o : Oper} {a : Act} {Q : Exit → Act → World → Prop} (hgd : o.guard = none) (s x : Operand) (t : TypeId)
    (ho : o.op = .call { callee := .builtin .append, args := #[s, x], argTypes := #[t, t] })
    (base : Nat) (e : TypeId) (i : TypeInfo) (z : Value) (size bytes : Nat) (ht : P.underlying t = some (.slice e)) (hi : P.info? e = some i) (hz : i.zero = some z)
    (hsize : i.size = size) (hby : i.bytes = bytes) (hzs : z.cells.size = size) (hsz : 0 < size)
    (v : Value) (n : Nat) (xs : List Value) (hs : a.eval s = v) (hown : w.ownsRow base e size v n xs)
    (A : Option Addr) (c : Nat) (news : List Value) (m : Nat) (hx : a.eval x = .slice A m c) (hm : news.length = m * size) (hr : Rd w A news) (h1 : ∀ u ∈ news, u.oneCell' = true)
    (h63 : n + m ≤ maxLen) (hbytes : (n + m) * bytes ≤ 140737488355328) (hbase : base ≤ w.heap.size)
    (h : ∀ v' w', w'.ownsRow base e size v' (n + m) (xs ++ news) → w.grownBy w' v.ownBlock → (v'.ownBlock = v.ownBlock ∨ v'.ownBlock = some w.heap.size) → wpList P ops Q rest (a.put o.dst v') w') : wpList P ops Q (o :: rest) a w :=
  wpList_plain hgd fun _ hK => wp_app_rdN s x t ho base e i z size bytes ht hi hz hsize hby hzs hsz v n xs hs hown A c news m hx hm hr h1 h63 hbytes hbase fun v' w' h2 h3 h5 => hK _ _ (h v' w' h2 h3 h5)


/-- images' cells, in a row -/
def flat (ims : List Im) : List Value := ims.flatMap Im.vals
theorem vals_len (m : Im) : m.vals.length = 15 := rfl
theorem flat_len (ims : List Im) : (flat ims).length = ims.length * 15 := by
  induction ims with
  | nil => rfl
  | cons m r ih => simp only [flat, List.flatMap_cons, List.length_append, vals_len, List.length_cons] at ih ⊢; omega
theorem flat_append (a b : List Im) : flat (a ++ b) = flat a ++ flat b := by simp [flat]
theorem flat_one (m : Im) : flat [m] = m.vals := by simp [flat]
theorem flat_oneCell (ims : List Im) : ∀ u ∈ flat ims, u.oneCell' = true := by
  intro u hu
  obtain ⟨m, _, hm⟩ := List.mem_flatMap.1 hu
  simp only [Im.vals, List.mem_cons, List.not_mem_nil, or_false] at hm
  rcases hm with rfl | rfl | rfl | rfl | rfl | rfl | rfl | rfl | rfl | rfl | rfl | rfl | rfl | rfl | rfl <;> rfl
theorem flat_get : ∀ (ims : List Im) (i j : Nat) (hi : i < ims.length), j < 15 → (flat ims)[i * 15 + j]? = (ims[i].vals)[j]?
  | [], i, j, hi, _ => by simp at hi
  | m :: r, 0, j, hi, hj => by
    simp only [flat, List.flatMap_cons, List.getElem_cons_zero]
    rw [List.getElem?_append_left (by rw [vals_len]; omega), Nat.zero_mul, Nat.zero_add]
  | m :: r, i + 1, j, hi, hj => by
    have ih := flat_get r i j (by simpa using hi) hj
    simp only [flat, List.flatMap_cons, List.getElem_cons_succ] at ih ⊢
    rw [List.getElem?_append_right (by rw [vals_len]; omega), vals_len, show (i + 1) * 15 + j - 15 = i * 15 + j by omega]
    exact ih
theorem RdI.flat {w : World} {A : Option Addr} {ims : List Im} (h : RdI w A ims) : Rd w A (flat ims) := by
  intro x hx
  rw [flat_len] at hx
  have hi : x / 15 < ims.length := by omega
  have hj : x % 15 < 15 := Nat.mod_lt _ (by omega)
  have he : x / 15 * 15 + x % 15 = x := by omega
  obtain ⟨b, off, cs, hA, hl, rfl, hc⟩ := h (x / 15) _ (List.getElem?_eq_getElem hi)
  refine ⟨b, off, hA, ?_⟩
  have h1 := hc (x % 15) hj
  rw [← flat_get ims _ _ hi hj, he, Nat.add_assoc, he] at h1
  rw [h1, List.getElem?_eq_getElem (by rw [flat_len]; exact hx)]
theorem Rd.imgs {w : World} {A : Option Addr} {ims : List Im} (h : Rd w A (flat ims)) : RdI w A ims := by
  intro i m hm
  obtain ⟨hi, rfl⟩ := List.getElem?_eq_some_iff.1 hm
  obtain ⟨b, off, hA, _⟩ := h (i * 15) (by rw [flat_len]; omega)
  refine ⟨b, off, _, hA, vals_len _, rfl, fun j hj => ?_⟩
  have hlt : i * 15 + j < (Go.Proofs.Ytcjmngonpijeiaa.flat ims).length := by rw [flat_len]; omega
  obtain ⟨b', off', hA', hc⟩ := h (i * 15 + j) hlt
  rw [hA] at hA'
  simp only [Option.some.injEq, Addr.mk.injEq, and_true] at hA'
  obtain ⟨rfl, rfl⟩ := hA'
  rw [Nat.add_assoc, hc, ← flat_get ims i j hi hj, List.getElem?_eq_getElem hlt]
theorem Rd.of_ownN {w : World} {base size : Nat} {e : TypeId} {n cap : Nat} {A : Option Addr} {xs : List Value} (h : w.ownsRow base e size (.slice A n cap) n xs) : Rd w A xs := by
  intro i hi
  rcases h with ⟨hl, h⟩
  rcases h with ⟨hv, hn⟩ | ⟨g, cap', cur, hv, hg, hh, hnc, hm, hcs, hx⟩
  · subst hn; rw [Nat.zero_mul] at hl; omega
  · injection hv with hA
    refine ⟨g, 0, hA, ?_⟩
    have : w.cell? ⟨g, 0 + i, none⟩ = cur[0 + i]? := cell_of_row w g (0 + i) cur e (0, 0) hh
    rw [this, Nat.zero_add]
    have hle : n * size ≤ cap' * size := Nat.mul_le_mul_right _ hnc
    have hl' : i < cur.size := by omega
    rw [Array.getElem?_eq_getElem hl']
    congr 1
    subst hx
    simp

end Go.Proofs.Ytcjmngonpijeiaa
