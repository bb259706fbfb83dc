/- How symbols and tables open: each value in Go's memory reads as plain data. -/
import Derived.Test.YtcjmngonpijeiaaOpen
namespace Go.Proofs.Ytcjmngonpijeiaa
set_option maxRecDepth 100000
open Go.ChangeShapes Go.WideShapes Go.ChangeAt Go.RowKit Go.Joins
open Go.ChangeMaps (open_string shut_string)
set_option linter.unusedVariables false

theorem build_list {α : Type} {Q : Nat → α → Prop} : ∀ (n : Nat), (∀ i, i < n → ∃ a, Q i a) → ∃ l : List α, l.length = n ∧ ∀ i a, l[i]? = some a → Q i a
  | 0, _ => ⟨[], rfl, fun i a h => by simp at h⟩
  | n + 1, h => by
    obtain ⟨l, hl, hq⟩ := build_list n (fun i hi => h i (by omega))
    obtain ⟨a, ha⟩ := h n (by omega)
    refine ⟨l ++ [a], by simp [hl], fun i b hb => ?_⟩
    by_cases hi : i < n
    · rw [List.getElem?_append_left (by omega)] at hb
      exact hq i b hb
    · have hin : i < (l ++ [a]).length := (List.getElem?_eq_some_iff.1 hb).1
      have : i = n := by simp [hl] at hin; omega
      subst this
      rw [List.getElem?_append_right (by omega), hl] at hb
      simp at hb
      subst hb
      exact ha

theorem weights_nth {H : Type} {P : Program} {e : TypeId} : ∀ (ds : List (DataW H)) (d : DataW H), d ∈ ds → ∀ n ∈ d.weights P e, n ∈ DataW.weightsAll P e ds
  | [], d, h, _, _ => by cases h
  | d0 :: ds, d, h, n, hn => by
    simp only [DataW.weightsAll, List.mem_append]
    rcases List.mem_cons.1 h with rfl | h
    · exact .inl hn
    · exact .inr (weights_nth ds d h n hn)

theorem bulkAll_sum {H : Type} : ∀ l : List (DataW H), Rows.uptoBulkAll l = (l.map Rows.uptoBulk).sum
  | [] => rfl
  | d :: r => by simp only [Rows.uptoBulkAll, List.map_cons, List.sum_cons, bulkAll_sum r]

theorem sum_le_range {α : Type} (bk : α → Nat) (f : Nat → Nat) : ∀ (n : Nat) (l : List α), l.length = n → (∀ i a, l[i]? = some a → bk a ≤ f i) → (l.map bk).sum ≤ ((List.range n).map f).sum
  | 0, l, hl, h => by rw [List.length_eq_zero_iff.1 hl]; simp
  | n + 1, l, hl, h => by
    have hne : l ≠ [] := by intro e; rw [e] at hl; simp at hl
    have hd : l.dropLast.length = n := by simp [hl]
    have ih := sum_le_range bk f n l.dropLast hd (fun i a ha => h i a (by
      have hi := (List.getElem?_eq_some_iff.1 ha).1
      rw [hd] at hi
      rw [List.getElem?_dropLast, if_pos (by omega)] at ha
      exact ha))
    have hl2 := h n (l.getLast hne) (by rw [List.getLast_eq_getElem, List.getElem?_eq_getElem (by omega)]; congr 2; omega)
    rw [List.range_succ, List.map_append, List.sum_append]
    have e0 : (l.map bk).sum = ((l.dropLast ++ [l.getLast hne]).map bk).sum := by rw [List.dropLast_concat_getLast]
    rw [e0, List.map_append, List.sum_append]
    simp only [List.map_cons, List.map_nil, List.sum_cons, List.sum_nil]
    omega

theorem bulk_one {H : Type} (d : DataW H) : 1 ≤ Rows.uptoBulk d := by
  cases d with
  | lit l => cases l <;> simp [Rows.uptoBulk]
  | nil => simp [Rows.uptoBulk]
  | ptr d => simp [Rows.uptoBulk]
  | slice elems spare => simp [Rows.uptoBulk]
  | agg parts => simp [Rows.uptoBulk]
  | iface t d => simp [Rows.uptoBulk]
  | map entries => simp [Rows.uptoBulk]
  | held h => simp [Rows.uptoBulk]

/-- one slice's elements in memory, each of c cells -/
def RdC {α : Type} (w : World) (A : Option Addr) (c : Nat) (Q : α → List Value → Prop) (xs : List α) : Prop :=
  ∀ (i : Nat) (a : α), xs[i]? = some a → ∃ b off cs, A = some ⟨b, off, none⟩ ∧ cs.length = c ∧ Q a cs ∧ ∀ j, j < c → w.cell? ⟨b, off + i * c + j, none⟩ = cs[j]?

theorem RdC.ext {α : Type} {w w' : World} {A : Option Addr} {c : Nat} {Q : α → List Value → Prop} {xs : List α} (h : RdC w A c Q xs) (hx : Ext w w') : RdC w' A c Q xs := by
  intro i a ha
  obtain ⟨b, off, cs, hA, hl, hq, hc⟩ := h i a ha
  refine ⟨b, off, cs, hA, hl, hq, fun j hj => ?_⟩
  have := hc j hj
  rw [List.getElem?_eq_getElem (by omega)] at this ⊢
  exact hx.cell this

section
variable {H : Type} {enc : TypeId × Value → H} {P : Program} {w : World} {base : Nat} {spare : Nat → Bool} {held : Bool} {r : Reach} {b0 : Nat} {t e : TypeId} {v : Value} {d : DataW H} {ps : List MemPlace}

theorem cells_slice {α : Type} {Q : α → List Value → Prop} {bk : α → Nat} {fuel c by_ : Nat} {x : DataW H × List MemPlace} (ht : P.underlying t = some (.slice e)) (hC : P.cellsOf e = c) (hc : 0 < c) (hB : P.bytesOf e = by_)
    (h : DataW.trod enc P w base spare held fuel t [v] = some x) (hz : Light P t x.1)
    (elem : ∀ fuel cs y, DataW.trod enc P w base spare held fuel e cs = some y → Light P e y.1 → cs.length = c → ∃ a, Q a cs ∧ bk a ≤ Rows.uptoBulk y.1) :
    ∃ A cap xs, v = .slice A xs.length cap ∧ RdC w A c Q xs ∧ xs.length * by_ ≤ 140737488351232 ∧ (xs.map bk).sum + 1 ≤ Rows.uptoBulk x.1 ∧ xs.length ≤ cap ∧ cap ≤ maxLen := by
  rcases Go.Deep.open_slice ht h with ⟨hcs, hx⟩ | ⟨a, len, cap, m, n, D, Pl, hcs, _, hl, hm, hmm, hx, hi⟩
  · simp only [List.cons.injEq, and_true] at hcs
    subst hcs
    refine ⟨none, 0, [], rfl, fun i a h => by simp at h, by simp, ?_, by simp, by simp⟩
    rw [hx]; simp [Rows.uptoBulk]
  · simp only [List.cons.injEq, and_true] at hcs
    subst hcs
    subst hx
    have hmlen : len ≤ m := by rw [hmm]; split <;> omega
    have hw : len * by_ ≤ 140737488351232 := by
      have := hz (((List.range len).map D).length * P.bytesOf e + ((List.range (m - len)).map fun j => D (len + j)).length * P.bytesOf e) (by simp only [DataW.weights, ht, List.mem_cons]; left; rw [Nat.add_mul])
      rw [hB] at this
      simp at this
      omega
    obtain ⟨xs, hlen, hq⟩ := build_list (α := α) (Q := fun i f => bk f ≤ Rows.uptoBulk (D i) ∧ ∃ b off cs, some a = some (⟨b, off, none⟩ : Addr) ∧ cs.length = c ∧ Q f cs ∧ ∀ j, j < c → w.cell? ⟨b, off + i * c + j, none⟩ = cs[j]?) len (fun i hil => by
      obtain ⟨cs', hcc, ht'⟩ := hi i (by omega)
      rw [hC] at hcc
      obtain ⟨_, hcl, hat⟩ := World.cells?_some hcc
      obtain ⟨f, hQ, hb⟩ := elem _ _ _ ht' (fun k hk => hz k (by
        simp only [DataW.weights, ht, List.mem_cons, List.mem_append]
        exact .inr (.inl (weights_nth _ (D i) (List.mem_map.2 ⟨i, by simp; omega, rfl⟩) k hk)))) hcl
      refine ⟨f, hb, ?_⟩
      obtain ⟨b, off, spot⟩ := a
      have hs : spot = none := by
        obtain ⟨cs2, hcc2, _⟩ := hi 0 (by omega)
        rw [hC] at hcc2
        obtain ⟨_, hcl2, hat2⟩ := World.cells?_some hcc2
        have h00 := hat2 0 (by omega)
        rw [List.getElem?_eq_getElem (by omega)] at h00
        have := World.cell?_spot h00
        simpa [Addr.add] using this
      subst hs
      refine ⟨b, off, cs', rfl, hcl, hQ, fun j hj => ?_⟩
      have := hat j (by omega)
      rw [Addr.add_lit, Addr.add_lit] at this
      exact this)
    refine ⟨some a, cap, xs, by rw [hlen], fun i f hf => (hq i f hf).2, by rw [hlen]; exact hw, ?_, by omega, hm⟩
    have := sum_le_range bk (fun i => Rows.uptoBulk (D i)) len xs hlen (fun i f hf => (hq i f hf).1)
    simp only [Rows.uptoBulk, bulkAll_sum, List.map_map]
    have e1 : ((List.range len).map (Rows.uptoBulk ∘ D)).sum = ((List.range len).map fun i => Rows.uptoBulk (D i)).sum := rfl
    omega

theorem sum_ones {α : Type} : ∀ l : List α, (l.map fun _ => 1).sum = l.length
  | [] => rfl
  | _ :: r => by rw [List.map_cons, List.sum_cons, sum_ones r, List.length_cons]; omega

end

/-- numbers as cells -/
def ints (ns : List Int) : List Value := ns.map (Value.int .i64)

def InU16 (_w : World) (v : Value) (x : Nat) : Prop := v = .int .u16 (x : Int) ∧ x < 65536

/-- a symbol -/
structure Sym where
  name : ByteArray
  ver : ByteArray
  old : Bool
  kind : Int
  weak : Bool
  vis : Int
  defd : Bool
  val : Int
  size : Int
def sym0 : Sym := ⟨⟨#[]⟩, ⟨#[]⟩, false, 0, false, 0, false, 0, 0⟩

def i64B (x : Int) : Prop := -9223372036854775808 ≤ x ∧ x ≤ 9223372036854775807

def Sym.vals (s : Sym) : List Value := [.string s.name, .string s.ver, .bool s.old, .int .i64 s.kind, .bool s.weak, .int .i64 s.vis, .bool s.defd, .int .i64 s.val, .int .i64 s.size]

structure Sym.Fit (s : Sym) : Prop where
  name : s.name.size ≤ 140737488351232
  ver : s.ver.size ≤ 140737488351232
  kind : i64B s.kind
  vis : i64B s.vis
  val : i64B s.val
  size : i64B s.size

/-- a slice of symbols reads -/
def RdY (w : World) (A : Option Addr) (l : List Sym) : Prop := RdC w A 9 (fun s cs => cs = Sym.vals s) l

def InSym (_w : World) (v : Value) (s : Sym) : Prop := v = .agg s.vals.toArray ∧ s.Fit
def InSyms (w : World) (v : Value) (l : List Sym) : Prop := ∃ A cap, v = .slice A l.length cap ∧ RdY w A l ∧ (∀ s ∈ l, s.Fit) ∧ l.length ≤ 140737488351232 ∧ l.length ≤ cap ∧ cap ≤ maxLen

/-- a bucket -/
structure Bk where
  A : Option Addr
  c : Nat
  is : List Int
def bk0 : Bk := ⟨none, 0, []⟩
def Bk.cell (k : Bk) : Value := .slice k.A k.is.length k.c
structure Bk.In (w : World) (k : Bk) : Prop where
  rd : Rd w k.A (ints k.is)
  fit : ∀ i ∈ k.is, i64B i
  len : k.is.length * 8 ≤ 140737488351232

theorem Bk.In.ext {w w' : World} {k : Bk} (h : k.In w) (hx : Ext w w') : k.In w' := ⟨hx.rd h.rd, h.fit, h.len⟩

/-- a table -/
structure Tb where
  BA : Option Addr
  bc : Nat
  bs : List Bk
  WA : Option Addr
  wc : Nat
  ws : List Nat
  sh : Int
def Tb.vals (t : Tb) : List Value := [.slice t.BA t.bs.length t.bc, .slice t.WA t.ws.length t.wc, .int .i64 t.sh]
structure Tb.In (w : World) (t : Tb) : Prop where
  brd : Rd w t.BA (t.bs.map Bk.cell)
  bin : ∀ k ∈ t.bs, k.In w
  blen : t.bs.length * 24 ≤ 140737488351232
  wrd : Rd w t.WA (u64s t.ws)
  wfit : ∀ y ∈ t.ws, y < 18446744073709551616
  wlen : t.ws.length * 8 ≤ 140737488351232
  sfit : i64B t.sh

theorem Tb.In.ext {w w' : World} {t : Tb} (h : t.In w) (hx : Ext w w') : t.In w' := ⟨hx.rd h.brd, fun k hk => (h.bin k hk).ext hx, h.blen, hx.rd h.wrd, h.wfit, h.wlen, h.sfit⟩

def InTb (w : World) (v : Value) (t : Tb) : Prop := v = .agg t.vals.toArray ∧ t.In w

section
variable {H : Type} {enc : TypeId × Value → H} {w : World} {base : Nat} {spare : Nat → Bool} {held : Bool} {r : Reach} {b0 : Nat} {v : Value} {d : DataW H} {ps : List MemPlace}

theorem sym_parts {fuel : Nat} {cs : List Value} {y : DataW H × List MemPlace} (hy : DataW.trod enc Try.prog w base spare held fuel 25 cs = some y) (hz : Light Try.prog 25 y.1) :
    ∃ s : Sym, cs = s.vals ∧ s.Fit := by
  obtain ⟨xs, n, _, hx, hl, hlen, hf⟩ := DataW.trod_struct Try.underlying25 hy
  have hC : Try.prog.cellsOf 25 = 9 := by kernel_rfl
  rw [hC] at hl
  match cs, hl with
  | [c0, c1, c2, c3, c4, c5, c6, c7, c8], _ =>
  match xs, hlen with
  | [y0, y1, y2, y3, y4, y5, y6, y7, y8], _ =>
  have h0 : DataW.trod enc Try.prog w base spare held n 9 [c0] = some y0 := hf 0 _ rfl
  have h1 : DataW.trod enc Try.prog w base spare held n 9 [c1] = some y1 := hf 1 _ rfl
  have h2 : DataW.trod enc Try.prog w base spare held n 4 [c2] = some y2 := hf 2 _ rfl
  have h3 : DataW.trod enc Try.prog w base spare held n 22 [c3] = some y3 := hf 3 _ rfl
  have h4 : DataW.trod enc Try.prog w base spare held n 4 [c4] = some y4 := hf 4 _ rfl
  have h5 : DataW.trod enc Try.prog w base spare held n 23 [c5] = some y5 := hf 5 _ rfl
  have h6 : DataW.trod enc Try.prog w base spare held n 4 [c6] = some y6 := hf 6 _ rfl
  have h7 : DataW.trod enc Try.prog w base spare held n 3 [c7] = some y7 := hf 7 _ rfl
  have h8 : DataW.trod enc Try.prog w base spare held n 3 [c8] = some y8 := hf 8 _ rfl
  subst hx
  have hzj : ∀ (j : Nat) (t : TypeId) (d : DataW H), (#[9, 9, 4, 22, 4, 23, 4, 3, 3] : Array TypeId).toList[j]? = some t → [y0.1, y1.1, y2.1, y3.1, y4.1, y5.1, y6.1, y7.1, y8.1][j]? = some d → Light Try.prog t d := by
    intro j t d ht hd k hk
    refine hz k ?_
    simp only [DataW.weights, Try.underlying25]
    exact DataW.weights_mem_each (j := j) ht hd k hk
  obtain ⟨s0, e0, z0, _⟩ := DataW.trod_string Try.underlying9 h0
  obtain ⟨s1, e1, z1, _⟩ := DataW.trod_string Try.underlying9 h1
  obtain ⟨b2, e2, _⟩ := DataW.trod_bool Try.underlying4 h2
  obtain ⟨k3, e3, _, w3⟩ := DataW.trod_int Try.underlying22 h3
  obtain ⟨b4, e4, _⟩ := DataW.trod_bool Try.underlying4 h4
  obtain ⟨k5, e5, _, w5⟩ := DataW.trod_int Try.underlying23 h5
  obtain ⟨b6, e6, _⟩ := DataW.trod_bool Try.underlying4 h6
  obtain ⟨k7, e7, _, w7⟩ := DataW.trod_int Try.underlying3 h7
  obtain ⟨k8, e8, _, w8⟩ := DataW.trod_int Try.underlying3 h8
  simp only [List.cons.injEq, and_true] at e0 e1 e2 e3 e4 e5 e6 e7 e8
  subst e0 e1 e2 e3 e4 e5 e6 e7 e8
  have l0 := hzj 0 _ _ rfl rfl s0.data.toList.length (by rw [z0]; simp [DataW.weights])
  have l1 := hzj 1 _ _ rfl rfl s1.data.toList.length (by rw [z1]; simp [DataW.weights])
  have q0 : s0.data.toList.length = s0.size := by simp
  have q1 : s1.data.toList.length = s1.size := by simp
  have B3 := bounds_i64 w3
  have B5 := bounds_i64 w5
  have B7 := bounds_i64 w7
  have B8 := bounds_i64 w8
  exact ⟨⟨s0, s1, b2, k3, b4, k5, b6, k7, k8⟩, rfl, ⟨by show s0.size ≤ _; omega, by show s1.size ≤ _; omega, B3, B5, B7, B8⟩⟩

theorem open_InSym (hval : Value.okWide Try.prog w r b0 25 v) (hd : DataW.Trod enc Try.prog w base spare held 25 v d ps) (hz : Light Try.prog 25 d) : ∃ x, InSym w v x := by
  obtain ⟨cs, rfl, _⟩ := okWide_struct Try.underlying25 hval
  obtain ⟨fuel, hf⟩ := hd
  obtain ⟨p, h1, h2⟩ := sym_parts hf hz
  refine ⟨p, ?_, h2⟩
  congr 1
  rw [← h1]
  simp [Value.cells]

theorem cells_syms {fuel : Nat} {x : DataW H × List MemPlace} (h : DataW.trod enc Try.prog w base spare held fuel 49 [v] = some x) (hz : Light Try.prog 49 x.1) : ∃ l, InSyms w v l := by
  obtain ⟨A, c, xs, hv, hR, hb, _, hc, hm⟩ := cells_slice (α := Sym) (Q := fun s cs => cs = s.vals ∧ s.Fit) (bk := fun _ => 1) (by_ := 88) Try.underlying49 (show Try.prog.cellsOf 25 = 9 by kernel_rfl) (by omega) (by kernel_rfl) h hz (fun fuel cs y hy hz1 _ => by
    obtain ⟨s, h1, h2⟩ := sym_parts hy hz1
    exact ⟨s, ⟨h1, h2⟩, bulk_one _⟩)
  refine ⟨xs, A, c, hv, fun i s hs => ?_, fun s hs => ?_, by omega, hc, hm⟩
  · obtain ⟨b, off, cs, hA, hl, ⟨hq, _⟩, hc⟩ := hR i s hs
    exact ⟨b, off, cs, hA, hl, hq, hc⟩
  · obtain ⟨i, hi, rfl⟩ := List.getElem_of_mem hs
    obtain ⟨b, off, cs, hA, hl, ⟨_, hq⟩, hc⟩ := hR i _ (List.getElem?_eq_getElem hi)
    exact hq

theorem open_InSyms (hval : Value.okWide Try.prog w r b0 49 v) (hd : DataW.Trod enc Try.prog w base spare held 49 v d ps) (hz : Light Try.prog 49 d) : ∃ x, InSyms w v x := by
  obtain ⟨a, len, cap, rfl⟩ := okWide_slice Try.underlying49 hval
  obtain ⟨fuel, hf⟩ := hd
  exact cells_syms (by simpa [Value.cells] using hf) hz

theorem cells_ints {fuel : Nat} {x : DataW H × List MemPlace} (h : DataW.trod enc Try.prog w base spare held fuel 30 [v] = some x) (hz : Light Try.prog 30 x.1) :
    ∃ k : Bk, v = k.cell ∧ k.In w := by
  obtain ⟨A, cap, ns, rfl, hR, hw, _⟩ := cells_slice (α := Int) (Q := fun n cs => cs = [.int .i64 n] ∧ i64B n) (bk := fun _ => 1) (by_ := 8) Try.underlying30 (show Try.prog.cellsOf 3 = 1 by kernel_rfl) (by omega) (by kernel_rfl) h hz (fun fuel cs y hy _ _ => by
    obtain ⟨n, rfl, hx, hwf⟩ := DataW.trod_int Try.underlying3 hy
    exact ⟨n, ⟨rfl, bounds_i64 hwf⟩, bulk_one _⟩)
  refine ⟨⟨A, cap, ns⟩, rfl, fun i hi => ?_, fun n hn => ?_, hw⟩
  · have hi' : i < ns.length := by simpa [ints] using hi
    obtain ⟨b, off, cs, hA, _, ⟨rfl, _⟩, hc⟩ := hR i _ (List.getElem?_eq_getElem hi')
    refine ⟨b, off, hA, ?_⟩
    have := hc 0 (by omega)
    rw [Nat.mul_one, Nat.add_zero] at this
    rw [this]; simp [ints]
  · obtain ⟨i, hi, rfl⟩ := List.getElem_of_mem hn
    obtain ⟨b, off, cs, hA, _, ⟨_, h2⟩, hc⟩ := hR i _ (List.getElem?_eq_getElem hi)
    exact h2

theorem tb_parts {fuel : Nat} {cs : List Value} {y : DataW H × List MemPlace} (hy : DataW.trod enc Try.prog w base spare held fuel 55 cs = some y) (hz : Light Try.prog 55 y.1) :
    ∃ t : Tb, cs = t.vals ∧ t.In w ∧ t.bs.length ≤ Rows.uptoBulk y.1 := by
  obtain ⟨xs, n, _, hx, hl, hlen, hf⟩ := DataW.trod_struct Try.underlying55 hy
  have hC : Try.prog.cellsOf 55 = 3 := by kernel_rfl
  rw [hC] at hl
  match cs, hl with
  | [c0, c1, c2], _ =>
  match xs, hlen with
  | [y0, y1], _ =>
  have h0 : DataW.trod enc Try.prog w base spare held n 50 [c0] = some y0 := hf 0 _ rfl
  have h1 : DataW.trod enc Try.prog w base spare held n 53 [c1, c2] = some y1 := hf 1 _ rfl
  subst hx
  have hzj : ∀ (j : Nat) (t : TypeId) (d : DataW H), (#[50, 53] : Array TypeId).toList[j]? = some t → [y0.1, y1.1][j]? = some d → Light Try.prog t d := by
    intro j t d ht hd k hk
    refine hz k ?_
    simp only [DataW.weights, Try.underlying55]
    exact DataW.weights_mem_each (j := j) ht hd k hk
  have hz0 := hzj 0 _ _ rfl rfl
  have hz1 := hzj 1 _ _ rfl rfl
  clear hzj hz
  obtain ⟨xs2, n2, _, hx2, hl2, hlen2, hf2⟩ := DataW.trod_struct Try.underlying53 h1
  match xs2, hlen2 with
  | [z0, z1], _ =>
  have g0 : DataW.trod enc Try.prog w base spare held n2 51 [c1] = some z0 := hf2 0 _ rfl
  have g1 : DataW.trod enc Try.prog w base spare held n2 3 [c2] = some z1 := hf2 1 _ rfl
  subst hx2
  have hwz : Light Try.prog 51 z0.1 := by
    intro k hk
    refine hz1 k ?_
    simp only [DataW.weights, Try.underlying53]
    exact DataW.weights_mem_each (j := 0) rfl rfl k hk
  obtain ⟨ws, WA, wc, rfl, hWR, hWb, hWm⟩ := cells_InU64s Try.underlying51 Try.underlying82 (by kernel_rfl) (by kernel_rfl) g0 hwz
  obtain ⟨sh, es, _, wsh⟩ := DataW.trod_int Try.underlying3 g1
  simp only [List.cons.injEq, and_true] at es
  subst es
  obtain ⟨BA, bc, bs, rfl, hR, hw, hbk, _⟩ := cells_slice (α := Bk) (Q := fun k cs => cs = [k.cell] ∧ k.In w) (bk := fun _ => 1) (by_ := 24) Try.underlying50 (show Try.prog.cellsOf 30 = 1 by kernel_rfl) (by omega) (by kernel_rfl) h0 hz0 (fun fuel cs y hy hzy hcl => by
    match cs, hcl with
    | [c], _ =>
    obtain ⟨k, rfl, hk⟩ := cells_ints hy hzy
    exact ⟨k, ⟨rfl, hk⟩, bulk_one _⟩)
  rw [sum_ones] at hbk
  refine ⟨⟨BA, bc, bs, WA, wc, ws, sh⟩, rfl, ⟨fun i hi => ?_, fun k hk => ?_, hw, hWR, hWb, hWm, bounds_i64 wsh⟩, ?_⟩
  · have hi' : i < bs.length := by simpa using hi
    obtain ⟨b, off, cs, hA, _, ⟨rfl, _⟩, hc⟩ := hR i _ (List.getElem?_eq_getElem hi')
    refine ⟨b, off, hA, ?_⟩
    have := hc 0 (by omega)
    rw [Nat.mul_one, Nat.add_zero] at this
    rw [this]; simp
  · obtain ⟨i, hi, rfl⟩ := List.getElem_of_mem hk
    obtain ⟨b, off, cs, hA, _, ⟨_, h2⟩, hc⟩ := hR i _ (List.getElem?_eq_getElem hi)
    exact h2
  · simp only [List.map_cons, List.map_nil, Rows.uptoBulk, Rows.uptoBulkAll]
    omega

theorem open_InTb (hval : Value.okWide Try.prog w r b0 55 v) (hd : DataW.Trod enc Try.prog w base spare held 55 v d ps) (hz : Light Try.prog 55 d) : ∃ x, InTb w v x := by
  obtain ⟨cs, rfl, _⟩ := okWide_struct Try.underlying55 hval
  obtain ⟨fuel, hf⟩ := hd
  obtain ⟨p, h1, h2, _⟩ := tb_parts hf hz
  refine ⟨p, ?_, h2⟩
  congr 1
  rw [← h1]
  simp [Value.cells]

end

end Go.Proofs.Ytcjmngonpijeiaa
