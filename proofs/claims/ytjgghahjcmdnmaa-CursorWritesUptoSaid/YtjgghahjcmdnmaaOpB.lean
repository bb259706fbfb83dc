/- How the laws' longer arguments open, and what their bulk says of them. -/
import Derived.Test.YtjgghahjcmdnmaaOpn
namespace Go.Proofs.Ytjgghahjcmdnmaa
open Go.ChangeShapes Go.WideShapes Go.ChangeAt Go.RowKit Go.Joins
open Go.ChangeMaps (open_string shut_string)
set_option linter.unusedVariables false

theorem build_list {α : Type} {Q : Nat → α → Prop} : ∀ (n : Nat), (∀ i, i < n → ∃ a, Q i a) → ∃ l : List α, l.length = n ∧ ∀ i a, l[i]? = some a → Q i a
  | 0, _ => ⟨[], rfl, fun i a h => by simp at h⟩
  | n + 1, h => by
    obtain ⟨l, hl, hq⟩ := build_list n (fun i hi => h i (by omega))
    obtain ⟨a, ha⟩ := h n (by omega)
    refine ⟨l ++ [a], by simp [hl], fun i b hb => ?_⟩
    by_cases hi : i < n
    · rw [List.getElem?_append_left (by omega)] at hb
      exact hq i b hb
    · have hin : i < (l ++ [a]).length := (List.getElem?_eq_some_iff.1 hb).1
      have : i = n := by simp [hl] at hin; omega
      subst this
      rw [List.getElem?_append_right (by omega), hl] at hb
      simp at hb
      subst hb
      exact ha

theorem weights_nth {H : Type} {P : Program} {e : TypeId} : ∀ (ds : List (DataW H)) (d : DataW H), d ∈ ds → ∀ n ∈ d.weights P e, n ∈ DataW.weightsAll P e ds
  | [], d, h, _, _ => by cases h
  | d0 :: ds, d, h, n, hn => by
    simp only [DataW.weightsAll, List.mem_append]
    rcases List.mem_cons.1 h with rfl | h
    · exact .inl hn
    · exact .inr (weights_nth ds d h n hn)

theorem bulkAll_sum {H : Type} : ∀ l : List (DataW H), Rows.uptoBulkAll l = (l.map Rows.uptoBulk).sum
  | [] => rfl
  | d :: r => by simp only [Rows.uptoBulkAll, List.map_cons, List.sum_cons, bulkAll_sum r]

theorem sum_le_range {α : Type} (bk : α → Nat) (f : Nat → Nat) : ∀ (n : Nat) (l : List α), l.length = n → (∀ i a, l[i]? = some a → bk a ≤ f i) → (l.map bk).sum ≤ ((List.range n).map f).sum
  | 0, l, hl, h => by rw [List.length_eq_zero_iff.1 hl]; simp
  | n + 1, l, hl, h => by
    have hne : l ≠ [] := by intro e; rw [e] at hl; simp at hl
    have hd : l.dropLast.length = n := by simp [hl]
    have ih := sum_le_range bk f n l.dropLast hd (fun i a ha => h i a (by
      have hi := (List.getElem?_eq_some_iff.1 ha).1
      rw [hd] at hi
      rw [List.getElem?_dropLast, if_pos (by omega)] at ha
      exact ha))
    have hl2 := h n (l.getLast hne) (by rw [List.getLast_eq_getElem, List.getElem?_eq_getElem (by omega)]; congr 2; omega)
    rw [List.range_succ, List.map_append, List.sum_append]
    have e0 : (l.map bk).sum = ((l.dropLast ++ [l.getLast hne]).map bk).sum := by rw [List.dropLast_concat_getLast]
    rw [e0, List.map_append, List.sum_append]
    simp only [List.map_cons, List.map_nil, List.sum_cons, List.sum_nil]
    omega

/-- one slice's elements in memory, each of c cells -/
def RdC {α : Type} (w : World) (A : Option Addr) (c : Nat) (Q : α → List Value → Prop) (xs : List α) : Prop :=
  ∀ (i : Nat) (a : α), xs[i]? = some a → ∃ b off cs, A = some ⟨b, off, none⟩ ∧ cs.length = c ∧ Q a cs ∧ ∀ j, j < c → w.cell? ⟨b, off + i * c + j, none⟩ = cs[j]?

section
variable {H : Type} {enc : TypeId × Value → H} {P : Program} {w : World} {base : Nat} {spare : Nat → Bool} {held : Bool} {r : Reach} {b0 : Nat} {t e : TypeId} {v : Value} {d : DataW H} {ps : List MemPlace}

theorem cells_slice {α : Type} {Q : α → List Value → Prop} {bk : α → Nat} {fuel c by_ : Nat} {x : DataW H × List MemPlace} (ht : P.underlying t = some (.slice e)) (hC : P.cellsOf e = c) (hc : 0 < c) (hB : P.bytesOf e = by_)
    (h : DataW.trod enc P w base spare held fuel t [v] = some x) (hz : Light P t x.1)
    (elem : ∀ fuel cs y, DataW.trod enc P w base spare held fuel e cs = some y → Light P e y.1 → cs.length = c → ∃ a, Q a cs ∧ bk a ≤ Rows.uptoBulk y.1) :
    ∃ A cap xs, v = .slice A xs.length cap ∧ RdC w A c Q xs ∧ xs.length * by_ ≤ 140737488351232 ∧ (xs.map bk).sum + 1 ≤ Rows.uptoBulk x.1 ∧ xs.length ≤ cap ∧ cap ≤ maxLen := by
  rcases Go.Deep.open_slice ht h with ⟨hcs, hx⟩ | ⟨a, len, cap, m, n, D, Pl, hcs, _, hl, hm, hmm, hx, hi⟩
  · simp only [List.cons.injEq, and_true] at hcs
    subst hcs
    refine ⟨none, 0, [], rfl, fun i a h => by simp at h, by simp, ?_, by simp, by simp⟩
    rw [hx]; simp [Rows.uptoBulk]
  · simp only [List.cons.injEq, and_true] at hcs
    subst hcs
    subst hx
    have hmlen : len ≤ m := by rw [hmm]; split <;> omega
    have hw : len * by_ ≤ 140737488351232 := by
      have := hz (((List.range len).map D).length * P.bytesOf e + ((List.range (m - len)).map fun j => D (len + j)).length * P.bytesOf e) (by simp only [DataW.weights, ht, List.mem_cons]; left; rw [Nat.add_mul])
      rw [hB] at this
      simp at this
      omega
    obtain ⟨xs, hlen, hq⟩ := build_list (α := α) (Q := fun i f => bk f ≤ Rows.uptoBulk (D i) ∧ ∃ b off cs, some a = some (⟨b, off, none⟩ : Addr) ∧ cs.length = c ∧ Q f cs ∧ ∀ j, j < c → w.cell? ⟨b, off + i * c + j, none⟩ = cs[j]?) len (fun i hil => by
      obtain ⟨cs', hcc, ht'⟩ := hi i (by omega)
      rw [hC] at hcc
      obtain ⟨_, hcl, hat⟩ := World.cells?_some hcc
      obtain ⟨f, hQ, hb⟩ := elem _ _ _ ht' (fun k hk => hz k (by
        simp only [DataW.weights, ht, List.mem_cons, List.mem_append]
        exact .inr (.inl (weights_nth _ (D i) (List.mem_map.2 ⟨i, by simp; omega, rfl⟩) k hk)))) hcl
      refine ⟨f, hb, ?_⟩
      obtain ⟨b, off, spot⟩ := a
      have hs : spot = none := by
        obtain ⟨cs2, hcc2, _⟩ := hi 0 (by omega)
        rw [hC] at hcc2
        obtain ⟨_, hcl2, hat2⟩ := World.cells?_some hcc2
        have h00 := hat2 0 (by omega)
        rw [List.getElem?_eq_getElem (by omega)] at h00
        have := World.cell?_spot h00
        simpa [Addr.add] using this
      subst hs
      refine ⟨b, off, cs', rfl, hcl, hQ, fun j hj => ?_⟩
      have := hat j (by omega)
      rw [Addr.add_lit, Addr.add_lit] at this
      exact this)
    refine ⟨some a, cap, xs, by rw [hlen], fun i f hf => (hq i f hf).2, by rw [hlen]; exact hw, ?_, by omega, hm⟩
    have := sum_le_range bk (fun i => Rows.uptoBulk (D i)) len xs hlen (fun i f hf => (hq i f hf).1)
    simp only [Rows.uptoBulk, bulkAll_sum, List.map_map]
    have e1 : ((List.range len).map (Rows.uptoBulk ∘ D)).sum = ((List.range len).map fun i => Rows.uptoBulk (D i)).sum := rfl
    omega

theorem sum_ones {α : Type} : ∀ l : List α, (l.map fun _ => 1).sum = l.length
  | [] => rfl
  | _ :: r => by rw [List.map_cons, List.sum_cons, sum_ones r, List.length_cons]; omega

theorem cells_ints {fuel : Nat} {x : DataW H × List MemPlace} (ht : P.underlying t = some (.slice e)) (he : P.underlying e = some (.int .i64)) (hC : P.cellsOf e = 1) (hB : P.bytesOf e = 8)
    (h : DataW.trod enc P w base spare held fuel t [v] = some x) (hz : Light P t x.1) :
    ∃ A cap ns, v = .slice A (List.length ns) cap ∧ Rd w A (ints ns) ∧ (∀ n ∈ ns, -9223372036854775808 ≤ n ∧ n ≤ 9223372036854775807) ∧ ns.length + 1 ≤ Rows.uptoBulk x.1 ∧ ns.length * 8 ≤ 140737488351232 := by
  obtain ⟨A, cap, ns, rfl, hR, hw, hb, _⟩ := cells_slice (α := Int) (Q := fun n cs => cs = [.int .i64 n] ∧ -9223372036854775808 ≤ n ∧ n ≤ 9223372036854775807) (bk := fun _ => 1) ht hC (by omega) hB h hz (fun fuel cs y hy _ _ => by
    obtain ⟨n, rfl, hx, hwf⟩ := DataW.trod_int he hy
    have := bounds_i64 hwf
    refine ⟨n, ⟨rfl, this⟩, ?_⟩
    rw [hx]; simp [Rows.uptoBulk])
  refine ⟨A, cap, ns, rfl, fun i hi => ?_, fun n hn => ?_, by rw [sum_ones] at hb; exact hb, hw⟩
  · have hi' : i < ns.length := by simpa [ints] using hi
    obtain ⟨b, off, cs, hA, _, ⟨rfl, _⟩, hc⟩ := hR i _ (List.getElem?_eq_getElem hi')
    refine ⟨b, off, hA, ?_⟩
    have := hc 0 (by omega)
    rw [Nat.mul_one, Nat.add_zero] at this
    rw [this]; simp [ints]
  · obtain ⟨i, hi, rfl⟩ := List.getElem_of_mem hn
    obtain ⟨b, off, cs, hA, _, ⟨_, h2⟩, hc⟩ := hR i _ (List.getElem?_eq_getElem hi)
    exact h2

/-- the letters of some texts -/
def letters (ss : List ByteArray) : Nat := (ss.map fun s => s.size + 1).sum

theorem cells_strs {fuel by_ : Nat} {x : DataW H × List MemPlace} (ht : P.underlying t = some (.slice e)) (he : P.underlying e = some .string) (hC : P.cellsOf e = 1) (hB : P.bytesOf e = by_)
    (h : DataW.trod enc P w base spare held fuel t [v] = some x) (hz : Light P t x.1) :
    ∃ A cap ss, v = .slice A (List.length ss) cap ∧ Rd w A (strs ss) ∧ (∀ s ∈ ss, s.size ≤ 140737488351232) ∧ letters ss + 1 ≤ Rows.uptoBulk x.1 ∧ ss.length * by_ ≤ 140737488351232 := by
  obtain ⟨A, cap, ss, rfl, hR, hw, hb, _⟩ := cells_slice (α := ByteArray) (Q := fun s cs => cs = [.string s] ∧ s.size ≤ 140737488351232) (bk := fun s => s.size + 1) ht hC (by omega) hB h hz (fun fuel cs y hy hz1 _ => by
    obtain ⟨s, rfl, hx, hwf⟩ := DataW.trod_string he hy
    have h1 := hz1 s.data.toList.length (by rw [hx]; simp [DataW.weights])
    have h2 : s.data.toList.length = s.size := by simp
    refine ⟨s, ⟨rfl, by omega⟩, ?_⟩
    rw [hx]; simp [Rows.uptoBulk])
  refine ⟨A, cap, ss, rfl, fun i hi => ?_, fun n hn => ?_, hb, hw⟩
  · have hi' : i < ss.length := by simpa [strs] using hi
    obtain ⟨b, off, cs, hA, _, ⟨rfl, _⟩, hc⟩ := hR i _ (List.getElem?_eq_getElem hi')
    refine ⟨b, off, hA, ?_⟩
    have := hc 0 (by omega)
    rw [Nat.mul_one, Nat.add_zero] at this
    rw [this]; simp [strs]
  · obtain ⟨i, hi, rfl⟩ := List.getElem_of_mem hn
    obtain ⟨b, off, cs, hA, _, ⟨_, h2⟩, hc⟩ := hR i _ (List.getElem?_eq_getElem hi)
    exact h2

theorem cells_bytes {fuel : Nat} {x : DataW H × List MemPlace} (ht : P.underlying t = some (.slice e)) (he : P.underlying e = some (.int .u8)) (hC : P.cellsOf e = 1) (hB : P.bytesOf e = 1)
    (h : DataW.trod enc P w base spare held fuel t [v] = some x) (hz : Light P t x.1) :
    ∃ A cap bs, v = .slice A (List.length bs) cap ∧ Rd w A (u8s bs) ∧ bs.length + 1 ≤ Rows.uptoBulk x.1 ∧ bs.length ≤ 140737488351232 := by
  obtain ⟨A, cap, bs, rfl, hR, hw, hb, _⟩ := cells_slice (α := UInt8) (Q := fun n cs => cs = [.int .u8 (n.toNat : Int)]) (bk := fun _ => 1) ht hC (by omega) hB h hz (fun fuel cs y hy _ _ => by
    obtain ⟨n, rfl, hx, hwf⟩ := DataW.trod_int he hy
    have := bounds_u8 hwf
    refine ⟨UInt8.ofNat n.toNat, ?_, ?_⟩
    · rw [UInt8.toNat_ofNat', Nat.mod_eq_of_lt (by omega), Int.toNat_of_nonneg (by omega)]
    · rw [hx]; simp [Rows.uptoBulk])
  refine ⟨A, cap, bs, rfl, fun i hi => ?_, by rw [sum_ones] at hb; exact hb, by omega⟩
  have hi' : i < bs.length := by simpa [u8s] using hi
  obtain ⟨b, off, cs, hA, _, rfl, hc⟩ := hR i _ (List.getElem?_eq_getElem hi')
  refine ⟨b, off, hA, ?_⟩
  have := hc 0 (by omega)
  rw [Nat.mul_one, Nat.add_zero] at this
  rw [this]; simp [u8s]

end

/-- a piece -/
structure Pc where
  kind : Int
  size : Int
  n : Int
  NA : Option Addr
  nc : Nat
  ns : List Int
  SA : Option Addr
  sc : Nat
  ss : List ByteArray
  BA : Option Addr
  bc : Nat
  bs : List UInt8

def Pc.vals (p : Pc) : List Value := [.int .i64 p.kind, .int .i64 p.size, .int .i64 p.n, .slice p.NA p.ns.length p.nc, .slice p.SA p.ss.length p.sc, .slice p.BA p.bs.length p.bc]
def Pc.bulk (p : Pc) : Nat := p.ns.length + letters p.ss + p.bs.length + 4

/-- a piece's parts read -/
structure Pc.In (w : World) (p : Pc) : Prop where
  kind : -9223372036854775808 ≤ p.kind ∧ p.kind ≤ 9223372036854775807
  size : -9223372036854775808 ≤ p.size ∧ p.size ≤ 9223372036854775807
  n : -9223372036854775808 ≤ p.n ∧ p.n ≤ 9223372036854775807
  nr : Rd w p.NA (ints p.ns)
  nb : ∀ n ∈ p.ns, -9223372036854775808 ≤ n ∧ n ≤ 9223372036854775807
  nl : p.ns.length * 8 ≤ 140737488351232
  sr : Rd w p.SA (strs p.ss)
  sb : ∀ s ∈ p.ss, s.size ≤ 140737488351232
  sl : p.ss.length * 16 ≤ 140737488351232
  br : Rd w p.BA (u8s p.bs)
  bl : p.bs.length ≤ 140737488351232

/-- a slice of pieces reads -/
def RdP (w : World) (A : Option Addr) (ps : List Pc) : Prop := RdC w A 6 (fun p cs => cs = Pc.vals p) ps

section
variable {H : Type} {enc : TypeId × Value → H} {w : World} {base : Nat} {spare : Nat → Bool} {held : Bool} {r : Reach} {b0 : Nat} {v : Value} {d : DataW H} {ps : List MemPlace}

theorem piece_parts {fuel : Nat} {cs : List Value} {y : DataW H × List MemPlace} (hy : DataW.trod enc Try.prog w base spare held fuel 44 cs = some y) (hz : Light Try.prog 44 y.1) :
    ∃ p : Pc, cs = p.vals ∧ p.In w ∧ p.bulk ≤ Rows.uptoBulk y.1 := by
  obtain ⟨xs, n, _, hx, hl, hlen, hf⟩ := DataW.trod_struct Try.underlying44 hy
  have hC : Try.prog.cellsOf 44 = 6 := by kernel_rfl
  rw [hC] at hl
  match cs, hl with
  | [c0, c1, c2, c3, c4, c5], _ =>
  match xs, hlen with
  | [y0, y1, y2, y3, y4, y5], _ =>
  have h0 : DataW.trod enc Try.prog w base spare held n 3 [c0] = some y0 := hf 0 _ rfl
  have h1 : DataW.trod enc Try.prog w base spare held n 3 [c1] = some y1 := hf 1 _ rfl
  have h2 : DataW.trod enc Try.prog w base spare held n 3 [c2] = some y2 := hf 2 _ rfl
  have h3 : DataW.trod enc Try.prog w base spare held n 22 [c3] = some y3 := hf 3 _ rfl
  have h4 : DataW.trod enc Try.prog w base spare held n 23 [c4] = some y4 := hf 4 _ rfl
  have h5 : DataW.trod enc Try.prog w base spare held n 29 [c5] = some y5 := hf 5 _ rfl
  subst hx
  have hzj : ∀ (j : Nat) (t : TypeId) (d : DataW H), (#[3, 3, 3, 22, 23, 29] : Array TypeId).toList[j]? = some t → [y0.1, y1.1, y2.1, y3.1, y4.1, y5.1][j]? = some d → Light Try.prog t d := by
    intro j t d ht hd k hk
    refine hz k ?_
    simp only [DataW.weights, Try.underlying44]
    exact DataW.weights_mem_each (j := j) ht hd k hk
  obtain ⟨k0, e0, _, w0⟩ := DataW.trod_int Try.underlying3 h0
  obtain ⟨k1, e1, _, w1⟩ := DataW.trod_int Try.underlying3 h1
  obtain ⟨k2, e2, _, w2⟩ := DataW.trod_int Try.underlying3 h2
  obtain ⟨NA, nc, ns, rfl, hn, hnb, hnk, hnl⟩ := cells_ints Try.underlying22 Try.underlying3 (by kernel_rfl) (by kernel_rfl) h3 (hzj 3 _ _ rfl rfl)
  obtain ⟨SA, sc, ss, rfl, hs, hsb, hsk, hsl⟩ := cells_strs Try.underlying23 Try.underlying9 (by kernel_rfl) (by_ := 16) (by kernel_rfl) h4 (hzj 4 _ _ rfl rfl)
  obtain ⟨BA, bc, bs, rfl, hb, hbk, hbl⟩ := cells_bytes Try.underlying29 Try.underlying5 (by kernel_rfl) (by kernel_rfl) h5 (hzj 5 _ _ rfl rfl)
  simp only [List.cons.injEq, and_true] at e0 e1 e2
  subst e0 e1 e2
  refine ⟨⟨k0, k1, k2, NA, nc, ns, SA, sc, ss, BA, bc, bs⟩, rfl, ⟨bounds_i64 w0, bounds_i64 w1, bounds_i64 w2, hn, hnb, hnl, hs, hsb, hsl, hb, hbl⟩, ?_⟩
  simp only [List.map_cons, List.map_nil, Rows.uptoBulk, Rows.uptoBulkAll, Pc.bulk]
  omega

/-- a piece comes in -/
def InPc (w : World) (v : Value) (p : Pc) : Prop := v = .agg p.vals.toArray ∧ p.In w
/-- a slice of pieces comes in -/
def InPcs (w : World) (v : Value) (ps : List Pc) : Prop := ∃ A cap, v = .slice A ps.length cap ∧ RdP w A ps ∧ (∀ p ∈ ps, p.In w) ∧ ps.length ≤ 140737488351232

def bulks (ps : List Pc) : Nat := (ps.map Pc.bulk).sum

theorem open_InPcsU (hval : Value.okWide Try.prog w r b0 39 v) (hd : DataW.Trod enc Try.prog w base spare held 39 v d ps) (hz : Light Try.prog 39 d) :
    ∃ x, InPcs w v x ∧ bulks x + 1 ≤ Rows.uptoBulk d := by
  obtain ⟨a, len, cap, rfl⟩ := okWide_slice Try.underlying39 hval
  obtain ⟨fuel, hf⟩ := hd
  obtain ⟨A, c, xs, hv, hR, hw, hb, _⟩ := cells_slice (α := Pc) (Q := fun p cs => cs = p.vals ∧ p.In w) (bk := Pc.bulk) (by_ := 96) Try.underlying39 (show Try.prog.cellsOf 44 = 6 by kernel_rfl) (by omega) (by kernel_rfl) (by simpa [Value.cells] using hf) hz (fun fuel cs y hy hz1 _ => by
    obtain ⟨p, h1, h2, h3⟩ := piece_parts hy hz1
    exact ⟨p, ⟨h1, h2⟩, h3⟩)
  refine ⟨xs, ⟨A, c, hv, fun i p hp => ?_, fun p hp => ?_, by omega⟩, hb⟩
  · obtain ⟨b, off, cs, hA, hl, ⟨hq, _⟩, hc⟩ := hR i p hp
    exact ⟨b, off, cs, hA, hl, hq, hc⟩
  · obtain ⟨i, hi, rfl⟩ := List.getElem_of_mem hp
    obtain ⟨b, off, cs, hA, hl, ⟨_, hq⟩, hc⟩ := hR i _ (List.getElem?_eq_getElem hi)
    exact hq

theorem open_InPcU (hval : Value.okWide Try.prog w r b0 44 v) (hd : DataW.Trod enc Try.prog w base spare held 44 v d ps) (hz : Light Try.prog 44 d) :
    ∃ x, InPc w v x ∧ x.bulk ≤ Rows.uptoBulk d := by
  obtain ⟨cs, rfl, _⟩ := okWide_struct Try.underlying44 hval
  obtain ⟨fuel, hf⟩ := hd
  obtain ⟨p, h1, h2, h3⟩ := piece_parts hf hz
  refine ⟨p, ⟨?_, h2⟩, h3⟩
  congr 1
  rw [← h1]
  simp [Value.cells]

theorem open_InIntsU (hval : Value.okWide Try.prog w r b0 22 v) (hd : DataW.Trod enc Try.prog w base spare held 22 v d ps) (hz : Light Try.prog 22 d) : ∃ x, InInts w v x ∧ x.length + 1 ≤ Rows.uptoBulk d := by
  obtain ⟨a, len, cap, rfl⟩ := okWide_slice Try.underlying22 hval
  obtain ⟨fuel, hf⟩ := hd
  obtain ⟨A, c, ns, hv, hn, hnb, hnk, hnl⟩ := cells_ints Try.underlying22 Try.underlying3 (by kernel_rfl) (by kernel_rfl) (by simpa [Value.cells] using hf) hz
  exact ⟨ns, ⟨A, c, hv, hn, hnb, hnl⟩, hnk⟩

theorem open_InStrsU (hval : Value.okWide Try.prog w r b0 23 v) (hd : DataW.Trod enc Try.prog w base spare held 23 v d ps) (hz : Light Try.prog 23 d) : ∃ x, InStrs w v x ∧ letters x + 1 ≤ Rows.uptoBulk d := by
  obtain ⟨a, len, cap, rfl⟩ := okWide_slice Try.underlying23 hval
  obtain ⟨fuel, hf⟩ := hd
  obtain ⟨A, c, ss, hv, hn, hnb, hnk, hnl⟩ := cells_strs Try.underlying23 Try.underlying9 (by kernel_rfl) (by_ := 16) (by kernel_rfl) (by simpa [Value.cells] using hf) hz
  exact ⟨ss, ⟨A, c, hv, hn, hnb, hnl⟩, hnk⟩

theorem bulk_one (d : DataW H) : 1 ≤ Rows.uptoBulk d := by
  cases d with
  | lit l => cases l <;> simp [Rows.uptoBulk]
  | nil => simp [Rows.uptoBulk]
  | ptr d => simp [Rows.uptoBulk]
  | slice elems spare => simp [Rows.uptoBulk]
  | agg parts => simp [Rows.uptoBulk]
  | iface t d => simp [Rows.uptoBulk]
  | map entries => simp [Rows.uptoBulk]
  | held h => simp [Rows.uptoBulk]

theorem open_InIntU (hval : Value.okWide Try.prog w r b0 3 v) (hd : DataW.Trod enc Try.prog w base spare held 3 v d ps) (hz : Light Try.prog 3 d) : ∃ x, InInt w v x ∧ 1 ≤ Rows.uptoBulk d := by
  obtain ⟨x, h⟩ := open_InInt Try.underlying3 hval hd hz
  exact ⟨x, h, bulk_one d⟩

theorem open_InU16U (hval : Value.okWide Try.prog w r b0 66 v) (hd : DataW.Trod enc Try.prog w base spare held 66 v d ps) (hz : Light Try.prog 66 d) : ∃ x, InU16 w v x ∧ 1 ≤ Rows.uptoBulk d := by
  obtain ⟨x, h⟩ := open_InU16 Try.underlying66 hval hd hz
  exact ⟨x, h, bulk_one d⟩

end

end Go.Proofs.Ytjgghahjcmdnmaa
