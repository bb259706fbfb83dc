/- How the laws' arguments open: each value in Go's memory reads as plain data. -/
import Derived.Test.YtcjmngonpijeiaaRows
import Derived.Test.YtcjmngonpijeiaaMem
import Derived.ProofKit
import Derived.ChangeSlices
import Derived.Lib.SmallJoins
import Derived.Deep.Slices
import Derived.OpenShut
import Derived.SizedLaws
namespace Go.Proofs.Ytcjmngonpijeiaa
set_option maxRecDepth 100000
open Go.ChangeShapes Go.WideShapes Go.ChangeAt Go.RowKit Go.Joins
open Go.ChangeMaps (open_string shut_string)
set_option linter.unusedVariables false

/-- within the form's own reach -/
def Light {H : Type} (P : Program) (t : TypeId) (d : DataW H) : Prop := ∀ n ∈ d.weights P t, n ≤ 140737488351232

theorem light_each {H : Type} {P : Program} {ts : List TypeId} {ds : List (DataW H)} (h : (DataW.weightsEach P ts ds).all (· ≤ reachBytes) = true) {j : Nat} {t : TypeId} {d : DataW H} (ht : ts[j]? = some t) (hd : ds[j]? = some d) : Light P t d := by
  intro n hn
  have := List.all_eq_true.1 h _ (DataW.weights_mem_each ht hd n hn)
  have h2 : n ≤ reachBytes := of_decide_eq_true this
  unfold reachBytes at h2
  omega

def InBool (_w : World) (v : Value) (x : Bool) : Prop := v = .bool x
def InInt (_w : World) (v : Value) (x : Int) : Prop := v = .int .i64 x ∧ -9223372036854775808 ≤ x ∧ x ≤ 9223372036854775807
def InU8 (_w : World) (v : Value) (x : Nat) : Prop := v = .int .u8 (x : Int) ∧ x < 256
def InU32 (_w : World) (v : Value) (x : Nat) : Prop := v = .int .u32 (x : Int) ∧ x < 4294967296
def InU64 (_w : World) (v : Value) (x : Nat) : Prop := v = .int .u64 (x : Int) ∧ x < 18446744073709551616
def InStr (_w : World) (v : Value) (x : ByteArray) : Prop := v = .string x ∧ x.size ≤ 140737488351232
def InU64s (w : World) (v : Value) (ws : List Nat) : Prop := ∃ A cap, v = .slice A ws.length cap ∧ Rd w A (u64s ws) ∧ (∀ x ∈ ws, x < 18446744073709551616) ∧ ws.length * 8 ≤ 140737488351232
def InU32s (w : World) (v : Value) (ws : List Nat) : Prop := ∃ A cap, v = .slice A ws.length cap ∧ Rd w A (u32s ws) ∧ (∀ x ∈ ws, x < 4294967296) ∧ ws.length * 4 ≤ 140737488351232

section
variable {H : Type} {enc : TypeId × Value → H} {P : Program} {w : World} {base : Nat} {spare : Nat → Bool} {held : Bool} {r : Reach} {b0 : Nat} {t e : TypeId} {v : Value} {d : DataW H} {ps : List MemPlace}

theorem open_InInt (ht : P.underlying t = some (.int .i64)) (hval : Value.okWide P w r b0 t v) (hd : DataW.Trod enc P w base spare held t v d ps) (hz : Light P t d) : ∃ x, InInt w v x := by
  obtain ⟨x, rfl, _, _, hx⟩ := open_int ht hval hd
  have := bounds_i64 hx
  exact ⟨x, rfl, by omega, by omega⟩

theorem open_InU8 (ht : P.underlying t = some (.int .u8)) (hval : Value.okWide P w r b0 t v) (hd : DataW.Trod enc P w base spare held t v d ps) (hz : Light P t d) : ∃ x, InU8 w v x := by
  obtain ⟨x, rfl, _, _, hx⟩ := open_int ht hval hd
  have := bounds_u8 hx
  exact ⟨x.toNat, by rw [Int.toNat_of_nonneg (by omega)], by omega⟩

theorem open_InU32 (ht : P.underlying t = some (.int .u32)) (hval : Value.okWide P w r b0 t v) (hd : DataW.Trod enc P w base spare held t v d ps) (hz : Light P t d) : ∃ x, InU32 w v x := by
  obtain ⟨x, rfl, _, _, hx⟩ := open_int ht hval hd
  have := bounds_u32 hx
  exact ⟨x.toNat, by rw [Int.toNat_of_nonneg (by omega)], by omega⟩

theorem open_InU64 (ht : P.underlying t = some (.int .u64)) (hval : Value.okWide P w r b0 t v) (hd : DataW.Trod enc P w base spare held t v d ps) (hz : Light P t d) : ∃ x, InU64 w v x := by
  obtain ⟨x, rfl, _, _, hx⟩ := open_int ht hval hd
  have := bounds_u64 hx
  exact ⟨x.toNat, by rw [Int.toNat_of_nonneg (by omega)], by omega⟩

theorem open_InStr (ht : P.underlying t = some .string) (hval : Value.okWide P w r b0 t v) (hd : DataW.Trod enc P w base spare held t v d ps) (hz : Light P t d) : ∃ x, InStr w v x := by
  obtain ⟨x, rfl, rfl, _, hx⟩ := open_string ht hval hd
  exact ⟨x, rfl, by have := hz x.data.toList.length (by simp [DataW.weights]); simpa using this⟩

theorem open_InBool (ht : P.underlying t = some .bool) (hval : Value.okWide P w r b0 t v) (hd : DataW.Trod enc P w base spare held t v d ps) (hz : Light P t d) : ∃ x, InBool w v x := by
  obtain ⟨x, rfl, _, _⟩ := open_bool ht hval hd
  exact ⟨x, rfl⟩

/-- a slice of integers, by its cells -/
theorem cells_nats {k : IntKind} {fuel by_ : Nat} {x : DataW H × List MemPlace} (ht : P.underlying t = some (.slice e)) (he : P.underlying e = some (.int k)) (hc : P.cellsOf e = 1) (hby : P.bytesOf e = by_)
    (h : DataW.trod enc P w base spare held fuel t [v] = some x) (hz : Light P t x.1) :
    ∃ A cap zs, v = .slice A (List.length zs) cap ∧ Rd w A (zs.map (Value.int k)) ∧ (∀ n ∈ zs, (Lit.int k n).wf = true) ∧ zs.length * by_ ≤ 140737488351232 := by
  rcases open_ints ht he hc h with ⟨hcs, _⟩ | ⟨a, len, cap, zs, hcs, _, hl, hm, hzl, hx, hcell, hwf⟩
  · simp only [List.cons.injEq, and_true] at hcs
    subst hcs
    exact ⟨none, 0, [], rfl, Rd.nil _ _, fun _ h => absurd h (by simp), by simp⟩
  · simp only [List.cons.injEq, and_true] at hcs
    subst hcs
    have hlz : len ≤ zs.length := by rw [hzl]; split <;> omega
    have hlen : (zs.take len).length = len := by rw [List.length_take]; omega
    refine ⟨some a, cap, zs.take len, by rw [hlen], ?_, fun n hn => hwf n (List.mem_of_mem_take hn), ?_⟩
    · intro i hi
      rw [List.length_map, hlen] at hi
      have hcl := hcell i (by omega)
      obtain ⟨b, off, spot⟩ := a
      have hs : spot = none := by
        have := World.cell?_spot (hcell 0 (by omega))
        simpa [Addr.add] using this
      subst hs
      refine ⟨b, off, rfl, ?_⟩
      rw [Addr.add_lit] at hcl
      rw [hcl]
      have : i < zs.length := by omega
      simp [List.getD_eq_getElem?_getD, this]
    · subst hx
      have := hz (((lits k (zs.take len) : List (DataW H)).length + (lits k (zs.drop len) : List (DataW H)).length) * P.bytesOf e) (by simp [DataW.weights, ht])
      rw [hby] at this
      refine Nat.le_trans (Nat.mul_le_mul_right _ ?_) this
      simp [lits]

theorem nats_of {k : IntKind} {zs : List Int} (h : ∀ n ∈ zs, 0 ≤ n) : zs.map (Value.int k) = (zs.map Int.toNat).map fun x : Nat => Value.int k (x : Int) := by
  rw [List.map_map]
  apply List.map_congr_left
  intro a ha
  show Value.int k a = Value.int k ((a.toNat : Nat) : Int)
  rw [Int.toNat_of_nonneg (h a ha)]

theorem cells_InU64s {fuel : Nat} {x : DataW H × List MemPlace} (ht : P.underlying t = some (.slice e)) (he : P.underlying e = some (.int .u64)) (hc : P.cellsOf e = 1)
    (hby : P.bytesOf e = 8)
    (h : DataW.trod enc P w base spare held fuel t [v] = some x) (hz : Light P t x.1) : ∃ ws, InU64s w v ws := by
  obtain ⟨A, cap, zs, rfl, hR, hwf, hm⟩ := cells_nats ht he hc hby h hz
  refine ⟨zs.map Int.toNat, A, cap, by rw [List.length_map], ?_, ?_, by rw [List.length_map]; exact hm⟩
  · unfold u64s
    rw [← nats_of (fun n hn => (bounds_u64 (hwf n hn)).1)]
    exact hR
  · intro y hy
    obtain ⟨n, hn, rfl⟩ := List.mem_map.1 hy
    have := bounds_u64 (hwf n hn)
    omega

theorem cells_InU32s {fuel : Nat} {x : DataW H × List MemPlace} (ht : P.underlying t = some (.slice e)) (he : P.underlying e = some (.int .u32)) (hc : P.cellsOf e = 1)
    (hby : P.bytesOf e = 4)
    (h : DataW.trod enc P w base spare held fuel t [v] = some x) (hz : Light P t x.1) : ∃ ws, InU32s w v ws := by
  obtain ⟨A, cap, zs, rfl, hR, hwf, hm⟩ := cells_nats ht he hc hby h hz
  refine ⟨zs.map Int.toNat, A, cap, by rw [List.length_map], ?_, ?_, by rw [List.length_map]; exact hm⟩
  · unfold u32s
    rw [← nats_of (fun n hn => (bounds_u32 (hwf n hn)).1)]
    exact hR
  · intro y hy
    obtain ⟨n, hn, rfl⟩ := List.mem_map.1 hy
    have := bounds_u32 (hwf n hn)
    omega

theorem open_InU32s (ht : P.underlying t = some (.slice e)) (he : P.underlying e = some (.int .u32)) (hc : P.cellsOf e = 1) (hby : P.bytesOf e = 4) (hval : Value.okWide P w r b0 t v) (hd : DataW.Trod enc P w base spare held t v d ps) (hz : Light P t d) : ∃ ws, InU32s w v ws := by
  obtain ⟨a, len, cap, rfl⟩ := okWide_slice ht hval
  obtain ⟨fuel, hf⟩ := hd
  exact cells_InU32s ht he hc hby (by simpa [Value.cells] using hf) hz

end

/-- a filter -/
def InFilter (w : World) (v : Value) (x : List Nat × Int) : Prop :=
  ∃ A cap, v = .agg #[.slice A x.1.length cap, .int .i64 x.2] ∧ Rd w A (u64s x.1) ∧ (∀ y ∈ x.1, y < 18446744073709551616) ∧ x.1.length * 8 ≤ 140737488351232 ∧
    -9223372036854775808 ≤ x.2 ∧ x.2 ≤ 9223372036854775807

theorem open_InFilter {H : Type} {enc : TypeId × Value → H} {w : World} {base : Nat} {spare : Nat → Bool} {held : Bool} {r : Reach} {b0 : Nat} {v : Value} {d : DataW H} {ps : List MemPlace}
    (hval : Value.okWide Try.prog w r b0 53 v) (hd : DataW.Trod enc Try.prog w base spare held 53 v d ps) (hz : Light Try.prog 53 d) : ∃ x, InFilter w v x := by
  obtain ⟨v0, v1, y0, y1, n, rfl, rfl, _, h0, h1⟩ := open_agg2 Try.underlying53 (by kernel_rfl) (by kernel_rfl) hval hd
  obtain ⟨ws, A, cap, rfl, hR, hb, hm⟩ := cells_InU64s Try.underlying51 Try.underlying82 (by kernel_rfl) (by kernel_rfl) h0 (fun n hn => hz n (by simp only [DataW.weights, Try.underlying53]; exact DataW.weights_mem_each (j := 0) rfl rfl n hn))
  obtain ⟨x, hx, _, hw⟩ := DataW.trod_int Try.underlying3 h1
  simp only [List.cons.injEq, and_true] at hx
  subst hx
  have := bounds_i64 hw
  exact ⟨(ws, x), A, cap, rfl, hR, hb, hm, by omega, by omega⟩

theorem own : ownKnob Try.prog.godebug = none := by kernel_rfl
theorem laidOut : laidOutB Try.prog = true := by kernel_rfl

end Go.Proofs.Ytcjmngonpijeiaa
