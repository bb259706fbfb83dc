/- What a call may change, block by block; an append in a region that draws its order. -/
import Derived.Test.YtcjmngonpijeiaaApp2
import Derived.Lib.Hide
import Derived.Deep.RegionLaw
import Derived.Deep.DeepCutAuto
namespace Go.Proofs.Ytcjmngonpijeiaa
set_option maxRecDepth 100000
open Go.RowKit
set_option linter.unusedVariables false

/-- but for the blocks in S nothing that was there has turned -/
structure Chg (S : Nat → Prop) (w w' : World) : Prop where
  os : w'.os = w.os
  tape : w'.tape = w.tape
  output : w'.output = w.output
  size : w.heap.size ≤ w'.heap.size
  block : ∀ k, k < w.heap.size → ¬ S k → w'.heap[k]? = w.heap[k]?

theorem Chg.refl (S : Nat → Prop) (w : World) : Chg S w w := ⟨rfl, rfl, rfl, Nat.le_refl _, fun _ _ _ => rfl⟩
theorem Chg.trans {S S' : Nat → Prop} {a b c : World} (h : Chg S a b) (k : Chg S' b c) (hs : ∀ i, S' i → S i ∨ a.heap.size ≤ i) : Chg S a c :=
  ⟨k.os.trans h.os, k.tape.trans h.tape, k.output.trans h.output, Nat.le_trans h.size k.size, fun i hi hn => by
    rw [k.block i (Nat.lt_of_lt_of_le hi h.size) (fun hs' => by rcases hs i hs' with h1 | h1; exact hn h1; omega)]
    exact h.block i hi hn⟩
theorem Chg.of_ext {S : Nat → Prop} {a b : World} (h : Ext a b) : Chg S a b := ⟨h.below.os, h.below.tape, h.below.output, h.size, fun k hk _ => h.below.block k hk⟩
theorem Chg.ext {S : Nat → Prop} {w0 a b : World} (h : Chg S a b) (h0 : Ext w0 a) (hs : ∀ k, S k → w0.heap.size ≤ k) : Ext w0 b :=
  Ext.of ⟨h.os.trans h0.below.os, h.tape.trans h0.below.tape, h.output.trans h0.below.output, Nat.le_trans h0.size h.size, fun i hi => by
    rw [h.block i (Nat.lt_of_lt_of_le hi h0.size) (fun hS => by have := hs i hS; omega)]
    exact h0.below.block i hi⟩
theorem Chg.blk {S : Nat → Prop} {w w' : World} (h : Chg S w w') {g : Nat} {t : TypeId} {cs : Array Value} (hb : Blk w g t cs) (hn : ¬ S g) : Blk w' g t cs := (h.block g hb.lt hn).trans hb
theorem Chg.cell {S : Nat → Prop} {w w' : World} (h : Chg S w w') {b o : Nat} {v : Value} (hc : w.cell? ⟨b, o, none⟩ = some v) (hn : ¬ S b) : w'.cell? ⟨b, o, none⟩ = some v :=
  (World.cell?_of_block (w := w) (a := ⟨b, o, none⟩) (h.block b (World.block_lt_of_cell? w ⟨b, o, none⟩ hc) hn)).trans hc
theorem Chg.rd {S : Nat → Prop} {w w' : World} (h : Chg S w w') {A : Option Addr} {xs : List Value} (hr : Rd w A xs) (hn : ∀ b o, A = some ⟨b, o, none⟩ → ¬ S b) : Rd w' A xs := by
  intro i hi
  obtain ⟨b, off, hA, hc⟩ := hr i hi
  exact ⟨b, off, hA, h.cell hc (hn b off hA)⟩
theorem Chg.rdp {S : Nat → Prop} {w w' : World} (h : Chg S w w') {A : Option Addr} {xs : List Value} (hr : Rd w A xs) (hn : ∀ b o, A = some ⟨b, o, none⟩ → 0 < xs.length → ¬ S b) : Rd w' A xs := by
  intro i hi
  obtain ⟨b, off, hA, hc⟩ := hr i hi
  exact ⟨b, off, hA, h.cell hc (hn b off hA (by omega))⟩
/-- what came in lies apart from what the call made -/
theorem Rd.apart {S : Nat → Prop} {w : World} {A : Option Addr} {xs : List Value} (h : Rd w A xs) (hf : ∀ k, S k → w.heap.size ≤ k) : ∀ b o, A = some ⟨b, o, none⟩ → 0 < xs.length → ¬ S b := by
  intro b o e hl hs
  obtain ⟨b', o', hA, hc⟩ := h 0 hl
  rw [e] at hA
  simp only [Option.some.injEq, Addr.mk.injEq] at hA
  have := hf b hs
  have := cell_lt hc
  omega
theorem Chg.own {S : Nat → Prop} {w w' : World} (h : Chg S w w') {base : Nat} {e : TypeId} {size n : Nat} {v : Value} {xs : List Value} (ho : w.ownsRow base e size v n xs) (hn : ∀ k, v.ownBlock = some k → ¬ S k) : w'.ownsRow base e size v n xs := by
  refine ⟨ho.1, ?_⟩
  rcases ho.2 with hv | ⟨g, cap, cur, rfl, hg, hh, rest⟩
  · exact .inl hv
  · exact .inr ⟨g, cap, cur, rfl, hg, (h.block g (Array.getElem?_eq_some_iff.1 hh).1 (hn g rfl)).trans hh, rest⟩
theorem Chg.grown {w w' : World} {row : Option Nat} (hg : w.grownBy w' row) : Chg (fun k => some k = row) w w' := ⟨hg.os, hg.tape, hg.output, hg.size, hg.block⟩
theorem Chg.set (w : World) (g i : Nat) (u : Value) : Chg (fun k => k = g) w (w.setCell ⟨g, i, none⟩ u) := ⟨rfl, rfl, rfl, by simp, fun k _ hn => Below.heap_setCell _ _ _ _ hn⟩
theorem Chg.mono {S S' : Nat → Prop} {w w' : World} (h : Chg S w w') (hs : ∀ k, S k → S' k) : Chg S' w w' := ⟨h.os, h.tape, h.output, h.size, fun k hk hn => h.block k hk (fun hS => hn (hs k hS))⟩

/-- the block of a slice -/
def inB (A : Option Addr) (k : Nat) : Prop := ∃ o, A = some ⟨k, o, none⟩

theorem inB_none {k : Nat} (h : inB none k) : False := by obtain ⟨_, h⟩ := h; cases h
theorem inB_some {b o k : Nat} (h : inB (some ⟨b, o, none⟩) k) : k = b := by
  obtain ⟨_, h⟩ := h
  simp only [Option.some.injEq, Addr.mk.injEq] at h
  exact h.1.symm

theorem own_slice {w : World} {base : Nat} {e : TypeId} {size n : Nat} {v : Value} {xs : List Value} (h : w.ownsRow base e size v n xs) : ∃ A c, v = .slice A n c := by
  rcases h.2 with ⟨rfl, rfl⟩ | ⟨g, cap, cur, rfl, _⟩
  · exact ⟨none, 0, rfl⟩
  · exact ⟨_, _, rfl⟩

/-- an append in a region that draws its order -/
theorem step_app_rd2 {P : Program} {w : World} {ops : Array Oper} {o : Oper} {a : Act} {K : Act → World → Prop} {Q : Exit → Act → World → Prop} {E : Prop} (hgd : o.guard = none) (s x : Operand) (t : TypeId)
    (ho : o.op = .call { callee := .builtin .append, args := #[s, x], argTypes := #[t, t] })
    (base : Nat) (e : TypeId) (i : TypeInfo) (z : Value) (bytes : Nat) (ht : P.underlying t = some (.slice e)) (hi : P.info? e = some i) (hz : i.zero = some z)
    (hsize : i.size = 1) (hby : i.bytes = bytes) (hzs : z.cells.size = 1)
    (v : Value) (n : Nat) (xs : List Value) (hs : a.eval s = v) (hown : w.ownsRow base e 1 v n xs)
    (A : Option Addr) (c : Nat) (news : List Value) (m : Nat) (hx : a.eval x = .slice A m c) (hm : news.length = m) (hr : Rd w A news) (h1 : ∀ u ∈ news, u.oneCell' = true)
    (h63 : n + m ≤ maxLen) (hbytes : (n + m) * bytes ≤ 140737488355328) (hbase : base ≤ w.heap.size)
    (h : ∀ v' w', w'.ownsRow base e 1 v' (n + m) (xs ++ news) → w.grownBy w' v.ownBlock → (v'.ownBlock = v.ownBlock ∨ v'.ownBlock = some w.heap.size) → K (a.put o.dst v') w') :
    if Region.wanted o (yielded ops a.tmps) = true then Oper.wp P o a w K Q else E := by
  have hw : Region.wanted o (yielded ops a.tmps) = true := by simp [Region.wanted, hgd]
  rw [if_pos hw]
  exact wp_app_rd2 s x t ho base e i z bytes ht hi hz hsize hby hzs v n xs hs hown A c news m hx hm hr h1 h63 hbytes hbase h

/-- rows of two element types lie apart -/
theorem own_ne_ty {w : World} {b1 b2 : Nat} {e1 e2 : TypeId} {s1 s2 n m : Nat} {v u : Value} {xs ys : List Value} (h : w.ownsRow b1 e1 s1 v n xs) (k : w.ownsRow b2 e2 s2 u m ys) (hne : e1 ≠ e2) : v.ownBlock = none ∨ v.ownBlock ≠ u.ownBlock := by
  rcases h.2 with ⟨rfl, _⟩ | ⟨g, cap, cur, rfl, _, hh, _⟩
  · left; rfl
  · right
    rcases k.2 with ⟨rfl, _⟩ | ⟨g2, cap2, cur2, rfl, _, hh2, _⟩
    · simp [Value.ownBlock]
    · simp only [Value.ownBlock, ne_eq, Option.some.injEq]
      rintro rfl
      rw [hh] at hh2
      injection hh2 with hh2
      injection hh2 with _ ht
      exact hne ht

theorem own_inB {w : World} {base n cap : Nat} {e : TypeId} {A : Option Addr} {xs : List Value} (h : w.ownsRow base e 1 (.slice A n cap) n xs) {k : Nat} (hk : inB A k) : base ≤ k ∧ k < w.heap.size := by
  rcases h.2 with ⟨hv, _⟩ | ⟨g, c, cur, hv, hg, hh, _⟩
  · simp only [Value.slice.injEq] at hv
    rw [hv.1] at hk
    exact absurd hk inB_none
  · simp only [Value.slice.injEq] at hv
    rw [hv.1] at hk
    rw [inB_some hk]
    exact ⟨hg, (Array.getElem?_eq_some_iff.1 hh).1⟩

end Go.Proofs.Ytcjmngonpijeiaa
