/- Words for a writer in memory: what it holds, and what a call of it may change. -/
import Derived.Test.YtjgghahjcmdnmaaOpn
import Derived.Test.YtjgghahjcmdnmaaApp2
import Derived.Test.YtjgghahjcmdnmaaCurP
namespace Go.Proofs.Ytjgghahjcmdnmaa
open Go.RowKit Pl
set_option linter.unusedVariables false

/-- but for the blocks in S nothing that was there has turned -/
structure Chg (S : Nat → Prop) (w w' : World) : Prop where
  os : w'.os = w.os
  tape : w'.tape = w.tape
  output : w'.output = w.output
  size : w.heap.size ≤ w'.heap.size
  block : ∀ k, k < w.heap.size → ¬ S k → w'.heap[k]? = w.heap[k]?

theorem Chg.refl (S : Nat → Prop) (w : World) : Chg S w w := ⟨rfl, rfl, rfl, Nat.le_refl _, fun _ _ _ => rfl⟩
theorem Chg.trans {S S' : Nat → Prop} {a b c : World} (h : Chg S a b) (k : Chg S' b c) (hs : ∀ i, S' i → S i ∨ a.heap.size ≤ i) : Chg S a c :=
  ⟨k.os.trans h.os, k.tape.trans h.tape, k.output.trans h.output, Nat.le_trans h.size k.size, fun i hi hn => by
    rw [k.block i (Nat.lt_of_lt_of_le hi h.size) (fun hs' => by rcases hs i hs' with h1 | h1; exact hn h1; omega)]
    exact h.block i hi hn⟩
theorem Chg.of_ext {S : Nat → Prop} {a b : World} (h : Ext a b) : Chg S a b := ⟨h.below.os, h.below.tape, h.below.output, h.size, fun k hk _ => h.below.block k hk⟩
theorem Chg.ext {S : Nat → Prop} {w0 a b : World} (h : Chg S a b) (h0 : Ext w0 a) (hs : ∀ k, S k → w0.heap.size ≤ k) : Ext w0 b :=
  Ext.of ⟨h.os.trans h0.below.os, h.tape.trans h0.below.tape, h.output.trans h0.below.output, Nat.le_trans h0.size h.size, fun i hi => by
    rw [h.block i (Nat.lt_of_lt_of_le hi h0.size) (fun hS => by have := hs i hS; omega)]
    exact h0.below.block i hi⟩
theorem Chg.blk {S : Nat → Prop} {w w' : World} (h : Chg S w w') {g : Nat} {t : TypeId} {cs : Array Value} (hb : Blk w g t cs) (hn : ¬ S g) : Blk w' g t cs := (h.block g hb.lt hn).trans hb
theorem Chg.cell {S : Nat → Prop} {w w' : World} (h : Chg S w w') {b o : Nat} {v : Value} (hc : w.cell? ⟨b, o, none⟩ = some v) (hn : ¬ S b) : w'.cell? ⟨b, o, none⟩ = some v :=
  (World.cell?_of_block (w := w) (a := ⟨b, o, none⟩) (h.block b (World.block_lt_of_cell? w ⟨b, o, none⟩ hc) hn)).trans hc
theorem Chg.rd {S : Nat → Prop} {w w' : World} (h : Chg S w w') {A : Option Addr} {xs : List Value} (hr : Rd w A xs) (hn : ∀ b o, A = some ⟨b, o, none⟩ → ¬ S b) : Rd w' A xs := by
  intro i hi
  obtain ⟨b, off, hA, hc⟩ := hr i hi
  exact ⟨b, off, hA, h.cell hc (hn b off hA)⟩
theorem Chg.rdp {S : Nat → Prop} {w w' : World} (h : Chg S w w') {A : Option Addr} {xs : List Value} (hr : Rd w A xs) (hn : ∀ b o, A = some ⟨b, o, none⟩ → 0 < xs.length → ¬ S b) : Rd w' A xs := by
  intro i hi
  obtain ⟨b, off, hA, hc⟩ := hr i hi
  exact ⟨b, off, hA, h.cell hc (hn b off hA (by omega))⟩
/-- what came in lies apart from what the call made -/
theorem Rd.apart {S : Nat → Prop} {w : World} {A : Option Addr} {xs : List Value} (h : Rd w A xs) (hf : ∀ k, S k → w.heap.size ≤ k) : ∀ b o, A = some ⟨b, o, none⟩ → 0 < xs.length → ¬ S b := by
  intro b o e hl hs
  obtain ⟨b', o', hA, hc⟩ := h 0 hl
  rw [e] at hA
  simp only [Option.some.injEq, Addr.mk.injEq] at hA
  have := hf b hs
  have := cell_lt hc
  omega
theorem Chg.own {S : Nat → Prop} {w w' : World} (h : Chg S w w') {base : Nat} {e : TypeId} {size n : Nat} {v : Value} {xs : List Value} (ho : w.ownsRow base e size v n xs) (hn : ∀ k, v.ownBlock = some k → ¬ S k) : w'.ownsRow base e size v n xs := by
  refine ⟨ho.1, ?_⟩
  rcases ho.2 with hv | ⟨g, cap, cur, rfl, hg, hh, rest⟩
  · exact .inl hv
  · exact .inr ⟨g, cap, cur, rfl, hg, (h.block g (Array.getElem?_eq_some_iff.1 hh).1 (hn g rfl)).trans hh, rest⟩
theorem Chg.grown {w w' : World} {row : Option Nat} (hg : w.grownBy w' row) : Chg (fun k => some k = row) w w' := ⟨hg.os, hg.tape, hg.output, hg.size, hg.block⟩
theorem Chg.set (w : World) (g i : Nat) (u : Value) : Chg (fun k => k = g) w (w.setCell ⟨g, i, none⟩ u) := ⟨rfl, rfl, rfl, by simp, fun k _ hn => Below.heap_setCell _ _ _ _ hn⟩
theorem Chg.mono {S S' : Nat → Prop} {w w' : World} (h : Chg S w w') (hs : ∀ k, S k → S' k) : Chg S' w w' := ⟨h.os, h.tape, h.output, h.size, fun k hk hn => h.block k hk (fun hS => hn (hs k hS))⟩

/-- the blocks of a writer -/
def ftp (p : Nat) (v : Value) (k : Nat) : Prop := k = p ∨ v.ownBlock = some k

/-- a writer at block p: its first error, its bytes; v: the slice that holds them -/
structure Wst (w : World) (p : Nat) (st : WS) (v : Value) : Prop where
  blk : Blk w p 71 #[.int .i64 st.1, v]
  own : w.ownsRow 0 5 1 v st.2.length (u8s st.2)

theorem Wst.form {w : World} {p : Nat} {st : WS} {v : Value} (h : Wst w p st v) : ∃ A c, v = .slice A st.2.length c := by
  rcases h.own.2 with ⟨rfl, h0⟩ | ⟨g, cap, cur, rfl, _⟩
  · exact ⟨_, _, by rw [h0]⟩
  · exact ⟨_, _, rfl⟩

theorem Wst.keep {S : Nat → Prop} {w w' : World} {p : Nat} {st : WS} {v : Value} (h : Wst w p st v) (hc : Chg S w w') (hn : ∀ k, ftp p v k → ¬ S k) : Wst w' p st v :=
  ⟨hc.blk h.blk (hn p (.inl rfl)), hc.own h.own (fun k hk => hn k (.inr hk))⟩

theorem Wst.ext {w w' : World} {p : Nat} {st : WS} {v : Value} (h : Wst w p st v) (hx : Ext w w') : Wst w' p st v := ⟨hx.blk h.blk, hx.own h.own⟩

theorem Wst.ne {w : World} {p : Nat} {st : WS} {v : Value} (h : Wst w p st v) : v.ownBlock ≠ some p := by
  rcases h.own.2 with ⟨rfl, _⟩ | ⟨g, cap, cur, rfl, _, hh, _⟩
  · simp [Value.ownBlock]
  · simp only [Value.ownBlock, ne_eq, Option.some.injEq]
    rintro rfl
    have := h.blk
    unfold Blk at this
    rw [hh] at this
    injection this with this
    injection this with _ ht
    exact absurd ht (by decide)

theorem Wst.lt {w : World} {p : Nat} {st : WS} {v : Value} (h : Wst w p st v) : ∀ k, ftp p v k → k < w.heap.size := by
  rintro k (rfl | hk)
  · exact h.blk.lt
  · exact (h.own.lt k hk).2

/-- from one writer's state to another: a call's whole effect -/
structure Wto (p : Nat) (w : World) (v : Value) (w' : World) (st' : WS) (v' : Value) : Prop where
  st : Wst w' p st' v'
  foot : ∀ k, v'.ownBlock = some k → v.ownBlock = some k ∨ w.heap.size ≤ k
  chg : Chg (ftp p v) w w'

theorem Wto.refl {p : Nat} {w : World} {v : Value} {st : WS} (h : Wst w p st v) : Wto p w v w st v := ⟨h, fun _ h => .inl h, Chg.refl _ _⟩

theorem Wto.trans {p : Nat} {a b c : World} {va vb vc : Value} {s1 s2 : WS} (h : Wto p a va b s1 vb) (k : Wto p b vb c s2 vc) : Wto p a va c s2 vc := by
  refine ⟨k.st, fun i hi => ?_, h.chg.trans k.chg (fun i hi => ?_)⟩
  · rcases k.foot i hi with h1 | h1
    · exact h.foot i h1
    · exact .inr (Nat.le_trans h.chg.size h1)
  · rcases hi with rfl | hi
    · exact .inl (.inl rfl)
    · rcases h.foot i hi with h1 | h1
      · exact .inl (.inr h1)
      · exact .inr h1

/-- new blocks beside it -/
theorem Wto.ext {p : Nat} {a b c : World} {va vb : Value} {s1 : WS} (h : Wto p a va b s1 vb) (hx : Ext b c) : Wto p a va c s1 vb :=
  h.trans ⟨h.st.ext hx, fun _ h => .inl h, Chg.of_ext hx⟩

theorem u8s_length (bs : List UInt8) : (u8s bs).length = bs.length := by simp [u8s]
theorem u8s_append (a b : List UInt8) : u8s (a ++ b) = u8s a ++ u8s b := by simp [u8s]
theorem u8s_one (ws : List UInt8) : ∀ u ∈ u8s ws, u.oneCell' = true := by
  intro u hu
  obtain ⟨_, _, rfl⟩ := List.mem_map.1 hu
  rfl

/-- bytes appended, and the field stored -/
theorem Wst.app {p : Nat} {w w1 w2 : World} {E : Int} {T X : List UInt8} {v v' : Value} (h : Wst w p (E, T) v) (hx : Ext w w1) (n : Nat) (hn : n = T.length + X.length)
    (ho : w2.ownsRow 0 5 1 v' n (u8s T ++ u8s X)) (hg : w1.grownBy w2 v.ownBlock) (ha : v'.ownBlock = v.ownBlock ∨ v'.ownBlock = some w1.heap.size) :
    Wto p w v (w2.setCell ⟨p, 1, none⟩ v') (E, T ++ X) v' := by
  subst hn
  have b2 : Blk w2 p 71 #[.int .i64 E, v] := (hx.blk h.blk).grown hg (fun e => h.ne e.symm)
  refine ⟨⟨b2.set 1 v', ?_⟩, fun k hk => ?_, ?_⟩
  · have := own_farB ho b2 (by decide) (i := 1) v'
    simpa [u8s_append] using this
  · rcases ha with ha | ha
    · exact .inl (ha ▸ hk)
    · rw [ha] at hk
      injection hk with hk
      subst hk
      exact .inr hx.size
  · refine (Chg.of_ext hx).trans (((Chg.grown hg).mono (S' := ftp p v) (fun k hk => .inr hk.symm)).trans ((Chg.set w2 p 1 v').mono (S' := ftp p v) (fun k hk => .inl hk)) (fun i hi => .inl hi)) (fun i hi => .inl hi)

theorem own_slice {w : World} {base : Nat} {e : TypeId} {size n : Nat} {v : Value} {xs : List Value} (h : w.ownsRow base e size v n xs) : ∃ A c, v = .slice A n c := by
  rcases h.2 with ⟨rfl, rfl⟩ | ⟨g, cap, cur, rfl, _⟩
  · exact ⟨none, 0, rfl⟩
  · exact ⟨_, _, rfl⟩

/-- the writer's field, over an append -/
theorem Wst.field {p : Nat} {w w1 w2 : World} {st : WS} {v : Value} (h : Wst w p st v) (hx : Ext w w1) (hg : w1.grownBy w2 v.ownBlock) : w2.cell? ⟨p, 1, none⟩ = some v ∧ w2.frozen? ⟨p, 1, none⟩ = false := by
  have b2 : Blk w2 p 71 #[.int .i64 st.1, v] := (hx.blk h.blk).grown hg (fun e => h.ne e.symm)
  exact ⟨b2.cell 1 rfl, b2.frozen 1⟩

theorem Rd.one (w : World) (u : Value) (t : TypeId) : Rd (w.alloc (.cells #[u] t)).drew (some ⟨w.heap.size, 0, none⟩) [u] := by
  intro i hi
  have : i = 0 := by simpa using hi
  subst this
  exact ⟨w.heap.size, 0, rfl, cnew w #[u] t 0 rfl⟩

theorem info_u8 : (Try.prog.info? 5).map (fun i => (i.zero, i.size, i.bytes)) = some (some (.int .u8 0), 1, 1) := by kernel_rfl

end Go.Proofs.Ytjgghahjcmdnmaa
