/- clevislaw14.awake: the images of its examples, made in whatever order. -/
import Derived.Test.YtcjmngonpijeiaaStab
import Derived.Test.YtcjmngonpijeiaaMade
import Derived.Test.YtcjmngonpijeiaaAw8
import Derived.Test.YtcjmngonpijeiaaLawLook
import Derived.Deep.DeepCutAuto
namespace Go.Proofs.Ytcjmngonpijeiaa
set_option maxRecDepth 100000
open Go Go.RowKit Pl
set_option linter.unusedVariables false

def exF : Sym := symD ⟨#[102]⟩
def exG : Sym := ⟨⟨#[102]⟩, ⟨#[]⟩, false, 1, false, 1, true, 0, 0⟩

/-- an image of the example: in memory, with the table that is made -/
structure ImK (u : World) (m : Im) : Prop where
  inn : m.In u
  rows : RowsT u m.t
  bs : m.t.bs.map Bk.is = bksI m.l (cntN (seenI m.l).length) (seenI m.l)
  ws : m.t.ws = wordsI m.l (seenI m.l)
  sh : m.t.sh = 6
  sy : ∃ g cs, m.SA = some ⟨g, 0, none⟩ ∧ Blk u g 25 cs
theorem ImK.ext {u u' : World} {m : Im} (h : ImK u m) (hx : Ext u u') : ImK u' m := ⟨h.inn.ext hx, h.rows.ext hx, h.bs, h.ws, h.sh, by obtain ⟨g, cs, h1, h2⟩ := h.sy; exact ⟨g, cs, h1, hx.blk h2⟩⟩
theorem ImK.chg {S : Nat → Prop} {u u' : World} {m : Im} (h : ImK u m) (hc : Chg S u u') (hS : ∀ b, S b → ∃ cs, Blk u b 60 cs) : ImK u' m := by
  have hn : ∀ b, rowsAt m.t b → ¬ S b := fun b hb hs => by
    obtain ⟨cs, hg⟩ := hS b hs
    exact h.rows.ne hg (by decide) (by decide) (by decide) b hb rfl
  obtain ⟨g, cs, h1, h2⟩ := h.sy
  have hng : ¬ S g := fun hs => by
    obtain ⟨ds, hg⟩ := hS g hs
    unfold Blk at hg h2
    rw [h2] at hg
    injection hg with hg
    injection hg with _ hg
    exact absurd hg (by decide)
  refine ⟨⟨?_, h.inn.fit, h.inn.len, h.inn.cap, h.inn.capm, h.inn.t.chg hc hn⟩, h.rows.chg hc hn, h.bs, h.ws, h.sh, g, cs, h1, hc.blk h2 hng⟩
  intro i s hs
  obtain ⟨b, off, cs2, hA, hl, hq, hcell⟩ := h.inn.rd i s hs
  refine ⟨b, off, cs2, hA, hl, hq, fun j hj => ?_⟩
  have := hcell j hj
  rw [List.getElem?_eq_getElem (by omega)] at this ⊢
  refine hc.cell this (fun hs2 => hng ?_)
  rw [h1] at hA
  simp only [Option.some.injEq, Addr.mk.injEq] at hA
  rw [hA.1]; exact hs2

/-- what each of the region's operations yields -/
def PS (s : Sym) (v : Value) (u : World) : Prop := ∃ g, v = .slice (some ⟨g, 0, none⟩) 1 1 ∧ Blk u g 25 (Sym.vals s).toArray
def PI (s : Sym) (v : Value) (u : World) : Prop := ∃ A c t, v = .agg (imOf A c [s] t).vals.toArray ∧ ImK u (imOf A c [s] t)
def PV (w : World) (v : Value) (u : World) : Prop := ∃ b, v = .pointer (some ⟨b, 0, none⟩) ∧ Blk u b 60 im0.vals.toArray ∧ w.heap.size ≤ b
def RV (w : World) : Nat → Value → World → Prop
  | 0, v, _ => v = .agg (Sym.vals exF).toArray
  | 1, v, u => PS exF v u
  | 2, v, u => PI exF v u
  | 3, v, _ => v = .agg (Sym.vals exF).toArray
  | 4, v, u => PS exF v u
  | 5, v, u => PI exF v u
  | 6, v, _ => v = .agg (Sym.vals exG).toArray
  | 7, v, u => PS exG v u
  | 8, v, u => PI exG v u
  | 9, v, u => PV w v u
  | 10, v, u => PV w v u
  | 11, v, u => PV w v u
  | _, _, _ => True
theorem PS.ext {s : Sym} {v : Value} {u u' : World} (h : PS s v u) (hx : Ext u u') : PS s v u' := by obtain ⟨g, h1, h2⟩ := h; exact ⟨g, h1, hx.blk h2⟩
theorem PI.ext {s : Sym} {v : Value} {u u' : World} (h : PI s v u) (hx : Ext u u') : PI s v u' := by obtain ⟨A, c, t, h1, h2⟩ := h; exact ⟨A, c, t, h1, h2.ext hx⟩
theorem PV.ext {w : World} {v : Value} {u u' : World} (h : PV w v u) (hx : Ext u u') : PV w v u' := by obtain ⟨g, h1, h2, h3⟩ := h; exact ⟨g, h1, hx.blk h2, h3⟩
theorem RV.ext {w : World} {u u' : World} (hx : Ext u u') : ∀ {i : Nat} {v : Value}, RV w i v u → RV w i v u'
  | 0, _, h => h
  | 1, _, h => PS.ext h hx
  | 2, _, h => PI.ext h hx
  | 3, _, h => h
  | 4, _, h => PS.ext h hx
  | 5, _, h => PI.ext h hx
  | 6, _, h => h
  | 7, _, h => PS.ext h hx
  | 8, _, h => PI.ext h hx
  | 9, _, h => PV.ext h hx
  | 10, _, h => PV.ext h hx
  | 11, _, h => PV.ext h hx
  | _ + 12, _, _ => trivial

/-- the slots of the region -/
def chain (a : Act) (V : Nat → Value) : Act :=
  (((((((((((a.put (some 17) (V 0)).put (some 18) (V 1)).put (some 19) (V 2)).put (some 20) (V 3)).put (some 21) (V 4)).put (some 22) (V 5)).put (some 23) (V 6)).put (some 24) (V 7)).put (some 25) (V 8)).put (some 3) (V 9)).put (some 4) (V 10)).put (some 5) (V 11)
def upd (V : Nat → Value) (i : Nat) (v : Value) : Nat → Value := fun j => if j = i then v else V j
/-- what holds, whichever operations are done -/
structure JV (a0 : Act) (w : World) (done : Nat → Bool) (a : Act) (u : World) (V : Nat → Value) : Prop where
  act : a = chain a0 V
  x : Ext w u
  r : ∀ i, done i = true → RV w i (V i) u
  d : ∀ i j, 9 ≤ i → 9 ≤ j → i < 12 → j < 12 → i ≠ j → done i = true → done j = true → V i ≠ V j
def JJ (a0 : Act) (w : World) (done : Nat → Bool) (a : Act) (u : World) : Prop := ∃ V, JV a0 w done a u V

theorem JV.step {a0 : Act} {w : World} {done : Nat → Bool} {a : Act} {u : World} {V : Nat → Value} (h : JV a0 w done a u V) {i : Nat} {v : Value} {u' : World} {a' : Act} (ha : a' = chain a0 (upd V i v)) (hx : Ext u u') (hr : RV w i v u')
    (hd : 9 ≤ i → i < 12 → ∀ j, 9 ≤ j → j < 12 → j ≠ i → done j = true → V j ≠ v) : JJ a0 w (fun j => if j = i then true else done j) a' u' := by
  refine ⟨upd V i v, ha, h.x.trans hx, ?_, ?_⟩
  · intro j hj
    unfold upd
    by_cases e : j = i
    · rw [if_pos e, e]; exact hr
    · rw [if_neg e]
      rw [if_neg e] at hj
      exact RV.ext hx (h.r j hj)
  · intro j k h1 h2 h3 h4 hne hj hk
    unfold upd
    by_cases e : j = i
    · by_cases e2 : k = i
      · omega
      · rw [if_pos e, if_neg e2]
        rw [if_neg e2] at hk
        exact fun e3 => hd (by omega) (by omega) k h2 h4 e2 hk e3.symm
    · rw [if_neg e]
      rw [if_neg e] at hj
      by_cases e2 : k = i
      · rw [if_pos e2]
        exact hd (by omega) (by omega) j h1 h3 e hj
      · rw [if_neg e2]
        rw [if_neg e2] at hk
        exact h.d j k h1 h2 h3 h4 hne hj hk

/-- a fresh variable is another one than those that were there -/
theorem JV.fresh {a0 : Act} {w : World} {done : Nat → Bool} {a : Act} {u : World} {V : Nat → Value} (h : JV a0 w done a u V) {j : Nat} (h1 : 9 ≤ j) (h2 : j < 12) (hj : done j = true) : V j ≠ .pointer (some ⟨u.heap.size, 0, none⟩) := by
  have hr := h.r j hj
  have hp : PV w (V j) u := by
    rcases (by omega : j = 9 ∨ j = 10 ∨ j = 11) with rfl | rfl | rfl <;> exact hr
  obtain ⟨b, e, hb, _⟩ := hp
  rw [e]
  intro e2
  simp only [Value.pointer.injEq, Option.some.injEq, Addr.mk.injEq, and_true] at e2
  have := hb.lt
  omega

end Go.Proofs.Ytcjmngonpijeiaa
