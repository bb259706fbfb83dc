/- clevisref08.Copied: a table of the call's own, the same as the one that is given. -/
import Derived.Test.YtcjmngonpijeiaaBuck
import Derived.Test.YtcjmngonpijeiaaFind
import Derived.Test.YtcjmngonpijeiaaSieve8
namespace Go.Proofs.Ytcjmngonpijeiaa
set_option maxRecDepth 100000
open Go.RowKit Pl
set_option linter.unusedVariables false

theorem ext_none {w w' : World} (h : w.grownBy w' none) : Ext w w' := (Chg.grown h).ext (Ext.refl w) (fun k hk => by cases hk)

/-- the state of the copying -/
structure CpS (w0 w : World) (v : Value) (bs : List Bk) (W : Value) (ws : List Nat) (sh : Int) (a r o : Nat) (ca : Array Value) : Prop where
  row : w.ownsRow w0.heap.size 30 1 v bs.length (bs.map Bk.cell)
  each : ∀ k ∈ bs, w.ownsRow w0.heap.size 3 1 k.cell k.is.length (ints k.is)
  f : w.ownsRow w0.heap.size 82 1 W ws.length (u64s ws)
  ka : Blk w a 55 ca
  kr : Blk w r 55 #[.slice none 0 0, .slice none 0 0, .int .i64 0]
  ko : ∃ W1 W2, W = .slice W1 ws.length W2 ∧ Blk w o 55 #[v, .slice W1 ws.length W2, .int .i64 sh]
  hr : w0.heap.size ≤ r
  ho : w0.heap.size ≤ o
  nao : a ≠ o
  nro : r ≠ o
  x : Ext w0 w

theorem CpS.ex {w0 w w' : World} {v : Value} {bs : List Bk} {W : Value} {ws : List Nat} {sh : Int} {a r o : Nat} {ca : Array Value} (s : CpS w0 w v bs W ws sh a r o ca) (hx : Ext w w') : CpS w0 w' v bs W ws sh a r o ca :=
  ⟨hx.own s.row, fun k hk => hx.own (s.each k hk), hx.own s.f, hx.blk s.ka, hx.blk s.kr, by obtain ⟨A, c, h1, h2⟩ := s.ko; exact ⟨A, c, h1, hx.blk h2⟩, s.hr, s.ho, s.nao, s.nro, s.x.trans hx⟩

theorem CpS.snoc {w0 w w1 w2 w3 : World} {v v' : Value} {bs : List Bk} {W : Value} {ws : List Nat} {sh : Int} {a r o : Nat} {ca : Array Value} (s : CpS w0 w v bs W ws sh a r o ca) (k' : Bk)
    (o1 : w1.ownsRow w0.heap.size 3 1 k'.cell k'.is.length (ints k'.is)) (g1 : w.grownBy w1 none) (hx : Ext w1 w2)
    (o3 : w3.ownsRow w0.heap.size 30 1 v' (bs.length + 1) (bs.map Bk.cell ++ [k'.cell])) (g3 : w2.grownBy w3 v.ownBlock) :
    w3.frozen? ⟨o, 0, none⟩ = false ∧ w3.cell? ⟨o, 0, none⟩ = some v ∧ CpS w0 (w3.setCell ⟨o, 0, none⟩ v') v' (bs ++ [k']) W ws sh a r o ca := by
  have s2 := s.ex ((ext_none g1).trans hx)
  have o2 := hx.own o1
  obtain ⟨W1, W2, rfl, ko⟩ := s2.ko
  have nt : ∀ {b : Nat} {cs : Array Value}, Blk w2 b 55 cs → Blk w3 b 55 cs := fun hb => hb.grown g3 (own_neT s2.row hb (by decide))
  have ko3 := nt ko
  have x3 : Ext w0 w3 := (Chg.grown g3).ext s2.x (fun b hb => (s2.row.lt b hb.symm).1)
  refine ⟨ko3.frozen 0, ko3.cell 0 rfl, ?_, ?_, ?_, ?_, ?_, ?_, s.hr, s.ho, s.nao, s.nro, ?_⟩
  · rw [List.length_append, List.map_append]
    exact own_farB o3 ko3 (by decide) v'
  · intro k hk
    rcases List.mem_append.1 hk with hk | hk
    · exact own_farB ((s2.each k hk).kept g3 (own_ne_ty (s2.each k hk) s2.row (by decide))) ko3 (by decide) v'
    · rw [List.mem_singleton.1 hk]
      exact own_farB (o2.kept g3 (own_ne_ty o2 s2.row (by decide))) ko3 (by decide) v'
  · exact own_farB (s2.f.kept g3 (own_ne_ty s2.f s2.row (by decide))) ko3 (by decide) v'
  · exact (nt s2.ka).far (p := ⟨o, 0, none⟩) s.nao v'
  · exact (nt s2.kr).far (p := ⟨o, 0, none⟩) s.nro v'
  · exact ⟨W1, W2, rfl, ko3.set 0 v'⟩
  · exact Ext.of (x3.below.setCell s.ho v')

/-- what Copied answers -/
def CpP (t : Tb) (w : World) (e : Ending) (w' : World) : Prop :=
  ∃ u : Tb, e = .returned (.agg u.vals.toArray) ∧ t.bs.map Bk.is = u.bs.map Bk.is ∧ t.ws = u.ws ∧ t.sh = u.sh ∧ u.In w' ∧ Ext w w'

end Go.Proofs.Ytcjmngonpijeiaa
