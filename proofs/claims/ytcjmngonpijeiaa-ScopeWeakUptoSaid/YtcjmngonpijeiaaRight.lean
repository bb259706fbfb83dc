/- table.Right: whether a table is right. -/
import Derived.Test.YtcjmngonpijeiaaFind
import Derived.Test.YtcjmngonpijeiaaMk2
import Derived.Test.YtcjmngonpijeiaaExtR
namespace Go.Proofs.Ytcjmngonpijeiaa
set_option maxRecDepth 100000
open Go.RowKit Pl
set_option linter.unusedVariables false

/-- may a place stand in a bucket, behind another one -/
def okI (n : Nat) (ws : List Nat) (sh : Int) (l : List Sym) (b : Nat) (last i : Int) : Bool :=
  decide (last < i) && decide (i < l.length) && seenB (l.getD i.toNat sym0) && decide (hashN (l.getD i.toNat sym0).name % n = b) && !lackT ws sh (hashN (l.getD i.toNat sym0).name)
def chainB (n : Nat) (ws : List Nat) (sh : Int) (l : List Sym) (b : Nat) : Int → List Int → Bool
  | _, [] => true
  | last, i :: r => okI n ws sh l b last i && chainB n ws sh l b i r
def allB (n : Nat) (ws : List Nat) (sh : Int) (l : List Sym) : Nat → List Bk → Bool
  | _, [] => true
  | b, k :: r => chainB n ws sh l b (-1) k.is && allB n ws sh l (b + 1) r
def total (bs : List Bk) : Nat := (bs.map fun k => k.is.length).sum
/-- is a table right for symbols -/
def rightT (t : Tb) (l : List Sym) : Bool :=
  decide (l.length ≤ 512) && decide (1 ≤ t.bs.length) && decide (t.bs.length ≤ 512) && rightB t.ws.length t.sh && allB t.bs.length t.ws t.sh l 0 t.bs && decide (total t.bs = (seenI l).length)

theorem total_take (bs : List Bk) {b : Nat} (h : b < bs.length) : total (bs.take (b + 1)) = total (bs.take b) + (bs.getD b bk0).is.length := by
  unfold total
  rw [List.take_succ_eq_append_getElem h, List.map_append, List.sum_append, List.getD_eq_getElem?_getD, List.getElem?_eq_getElem h]
  simp
theorem total_le (bs : List Bk) (h : ∀ k ∈ bs, k.is.length ≤ 17592186044416) (b : Nat) : total (bs.take b) ≤ b * 17592186044416 := by
  induction b with
  | zero => simp [total]
  | succ b ih =>
    rcases Nat.lt_or_ge b bs.length with hb | hb
    · rw [total_take bs hb, Nat.succ_mul]
      have e : bs.getD b bk0 = bs[b] := by rw [List.getD_eq_getElem?_getD, List.getElem?_eq_getElem hb]; rfl
      have := h _ (List.getElem_mem hb)
      rw [← e] at this
      exact Nat.add_le_add ih this
    · rw [List.take_of_length_le (by omega)]
      rw [List.take_of_length_le hb] at ih
      exact Nat.le_trans ih (Nat.mul_le_mul_right _ (Nat.le_succ b))

theorem dropB (bs : List Bk) {b : Nat} (h : b < bs.length) : bs.drop b = bs.getD b bk0 :: bs.drop (b + 1) := by
  rw [List.getD_eq_getElem?_getD, List.getElem?_eq_getElem h]
  exact List.drop_eq_getElem_cons h

theorem chain_step (n : Nat) (ws : List Nat) (sh : Int) (l : List Sym) (b : Nat) (la x : Int) (is : List Int) (k : Nat) (q : Bool) (h : q = chainB n ws sh l b la (is.drop k)) (hd : is.drop k = x :: is.drop (k + 1)) :
    (okI n ws sh l b la x = false → q = false) ∧ (okI n ws sh l b la x = true → q = chainB n ws sh l b x (is.drop (k + 1))) := by
  rw [h, hd]
  constructor
  · intro e; simp only [chainB]; rw [e]; rfl
  · intro e; simp only [chainB]; rw [e]; rfl

/-- what a region keeps: a table's three cells, a symbol's nine, and all that was there -/
theorem twelve_next {W0 w w' : World} {a b o : Nat} {u0 u1 u2 : Value} {s : Sym} (h : Hid (Ext W0 w) ∧ w.cell? ⟨a, 0, none⟩ = some u0 ∧ w.cell? ⟨a, 1, none⟩ = some u1 ∧ w.cell? ⟨a, 2, none⟩ = some u2 ∧
      w.cell? ⟨b, o, none⟩ = some (.string s.name) ∧ w.cell? ⟨b, o + 1, none⟩ = some (.string s.ver) ∧ w.cell? ⟨b, o + 2, none⟩ = some (.bool s.old) ∧ w.cell? ⟨b, o + 3, none⟩ = some (.int .i64 s.kind) ∧
      w.cell? ⟨b, o + 4, none⟩ = some (.bool s.weak) ∧ w.cell? ⟨b, o + 5, none⟩ = some (.int .i64 s.vis) ∧ w.cell? ⟨b, o + 6, none⟩ = some (.bool s.defd) ∧ w.cell? ⟨b, o + 7, none⟩ = some (.int .i64 s.val) ∧ w.cell? ⟨b, o + 8, none⟩ = some (.int .i64 s.size)) (hb : Ext w w') :
    Hid (Ext W0 w') ∧ w'.cell? ⟨a, 0, none⟩ = some u0 ∧ w'.cell? ⟨a, 1, none⟩ = some u1 ∧ w'.cell? ⟨a, 2, none⟩ = some u2 ∧
      w'.cell? ⟨b, o, none⟩ = some (.string s.name) ∧ w'.cell? ⟨b, o + 1, none⟩ = some (.string s.ver) ∧ w'.cell? ⟨b, o + 2, none⟩ = some (.bool s.old) ∧ w'.cell? ⟨b, o + 3, none⟩ = some (.int .i64 s.kind) ∧
      w'.cell? ⟨b, o + 4, none⟩ = some (.bool s.weak) ∧ w'.cell? ⟨b, o + 5, none⟩ = some (.int .i64 s.vis) ∧ w'.cell? ⟨b, o + 6, none⟩ = some (.bool s.defd) ∧ w'.cell? ⟨b, o + 7, none⟩ = some (.int .i64 s.val) ∧ w'.cell? ⟨b, o + 8, none⟩ = some (.int .i64 s.size) := by
  obtain ⟨h0, h1, h2, h3, h4, h5, h6, h7, h8, h9, h10, h11, h12⟩ := h
  exact ⟨Lib.hid (h0.out.trans hb), hb.cell h1, hb.cell h2, hb.cell h3, hb.cell h4, hb.cell h5, hb.cell h6, hb.cell h7, hb.cell h8, hb.cell h9, hb.cell h10, hb.cell h11, hb.cell h12⟩

/-- Right's answer -/
def RtP (t : Tb) (l : List Sym) (w : World) (e : Ending) (w' : World) : Prop := e = .returned (.int .i64 (if rightT t l then 0 else 80)) ∧ Ext w w'

theorem RtP.no {t : Tb} {l : List Sym} {w w' : World} (h : rightT t l = false) (hx : Ext w w') : RtP t l w (.returned (.int .i64 80)) w' := ⟨by rw [h]; rfl, hx⟩

end Go.Proofs.Ytcjmngonpijeiaa
