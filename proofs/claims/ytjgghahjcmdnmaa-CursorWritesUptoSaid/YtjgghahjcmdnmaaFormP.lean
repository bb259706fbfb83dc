/- Plain facts: what is taken without a fault, put again, stands as it stood. -/
import Derived.Test.YtjgghahjcmdnmaaSameP
namespace Go.Proofs.Ytjgghahjcmdnmaa
open Go.RowKit Pl
set_option linter.unusedVariables false

theorem leNat_inj : ∀ a b : List UInt8, a.length = b.length → leNat a = leNat b → a = b
  | [], [], _, _ => rfl
  | [], _ :: _, h, _ => by simp at h
  | _ :: _, [], h, _ => by simp at h
  | x :: a, y :: b, h, e => by
    have hx : x.toNat < 256 := x.toNat_lt
    have hy : y.toNat < 256 := y.toNat_lt
    simp only [leNat] at e
    have h1 : x.toNat = y.toNat := by omega
    have h2 : leNat a = leNat b := by omega
    rw [UInt8.toNat_inj.1 h1, leNat_inj a b (by simpa using h) h2]

theorem i64_bounds (n : Nat) : -9223372036854775808 ≤ i64 n ∧ i64 n ≤ 9223372036854775807 := by
  unfold i64
  rw [IntKind.wrap_i64]
  omega

theorem digs_leNat (z : Nat) (l : List UInt8) (hl : l.length = z) (hs : sizedB z = true) : digs z (i64 (leNat l)) = l ∧ fitsB (i64 (leNat l)) z = true := by
  have h0 := leNat_lt l
  have h1 := leNat_digs z (i64 (leNat l))
  rw [hl] at h0
  rcases sizedB_cases hs with h | h | h | h
  · obtain rfl : z = 1 := by omega
    rw [show (2 : Nat) ^ (8 * 1) = 256 from rfl] at h0
    rw [show (2 : Int) ^ (8 * 1) = 256 from rfl] at h1
    have e : i64 (leNat l) = (leNat l : Int) := by unfold i64; rw [IntKind.wrap_i64]; omega
    rw [e] at h1 ⊢
    exact ⟨leNat_inj _ _ (by rw [digs_length, hl]) (by omega), by simp [fitsB]; omega⟩
  · obtain rfl : z = 2 := by omega
    rw [show (2 : Nat) ^ (8 * 2) = 65536 from rfl] at h0
    rw [show (2 : Int) ^ (8 * 2) = 65536 from rfl] at h1
    have e : i64 (leNat l) = (leNat l : Int) := by unfold i64; rw [IntKind.wrap_i64]; omega
    rw [e] at h1 ⊢
    exact ⟨leNat_inj _ _ (by rw [digs_length, hl]) (by omega), by simp [fitsB]; omega⟩
  · obtain rfl : z = 4 := by omega
    rw [show (2 : Nat) ^ (8 * 4) = 4294967296 from rfl] at h0
    rw [show (2 : Int) ^ (8 * 4) = 4294967296 from rfl] at h1
    have e : i64 (leNat l) = (leNat l : Int) := by unfold i64; rw [IntKind.wrap_i64]; omega
    rw [e] at h1 ⊢
    exact ⟨leNat_inj _ _ (by rw [digs_length, hl]) (by omega), by simp [fitsB]; omega⟩
  · obtain rfl : z = 8 := by omega
    rw [show (2 : Nat) ^ (8 * 8) = 18446744073709551616 from rfl] at h0
    rw [show (2 : Int) ^ (8 * 8) = 18446744073709551616 from rfl] at h1
    have e : i64 (leNat l) % 18446744073709551616 = (leNat l : Int) := by unfold i64; rw [IntKind.wrap_i64]; omega
    rw [e] at h1
    exact ⟨leNat_inj _ _ (by rw [digs_length, hl]) (by omega), by simp [fitsB]⟩

theorem rcut_form (E : Int) (R : List UInt8) (n : Nat) :
    (E = 0 ∧ n ≤ R.length ∧ rcut (E, R) n = (R.take n, (0, R.drop n))) ∨ ((rcut (E, R) n).1 = [] ∧ (rcut (E, R) n).2.1 ≠ 0 ∧ (rcut (E, R) n).2.2 = R) := by
  by_cases hE : E = 0
  · subst hE
    by_cases hn : n ≤ R.length
    · exact .inl ⟨rfl, hn, by simp [rcut, hn]⟩
    · exact .inr (by simp [rcut, hn])
  · exact .inr (by simp [rcut, hE])

/-- a number that is taken -/
def NumTook (size E : Int) (R : List UInt8) (q : Int × WS) : Prop :=
  (∃ R', q.2 = (0, R') ∧ E = 0 ∧ sizedB size = true ∧ fitsB q.1 size = true ∧ R = digs size.toNat q.1 ++ R') ∨ (q.2.1 ≠ 0 ∧ q.2.2 = R)

theorem wfail_ne (st : WS) (e : Int) (he : e ≠ 0) : (wfail st e).1 ≠ 0 ∧ (wfail st e).2 = st.2 := by
  unfold wfail
  split
  · exact ⟨he, rfl⟩
  · exact ⟨‹_›, rfl⟩

theorem rnum_form (size E : Int) (R : List UInt8) : NumTook size E R (rnum size (E, R)) := by
  unfold NumTook rnum
  cases hs : sizedB size
  · right
    exact wfail_ne _ 1 (by decide)
  · have hz : 0 ≤ size := by have := sizedB_cases hs; omega
    obtain ⟨z, rfl⟩ := Int.eq_ofNat_of_zero_le hz
    rw [Int.toNat_natCast]
    simp only [if_true]
    rcases rcut_form E R z with ⟨hE, hl, e⟩ | ⟨e1, e2, e3⟩
    · left
      rw [e]
      obtain ⟨h1, h2⟩ := digs_leNat z (R.take z) (by rw [List.length_take]; omega) hs
      exact ⟨_, rfl, hE, trivial, h2, by simp only [h1, List.take_append_drop]⟩
    · exact .inr ⟨e2, e3⟩

/-- a part that is taken -/
def PartTook (z most : Nat) (E : Int) (R : List UInt8) (q : List UInt8 × WS) : Prop :=
  (∃ R', q.2 = (0, R') ∧ E = 0 ∧ q.1.length ≤ most ∧ R = digs z q.1.length ++ q.1 ++ R') ∨ (q.2.1 ≠ 0 ∧ q.2.2 = R)

theorem rpart_form (z most : Nat) (hz : (z : Int) = 2 ∨ (z : Int) = 4) (E : Int) (R : List UInt8) : PartTook z most E R (rpart z most (E, R)) := by
  have hn0 := rnum_small z (E, R) hz
  have hq := rnum_form z E R
  unfold PartTook rpart
  generalize rnum z (E, R) = q at *
  obtain ⟨n, s⟩ := q
  simp only [NumTook] at hn0 hq ⊢
  have stuck : ∀ s2 : WS, s2.1 ≠ 0 → (rcut s2 n.toNat).2.1 ≠ 0 := fun s2 h => by rw [rcut_stuck _ _ h]; exact h
  rcases hq with ⟨R', rfl, rfl, hs, hf, hR⟩ | ⟨h1, h2⟩
  · by_cases hm : n ≤ (most : Int)
    · rw [if_pos hm]
      rcases rcut_form 0 R' n.toNat with ⟨_, hl, e⟩ | ⟨e1, e2, e3⟩
      · left
        rw [e, if_pos rfl]
        have hlen : (R'.take n.toNat).length = n.toNat := by rw [List.length_take]; omega
        refine ⟨_, rfl, rfl, by show (R'.take n.toNat).length ≤ most; omega, ?_⟩
        rw [hlen, Int.toNat_of_nonneg hn0.1, hR, Int.toNat_natCast, List.append_assoc, List.take_append_drop]
      · right
        rw [if_neg e2]
        exact ⟨e2, rfl⟩
    · rw [if_neg hm]
      right
      have := stuck (wfail (0, R') 2) (wfail_ne _ 2 (by decide)).1
      rw [if_neg this]
      exact ⟨this, rfl⟩
  · right
    split
    · have := stuck s h1
      rw [if_neg this]
      exact ⟨this, rfl⟩
    · have h3 := stuck (wfail s 2) (by rw [wfail_stuck _ _ h1]; exact h1)
      rw [if_neg h3]
      exact ⟨h3, rfl⟩

def RawTook (E : Int) (R : List UInt8) (q : List UInt8 × WS) : Prop :=
  (∃ R', q.2 = (0, R') ∧ E = 0 ∧ R = q.1 ++ R') ∨ (q.2.1 ≠ 0 ∧ q.2.2 = R)

theorem rraw_form (n E : Int) (R : List UInt8) : RawTook E R (rraw n (E, R)) := by
  unfold RawTook rraw
  by_cases hn : n < 0
  · rw [if_pos hn]
    exact .inr (wfail_ne _ 1 (by decide))
  · rw [if_neg hn]
    rcases rcut_form E R n.toNat with ⟨hE, hl, e⟩ | ⟨e1, e2, e3⟩
    · left; rw [e]; exact ⟨_, rfl, hE, by simp only [List.take_append_drop]⟩
    · exact .inr ⟨e2, e3⟩

/-- a reader and a writer, at once -/
structure RW (w0 w : World) (q : Nat) (sr : WS) (A : Option Addr) (c : Nat) (p : Nat) (sw : WS) (v : Value) : Prop where
  r : RF w0 w q sr A c
  t : WF w0 w p sw v
  dq : ¬ ftp p v q
  da : ∀ k, inB A k → ¬ ftp p v k

theorem RW.new {w0 w w' : World} {q c : Nat} {sr : WS} {A : Option Addr} (h : RF w0 w q sr A c) (h1 : Wst w' w.heap.size (0, []) (.slice none 0 0)) (hx : Ext w w') : RW w0 w' q sr A c w.heap.size (0, []) (.slice none 0 0) := by
  refine ⟨h.ex hx, WF.new h.ext h1 hx, ?_, fun k hk => ?_⟩
  · rintro (e | e)
    · have := h.st.blk.lt; omega
    · simp [Value.ownBlock] at e
  · rintro (e | e)
    · have := (h.st.ne hk).2; omega
    · simp [Value.ownBlock] at e

theorem RW.toR {w0 w w' : World} {q p c c' : Nat} {sr sr' sw : WS} {A A' : Option Addr} {v : Value} (h : RW w0 w q sr A c p sw v) (k : Rto q w A w' sr' A' c') : RW w0 w' q sr' A' c' p sw v :=
  ⟨h.r.to k, ⟨h.t.st.keep k.chg (fun i hi hS => h.dq (by rw [← hS]; exact hi)), h.t.foot, (h.r.to k).ext⟩, h.dq, fun i hi => h.da i (k.foot i hi)⟩

theorem RW.toW {w0 w w' : World} {q p c : Nat} {sr sw sw' : WS} {A : Option Addr} {v v' : Value} (h : RW w0 w q sr A c p sw v) (k : Wto p w v w' sw' v') : RW w0 w' q sr A c p sw' v' := by
  refine ⟨⟨h.r.st.keep k.chg h.dq (fun i hi => h.da i hi), h.r.base, h.r.foot, (h.t.to k).ext⟩, h.t.to k, ?_, fun i hi => ?_⟩
  · rintro (e | e)
    · exact h.dq (.inl e)
    · rcases k.foot q e with h1 | h1
      · exact h.dq (.inr h1)
      · have := h.r.st.blk.lt; omega
  · rintro (e | e)
    · exact h.da i hi (.inl e)
    · rcases k.foot i e with h1 | h1
      · exact h.da i hi (.inr h1)
      · have := (h.r.st.ne hi).2; omega

theorem RW.ex {w0 w w' : World} {q p c : Nat} {sr sw : WS} {A : Option Addr} {v : Value} (h : RW w0 w q sr A c p sw v) (hx : Ext w w') : RW w0 w' q sr A c p sw v := ⟨h.r.ex hx, h.t.ex hx, h.dq, h.da⟩

/-- bytes, within their capacity -/
def InU8c (w : World) (v : Value) (bs : List UInt8) : Prop := ∃ A cap, v = .slice A bs.length cap ∧ Rd w A (u8s bs) ∧ bs.length ≤ 140737488351232 ∧ bs.length ≤ cap ∧ cap ≤ maxLen

section
open Go.ChangeShapes Go.WideShapes Go.ChangeAt Go.Joins
variable {H : Type} {enc : TypeId × Value → H} {w : World} {base : Nat} {spare : Nat → Bool} {held : Bool} {r : Reach} {b0 : Nat} {v : Value} {d : DataW H} {ps : List MemPlace}

theorem open_InU8c (hval : Value.okWide Try.prog w r b0 29 v) (hd : DataW.Trod enc Try.prog w base spare held 29 v d ps) (hz : Light Try.prog 29 d) : ∃ x, InU8c w v x := by
  obtain ⟨a, len, cap, rfl⟩ := okWide_slice Try.underlying29 hval
  obtain ⟨fuel, hf⟩ := hd
  obtain ⟨A, c, bs, hv, hR, hw, hb, hc, hm⟩ := cells_slice (α := UInt8) (Q := fun n cs => cs = [.int .u8 (n.toNat : Int)]) (bk := fun _ => 1) (by_ := 1) Try.underlying29 (show Try.prog.cellsOf 5 = 1 by kernel_rfl) (by omega) (by kernel_rfl) (by simpa [Value.cells] using hf) hz (fun fuel cs y hy _ _ => by
    obtain ⟨n, rfl, hx, hwf⟩ := DataW.trod_int Try.underlying5 hy
    have := bounds_u8 hwf
    refine ⟨UInt8.ofNat n.toNat, ?_, ?_⟩
    · rw [UInt8.toNat_ofNat', Nat.mod_eq_of_lt (by omega), Int.toNat_of_nonneg (by omega)]
    · rw [hx]; simp [Rows.uptoBulk])
  refine ⟨bs, A, c, hv, fun i hi => ?_, by omega, hc, hm⟩
  have hi' : i < bs.length := by simpa [u8s] using hi
  obtain ⟨b, off, cs, hA, _, rfl, hc⟩ := hR i _ (List.getElem?_eq_getElem hi')
  refine ⟨b, off, hA, ?_⟩
  have := hc 0 (by omega)
  rw [Nat.mul_one, Nat.add_zero] at this
  rw [this]; simp [u8s]

theorem open_InPcs (hval : Value.okWide Try.prog w r b0 39 v) (hd : DataW.Trod enc Try.prog w base spare held 39 v d ps) (hz : Light Try.prog 39 d) : ∃ x, InPcs w v x := by
  obtain ⟨x, h, _⟩ := open_InPcsU hval hd hz
  exact ⟨x, h⟩

end

end Go.Proofs.Ytjgghahjcmdnmaa
