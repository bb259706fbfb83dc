/- A reader in memory; fail, cut. -/
import Derived.Test.YtjgghahjcmdnmaaCur4
import Derived.Test.YtjgghahjcmdnmaaRdrP
namespace Go.Proofs.Ytjgghahjcmdnmaa
open Go.RowKit Pl
set_option linter.unusedVariables false


/-- a reader at block p: its first fault, what is left -/
structure Rst (w : World) (p : Nat) (st : WS) (A : Option Addr) (cap : Nat) : Prop where
  blk : Blk w p 75 #[.int .i64 st.1, .slice A st.2.length cap]
  rd : Rd w A (u8s st.2)
  form : (A = none ∧ st.2 = [] ∧ cap = 0) ∨ ∃ b o, A = some ⟨b, o, none⟩ ∧ b ≠ p ∧ b < w.heap.size ∧ st.2.length ≤ cap ∧ cap ≤ maxLen

/-- the block of a slice -/
def inB (A : Option Addr) (k : Nat) : Prop := ∃ o, A = some ⟨k, o, none⟩

theorem inB_none {k : Nat} (h : inB none k) : False := by obtain ⟨_, h⟩ := h; cases h
theorem inB_some {b o k : Nat} (h : inB (some ⟨b, o, none⟩) k) : k = b := by
  obtain ⟨_, h⟩ := h
  simp only [Option.some.injEq, Addr.mk.injEq] at h
  exact h.1.symm

theorem Rst.ne {w : World} {p : Nat} {st : WS} {A : Option Addr} {cap : Nat} (h : Rst w p st A cap) {k : Nat} (hk : inB A k) : k ≠ p ∧ k < w.heap.size := by
  rcases h.form with ⟨rfl, _⟩ | ⟨b, o, rfl, hb, hl, _⟩
  · exact absurd hk inB_none
  · rw [inB_some hk]
    exact ⟨hb, hl⟩

theorem Rst.keep {S : Nat → Prop} {w w' : World} {p : Nat} {st : WS} {A : Option Addr} {cap : Nat} (h : Rst w p st A cap) (hc : Chg S w w') (hp : ¬ S p) (hn : ∀ k, inB A k → ¬ S k) : Rst w' p st A cap := by
  refine ⟨hc.blk h.blk hp, hc.rd h.rd (fun b o e => hn b ⟨o, e⟩), ?_⟩
  rcases h.form with h1 | ⟨b, o, e, hb, hl, hr⟩
  · exact .inl h1
  · exact .inr ⟨b, o, e, hb, Nat.lt_of_lt_of_le hl hc.size, hr⟩

theorem Rst.ext {w w' : World} {p : Nat} {st : WS} {A : Option Addr} {cap : Nat} (h : Rst w p st A cap) (hx : Ext w w') : Rst w' p st A cap :=
  h.keep (Chg.of_ext (S := fun _ => False) hx) id (fun _ _ => id)

/-- from one reader's state to another: a call's whole effect -/
structure Rto (p : Nat) (w : World) (A : Option Addr) (w' : World) (st' : WS) (A' : Option Addr) (cap' : Nat) : Prop where
  st : Rst w' p st' A' cap'
  foot : ∀ k, inB A' k → inB A k
  chg : Chg (fun k => k = p) w w'

theorem Rto.refl {p : Nat} {w : World} {st : WS} {A : Option Addr} {cap : Nat} (h : Rst w p st A cap) : Rto p w A w st A cap := ⟨h, fun _ h => h, Chg.refl _ _⟩
theorem Rto.trans {p : Nat} {a b c : World} {A A' A'' : Option Addr} {s1 s2 : WS} {c1 c2 : Nat} (h : Rto p a A b s1 A' c1) (k : Rto p b A' c s2 A'' c2) : Rto p a A c s2 A'' c2 :=
  ⟨k.st, fun i hi => h.foot i (k.foot i hi), h.chg.trans k.chg (fun i hi => .inl hi)⟩
theorem Rto.ext {p : Nat} {a b c : World} {A A' : Option Addr} {s1 : WS} {c1 : Nat} (h : Rto p a A b s1 A' c1) (hx : Ext b c) : Rto p a A c s1 A' c1 :=
  h.trans ⟨h.st.ext hx, fun _ h => h, Chg.of_ext hx⟩

/-- the first fault stored -/
theorem Rst.fault {w : World} {p : Nat} {st : WS} {A : Option Addr} {cap : Nat} (h : Rst w p st A cap) (e : Int) : Rto p w A (w.setCell ⟨p, 0, none⟩ (.int .i64 e)) (e, st.2) A cap := by
  refine ⟨⟨h.blk.set 0 _, (Chg.set w p 0 _).rd h.rd (fun b o hb => ?_), ?_⟩, fun _ h => h, Chg.set w p 0 _⟩
  · exact (h.ne ⟨o, hb⟩).1
  · rcases h.form with h1 | ⟨b, o, e, hb, hl, hr⟩
    · exact .inl h1
    · exact .inr ⟨b, o, e, hb, by simpa using hl, hr⟩

/-- the rest stored: a later window of the same row -/
theorem Rst.rest {w : World} {p : Nat} {E : Int} {bs : List UInt8} {A : Option Addr} {cap : Nat} (h : Rst w p (E, bs) A cap) {bs' : List UInt8} {A' : Option Addr} {cap' : Nat} {n' : Nat} (hn : n' = bs'.length) (hr : Rd w A' (u8s bs')) (hf : ∀ k, inB A' k → inB A k)
    (hform : (A' = none ∧ bs' = [] ∧ cap' = 0) ∨ ∃ b o, A' = some ⟨b, o, none⟩ ∧ bs'.length ≤ cap' ∧ cap' ≤ maxLen) : Rto p w A (w.setCell ⟨p, 1, none⟩ (.slice A' n' cap')) (E, bs') A' cap' := by
  subst hn
  have hne : ∀ k, inB A' k → k ≠ p ∧ k < w.heap.size := fun k hk => h.ne (hf k hk)
  refine ⟨⟨h.blk.set 1 _, (Chg.set w p 1 _).rd hr (fun b o hb => (hne b ⟨o, hb⟩).1), ?_⟩, hf, Chg.set w p 1 _⟩
  rcases hform with h1 | ⟨b, o, rfl, hb⟩
  · exact .inl h1
  · have := hne b ⟨o, rfl⟩
    exact .inr ⟨b, o, rfl, this.1, by simpa using this.2, hb⟩

set_option maxHeartbeats 400000 in
theorem rfail_any (p : Nat) (st : WS) (A : Option Addr) (cap : Nat) (e : Int) (w : World) (h : Rst w p st A cap) :
    Calls Try.prog 36 #[.pointer (some ⟨p, 0, none⟩), .int .i64 e] w fun r w' => r = .returned (.tuple #[]) ∧ Rto p w A w' (wfail st e) A cap := by
  obtain ⟨E, bs⟩ := st
  have k0 := h.blk
  simp only at k0
  have c0 : w.cell? ⟨p, 0, none⟩ = some (.int .i64 E) := k0.cell 0 rfl
  have f0 := k0.frozen 0
  have H := Lib.hid h
  clear h k0
  by_cases hE : E = 0
  · subst hE
    go_enter Try.func36, Try.ntmps36
    go_wp2
    go_end0
    exact ⟨rfl, H.out.fault e⟩
  · have hb : (E == 0) = false := by simp [hE]
    have hw : wfail (E, bs) e = (E, bs) := by simp [wfail, hE]
    have HW := Lib.hid hw
    clear hE hw
    go_enter Try.func36, Try.ntmps36
    go_wp2
    go_end0
    exact ⟨rfl, by rw [HW.out]; exact Rto.refl H.out⟩

theorem Rd.drop {w : World} {b o n : Nat} {xs : List Value} (h : Rd w (some ⟨b, o, none⟩) xs) : Rd w (some ⟨b, o + n, none⟩) (xs.drop n) := by
  intro i hi
  obtain ⟨b', o', he, hc⟩ := h (n + i) (by simp at hi; omega)
  simp only [Option.some.injEq, Addr.mk.injEq, and_true] at he
  obtain ⟨rfl, rfl⟩ := he
  exact ⟨b, o + n, rfl, by rw [show o + n + i = o + (n + i) by omega, hc]; simp⟩

theorem u8s_take (bs : List UInt8) (n : Nat) : u8s (bs.take n) = (u8s bs).take n := by simp [u8s, List.map_take]
theorem u8s_drop (bs : List UInt8) (n : Nat) : u8s (bs.drop n) = (u8s bs).drop n := by simp [u8s, List.map_drop]

/-- what a cut answers: a window of the reader's row -/
def Cut (p : Nat) (w : World) (A : Option Addr) (bs : List UInt8) (st' : WS) (r : Ending) (w' : World) : Prop :=
  ∃ B bcap A' cap', r = .returned (.slice B bs.length bcap) ∧ Rto p w A w' st' A' cap' ∧ Rd w' B (u8s bs) ∧ (∀ k, inB B k → inB A k) ∧ (B = none ∨ ∃ b o, B = some ⟨b, o, none⟩) ∧ bs.length ≤ bcap ∧ bcap ≤ maxLen

theorem cut_any (p : Nat) (st : WS) (A : Option Addr) (cap : Nat) (n : Nat) (w : World) (h : Rst w p st A cap) (hn : n ≤ 9223372036854775807) :
    Calls Try.prog 39 #[.pointer (some ⟨p, 0, none⟩), .int .i64 n] w fun r w' => Cut p w A (rcut st n).1 (rcut st n).2 r w' := by
  obtain ⟨E, bs⟩ := st
  have c0 : w.cell? ⟨p, 0, none⟩ = some (.int .i64 E) := h.blk.cell 0 rfl
  have c1 : w.cell? ⟨p, 1, none⟩ = some (.slice A bs.length cap) := h.blk.cell 1 rfl
  have f1 := h.blk.frozen 1
  by_cases hE : E = 0
  · subst hE
    by_cases hl : n ≤ bs.length
    · have HR : Hid (rcut (0, bs) n = (bs.take n, (0, bs.drop n))) := Lib.hid (by simp [rcut, hl])
      have H := Lib.hid h
      rcases h.form with ⟨rfl, h2, rfl⟩ | ⟨b, o, rfl, hbp, hbl, hlc, hcm⟩
      · simp only at h2
        subst h2
        obtain rfl : n = 0 := by simpa using hl
        clear h
        go_enter Try.func39, Try.ntmps39
        go_wp2_with fail
        refine (sound_any p _ _ c0).mono ?_
        rintro e w2 ⟨rfl, rfl⟩
        go_wp2_with fail
        refine (sound_any p _ _ c0).mono ?_
        rintro e w2 ⟨rfl, rfl⟩
        go_wp2_with fail
        go_ret
        rw [HR.out]
        exact ⟨none, 0, none, 0, rfl, H.out.rest rfl (Rd.nil _ _) (fun _ h => h) (.inl ⟨rfl, rfl, rfl⟩), Rd.nil _ _, fun k hk => hk, .inl rfl, Nat.zero_le _, by simp⟩
      · simp only at hlc
        unfold maxLen at hcm
        clear h
        go_enter Try.func39, Try.ntmps39
        go_wp2_with fail
        refine (sound_any p _ _ c0).mono ?_
        rintro e w2 ⟨rfl, rfl⟩
        go_wp2_with fail
        refine (sound_any p _ _ c0).mono ?_
        rintro e w2 ⟨rfl, rfl⟩
        have hr1 : Rd w (some ⟨b, o, none⟩) (u8s (bs.take n)) := by rw [u8s_take]; exact H.out.rd.take n
        have hr2 : Rd w (some ⟨b, o + n, none⟩) (u8s (bs.drop n)) := by rw [u8s_drop]; exact H.out.rd.drop
        have HR1 := Lib.hid hr1
        have HR2 := Lib.hid hr2
        have hcM : cap ≤ maxLen := by unfold maxLen; omega
        have HCM := Lib.hid hcM
        have hk1 : (bs.take n).length = n := by rw [List.length_take]; omega
        have HK1 := Lib.hid hk1
        clear hr1 hr2 hcM hk1
        go_wp2_with fail
        · go_ret
          have hd : bs.drop n = [] := List.drop_eq_nil_of_le (by omega)
          have ht := H.out.rest (bs' := []) (A' := some ⟨b, o, none⟩) (cap' := 0) (n' := bs.length - n) (by simp; omega) (Rd.nil _ _) (fun _ h => h) (.inr ⟨b, o, rfl, by simp, by simp⟩)
          refine ⟨some ⟨b, o, none⟩, n, some ⟨b, o, none⟩, 0, ?_, ?_, ?_, fun k hk => hk, .inr ⟨b, o, rfl⟩, ?_, ?_⟩
          · exact retv (by show Value.slice (some ⟨b, o, none⟩) n n = _; rw [HR.out, HK1.out])
          · rw [HR.out, hd]; exact ht
          · rw [HR.out]; exact ht.chg.rd HR1.out (fun b' o' hb' => (H.out.ne ⟨o', hb'⟩).1)
          · rw [HR.out, HK1.out]; exact Nat.le_refl _
          · have := HCM.out; omega
        · go_ret
          have ht := H.out.rest (bs' := bs.drop n) (A' := some ⟨b, o + n, none⟩) (cap' := cap - n) (n' := bs.length - n) (by simp) HR2.out (fun k hk => ⟨o, by rw [inB_some hk]⟩) (.inr ⟨b, o + n, rfl, by simp; omega, by have := HCM.out; omega⟩)
          refine ⟨some ⟨b, o, none⟩, cap, some ⟨b, o + n, none⟩, cap - n, ?_, ?_, ?_, fun k hk => hk, .inr ⟨b, o, rfl⟩, ?_, ?_⟩
          · exact retv (by show Value.slice (some ⟨b, o, none⟩) n cap = _; rw [HR.out, HK1.out])
          · rw [HR.out]; exact ht
          · rw [HR.out]; exact ht.chg.rd HR1.out (fun b' o' hb' => (H.out.ne ⟨o', hb'⟩).1)
          · rw [HR.out, HK1.out]; omega
          · exact HCM.out
    · have H := Lib.hid h
      have HR : Hid (rcut (0, bs) n = ([], (11, bs))) := Lib.hid (by simp [rcut, hl])
      clear h
      go_enter Try.func39, Try.ntmps39
      go_wp2_with fail
      refine (sound_any p _ _ c0).mono ?_
      rintro e w2 ⟨rfl, rfl⟩
      go_wp2_with fail
      refine (rfail_any p _ A cap 11 _ H.out).mono ?_
      rintro e w2 ⟨rfl, h2⟩
      have hs2 : wfail (0, bs) 11 = (11, bs) := rfl
      rw [hs2] at h2
      replace c0 : w2.cell? ⟨p, 0, none⟩ = some (.int .i64 11) := h2.st.blk.cell 0 rfl
      have H2 := Lib.hid h2
      clear H h2 hs2 c1 f1
      go_wp2_with fail
      refine (sound_any p _ _ c0).mono ?_
      rintro e w3 ⟨rfl, rfl⟩
      go_wp2
      go_ret
      rw [HR.out]
      exact ⟨none, 0, A, cap, rfl, H2.out, Rd.nil _ _, fun k hk => absurd hk inB_none, .inl rfl, Nat.le_refl _, by simp⟩
  · have hb : (E == 0) = false := by simp [hE]
    have H := Lib.hid h
    have HR : Hid (rcut (E, bs) n = ([], (E, bs))) := Lib.hid (by simp [rcut, hE])
    clear h hE
    go_enter Try.func39, Try.ntmps39
    go_wp2_with fail
    refine (sound_any p _ _ c0).mono ?_
    rintro e w2 ⟨rfl, rfl⟩
    rw [hb]
    go_wp2_with fail
    refine (sound_any p _ _ c0).mono ?_
    rintro e w2 ⟨rfl, rfl⟩
    rw [hb]
    go_wp2
    go_ret
    rw [HR.out]
    exact ⟨none, 0, A, cap, rfl, Rto.refl H.out, Rd.nil _ _, fun k hk => absurd hk inB_none, .inl rfl, Nat.le_refl _, by simp⟩

end Go.Proofs.Ytjgghahjcmdnmaa
