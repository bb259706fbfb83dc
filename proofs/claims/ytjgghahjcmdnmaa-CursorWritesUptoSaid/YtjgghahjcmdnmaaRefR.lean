/- The document's reader: in memory, and what its methods answer. -/
import Derived.Test.YtjgghahjcmdnmaaOwnedW
namespace Go.Proofs.Ytjgghahjcmdnmaa
open Go.RowKit Pl
set_option linter.unusedVariables false

/-- the document's reader at block p: its first fault, what is left -/
structure Mst (w : World) (p : Nat) (st : WS) (A : Option Addr) (cap : Nat) : Prop where
  blk : Blk w p 56 #[.slice A st.2.length cap, .int .i64 st.1]
  rd : Rd w A (u8s st.2)
  form : (A = none ∧ st.2 = [] ∧ cap = 0) ∨ ∃ b o, A = some ⟨b, o, none⟩ ∧ b ≠ p ∧ b < w.heap.size ∧ st.2.length ≤ cap ∧ cap ≤ maxLen

theorem Mst.ne {w : World} {p : Nat} {st : WS} {A : Option Addr} {cap : Nat} (h : Mst w p st A cap) {k : Nat} (hk : inB A k) : k ≠ p ∧ k < w.heap.size := by
  rcases h.form with ⟨rfl, _⟩ | ⟨b, o, rfl, hb, hl, _⟩
  · exact absurd hk inB_none
  · rw [inB_some hk]
    exact ⟨hb, hl⟩

theorem Mst.keep {S : Nat → Prop} {w w' : World} {p : Nat} {st : WS} {A : Option Addr} {cap : Nat} (h : Mst w p st A cap) (hc : Chg S w w') (hp : ¬ S p) (hn : ∀ k, inB A k → ¬ S k) : Mst w' p st A cap := by
  refine ⟨hc.blk h.blk hp, hc.rd h.rd (fun b o e => hn b ⟨o, e⟩), ?_⟩
  rcases h.form with h1 | ⟨b, o, e, hb, hl, hr⟩
  · exact .inl h1
  · exact .inr ⟨b, o, e, hb, Nat.lt_of_lt_of_le hl hc.size, hr⟩

theorem Mst.ext {w w' : World} {p : Nat} {st : WS} {A : Option Addr} {cap : Nat} (h : Mst w p st A cap) (hx : Ext w w') : Mst w' p st A cap :=
  h.keep (Chg.of_ext (S := fun _ => False) hx) id (fun _ _ => id)

/-- from one reader's state to another: a call's whole effect -/
structure Mto (p : Nat) (w : World) (A : Option Addr) (w' : World) (st' : WS) (A' : Option Addr) (cap' : Nat) : Prop where
  st : Mst w' p st' A' cap'
  foot : ∀ k, inB A' k → inB A k
  chg : Chg (fun k => k = p) w w'

theorem Mto.refl {p : Nat} {w : World} {st : WS} {A : Option Addr} {cap : Nat} (h : Mst w p st A cap) : Mto p w A w st A cap := ⟨h, fun _ h => h, Chg.refl _ _⟩
theorem Mto.trans {p : Nat} {a b c : World} {A A' A'' : Option Addr} {s1 s2 : WS} {c1 c2 : Nat} (h : Mto p a A b s1 A' c1) (k : Mto p b A' c s2 A'' c2) : Mto p a A c s2 A'' c2 :=
  ⟨k.st, fun i hi => h.foot i (k.foot i hi), h.chg.trans k.chg (fun i hi => .inl hi)⟩
theorem Mto.ext {p : Nat} {a b c : World} {A A' : Option Addr} {s1 : WS} {c1 : Nat} (h : Mto p a A b s1 A' c1) (hx : Ext b c) : Mto p a A c s1 A' c1 :=
  h.trans ⟨h.st.ext hx, fun _ h => h, Chg.of_ext hx⟩

/-- the first fault stored -/
theorem Mst.fault {w : World} {p : Nat} {st : WS} {A : Option Addr} {cap : Nat} (h : Mst w p st A cap) (e : Int) : Mto p w A (w.setCell ⟨p, 1, none⟩ (.int .i64 e)) (e, st.2) A cap := by
  refine ⟨⟨h.blk.set 1 _, (Chg.set w p 1 _).rd h.rd (fun b o hb => ?_), ?_⟩, fun _ h => h, Chg.set w p 1 _⟩
  · exact (h.ne ⟨o, hb⟩).1
  · rcases h.form with h1 | ⟨b, o, e, hb, hl, hr⟩
    · exact .inl h1
    · exact .inr ⟨b, o, e, hb, by simpa using hl, hr⟩

/-- the rest stored: a later window of the same row -/
theorem Mst.rest {w : World} {p : Nat} {E : Int} {bs : List UInt8} {A : Option Addr} {cap : Nat} (h : Mst w p (E, bs) A cap) {bs' : List UInt8} {A' : Option Addr} {cap' : Nat} {n' : Nat} (hn : n' = bs'.length) (hr : Rd w A' (u8s bs')) (hf : ∀ k, inB A' k → inB A k)
    (hform : (A' = none ∧ bs' = [] ∧ cap' = 0) ∨ ∃ b o, A' = some ⟨b, o, none⟩ ∧ bs'.length ≤ cap' ∧ cap' ≤ maxLen) : Mto p w A (w.setCell ⟨p, 0, none⟩ (.slice A' n' cap')) (E, bs') A' cap' := by
  subst hn
  have hne : ∀ k, inB A' k → k ≠ p ∧ k < w.heap.size := fun k hk => h.ne (hf k hk)
  refine ⟨⟨h.blk.set 0 _, (Chg.set w p 0 _).rd hr (fun b o hb => (hne b ⟨o, hb⟩).1), ?_⟩, hf, Chg.set w p 0 _⟩
  rcases hform with h1 | ⟨b, o, rfl, hb⟩
  · exact .inl h1
  · have := hne b ⟨o, rfl⟩
    exact .inr ⟨b, o, rfl, this.1, by simpa using this.2, hb⟩


/-- the greatest number of so many bytes -/
def gr (size : Int) : Int := if size = 1 then 255 else if size = 2 then 65535 else if size = 4 then 4294967295 else 0

theorem greatest_any (size : Int) (w : World) : Calls Try.prog 55 #[.int .i64 size] w fun e w' => e = .returned (.int .i64 (gr size)) ∧ w = w' := by
  by_cases h1 : size = 1
  · subst h1
    go_enter Try.func55, Try.ntmps55
    go_wp2
    go_ret
    exact ⟨rfl, rfl⟩
  by_cases h2 : size = 2
  · subst h2
    go_enter Try.func55, Try.ntmps55
    go_wp2
    go_ret
    exact ⟨rfl, rfl⟩
  by_cases h4 : size = 4
  · subst h4
    go_enter Try.func55, Try.ntmps55
    go_wp2
    go_ret
    exact ⟨rfl, rfl⟩
  · have e1 : (size == 1) = false := by simp [h1]
    have e2 : (size == 2) = false := by simp [h2]
    have e4 : (size == 4) = false := by simp [h4]
    have HG : Hid (gr size = 0) := Lib.hid (by simp [gr, h1, h2, h4])
    clear h1 h2 h4
    go_enter Try.func55, Try.ntmps55
    go_wp2
    go_ret
    exact ⟨retv (by show Value.int .i64 0 = _; rw [HG.out]), rfl⟩

theorem sizedB_gr (size : Int) (h : size ≠ 8) : sizedB size = decide (0 < gr size) := by
  unfold sizedB gr
  split
  · subst size; rfl
  split
  · subst size; rfl
  split
  · subst size; rfl
  · simp [*]

theorem rsized_any (size : Int) (w : World) : Calls Try.prog 50 #[.int .i64 size] w fun e w' => e = .returned (.bool (sizedB size)) ∧ w = w' := by
  by_cases h8 : size = 8
  · subst h8
    go_enter Try.func50, Try.ntmps50
    go_wp2
    go_ret
    exact ⟨rfl, rfl⟩
  · have e8 : (size == 8) = false := by simp [h8]
    have HS := Lib.hid (sizedB_gr size h8)
    clear h8
    go_enter Try.func50, Try.ntmps50
    go_wp2_with fail
    refine (greatest_any size _).mono ?_
    rintro e w2 ⟨rfl, rfl⟩
    go_wp2
    go_ret
    exact ⟨retv (by rw [HS.out]; rfl), rfl⟩

theorem leNat_drop (bs : List UInt8) {k : Nat} (h : k < bs.length) : leNat (bs.drop k) = (bs.getD k 0).toNat + 256 * leNat (bs.drop (k + 1)) := by
  rw [List.drop_eq_getElem_cons h, List.getD_eq_getElem?_getD, List.getElem?_eq_getElem h]
  rfl

theorem leNat_drop_lt (bs : List UInt8) (k : Nat) (hl : bs.length ≤ 8) (hk : 1 ≤ k) : leNat (bs.drop k) < 2 ^ 56 := by
  have h1 := leNat_lt (bs.drop k)
  refine Nat.lt_of_lt_of_le h1 (Nat.pow_le_pow_right (by omega) ?_)
  rw [List.length_drop]; omega

theorem value_any (B : Option Addr) (bcap : Nat) (bs : List UInt8) (w : World) (hB : Rd w B (u8s bs)) (hl : bs.length ≤ 8) :
    Calls Try.prog 53 #[.slice B bs.length bcap] w fun e w' => e = .returned (.int .i64 (i64 (leNat bs))) ∧ w = w' := by
  have HB := Lib.hid hB
  clear hB
  go_enter Try.func53, Try.ntmps53
  go_wp2_with fail
  go_loop [3, 4] (fun u i => ∃ k : Nat, k ≤ bs.length ∧ i = .int .i64 ((k : Int) - 1) ∧ u = .int .u64 (leNat (bs.drop k) : Nat)) (fun _ i => (intOf i + 1).toNat)
  case atStart => exact ⟨bs.length, Nat.le_refl _, rfl, by rw [List.drop_length]; rfl⟩
  case round =>
    obtain ⟨k, hk, rfl, rfl⟩ := hrel
    by_cases h0 : 0 < k
    · obtain ⟨j, rfl⟩ : ∃ j, k = j + 1 := ⟨k - 1, by omega⟩
      obtain ⟨b, off, rfl, hc⟩ := HB.out.u8 (show j < bs.length by omega)
      have HE := Lib.hid (leNat_drop bs (show j < bs.length by omega))
      have hv := leNat_drop_lt bs (j + 1) hl (by omega)
      have hx0 : (bs.getD j 0).toNat < 256 := (bs.getD j 0).toNat_lt
      generalize (bs.getD j 0).toNat = x at *
      generalize leNat (bs.drop (j + 1)) = V at *
      rw [show ((j + 1 : Nat) : Int) - 1 = (j : Int) by omega]
      go_wp2
      go_round
      case rel => exact ⟨j, by omega, rfl, by rw [HE.out, show ((x + 256 * V : Nat) : Int) = (V : Int) * 256 + x by omega]⟩
      case measure => simp [intOf]
    · obtain rfl : k = 0 := by omega
      rw [List.drop_zero]
      rw [show ((0 : Nat) : Int) - 1 = -1 from rfl]
      go_wp2
      go_ret
      exact ⟨retv (by show Value.int .i64 (wrap64 _) = _; rw [wrap64_is]; rfl), rfl⟩

theorem Mst.cutA {w : World} {p b o cap n : Nat} {R : List UInt8} (h : Mst w p (0, R) (some ⟨b, o, none⟩) cap) (hn : n ≤ R.length) (hc : cap = n) : Mto p w (some ⟨b, o, none⟩) (w.setCell ⟨p, 0, none⟩ (.slice (some ⟨b, o, none⟩) (R.length - n) 0)) (0, R.drop n) (some ⟨b, o, none⟩) 0 := by
  have hl : R.length ≤ cap := by
    rcases h.form with ⟨h1, _⟩ | ⟨b', o', e, _, _, hl, _⟩
    · cases h1
    · exact hl
  have hd : R.drop n = [] := List.drop_eq_nil_of_le (by omega)
  rw [hd]
  exact h.rest (bs' := []) (A' := some ⟨b, o, none⟩) (cap' := 0) (n' := R.length - n) (by simp; omega) (Rd.nil _ _) (fun _ h => h) (.inr ⟨b, o, rfl, by simp, by simp⟩)

theorem Mst.cutB {w : World} {p b o cap n : Nat} {R : List UInt8} (h : Mst w p (0, R) (some ⟨b, o, none⟩) cap) (hn : n ≤ R.length) : Mto p w (some ⟨b, o, none⟩) (w.setCell ⟨p, 0, none⟩ (.slice (some ⟨b, o + n, none⟩) (R.length - n) (cap - n))) (0, R.drop n) (some ⟨b, o + n, none⟩) (cap - n) := by
  obtain ⟨hl, hm⟩ : R.length ≤ cap ∧ cap ≤ maxLen := by
    rcases h.form with ⟨h1, _⟩ | ⟨b', o', e, _, _, hl, hm⟩
    · cases h1
    · exact ⟨hl, hm⟩
  have hr : Rd w (some ⟨b, o + n, none⟩) (u8s (R.drop n)) := by rw [u8s_drop]; exact h.rd.drop
  exact h.rest (bs' := R.drop n) (A' := some ⟨b, o + n, none⟩) (cap' := cap - n) (n' := R.length - n) (by simp) hr (fun k hk => ⟨o, by rw [inB_some hk]⟩) (.inr ⟨b, o + n, rfl, by simp; omega, by omega⟩)

theorem Mst.lens {w : World} {p b o cap : Nat} {st : WS} (h : Mst w p st (some ⟨b, o, none⟩) cap) : st.2.length ≤ cap ∧ cap ≤ 9223372036854775807 := by
  rcases h.form with ⟨h1, _⟩ | ⟨b', o', e, _, _, hl, hm⟩
  · cases h1
  · unfold maxLen at hm; exact ⟨hl, hm⟩

/-- where there are bytes, there is a row -/
theorem Mst.some {w : World} {p cap : Nat} {st : WS} {A : Option Addr} (h : Mst w p st A cap) : A = none ∧ st.2 = [] ∧ cap = 0 ∨ ∃ b o, A = some ⟨b, o, none⟩ := by
  rcases h.form with h1 | ⟨b', o', e, _⟩
  · exact .inl h1
  · exact .inr ⟨b', o', e⟩

set_option maxHeartbeats 800000 in
theorem mnum_any (p : Nat) (st : WS) (A : Option Addr) (cap : Nat) (size : Int) (w : World) (h : Mst w p st A cap) (hsz : -9223372036854775808 ≤ size ∧ size ≤ 9223372036854775807) :
    Calls Try.prog 44 #[.pointer (some ⟨p, 0, none⟩), .int .i64 size] w fun r w' => r = .returned (.int .i64 (rnum size st).1) ∧ ∃ A' cap', Mto p w A w' (rnum size st).2 A' cap' := by
  obtain ⟨E, R⟩ := st
  have c0 : w.cell? ⟨p, 0, none⟩ = some (.slice A R.length cap) := h.blk.cell 0 rfl
  have c1 : w.cell? ⟨p, 1, none⟩ = some (.int .i64 E) := h.blk.cell 1 rfl
  have f0 := h.blk.frozen 0
  have f1 := h.blk.frozen 1
  have H := Lib.hid h
  by_cases hE : E = 0
  · subst hE
    cases hs : sizedB size
    · have HR : Hid (rnum size (0, R) = (0, (1, R))) := Lib.hid (by simp [rnum, hs, wfail])
      have HS := Lib.hid hs
      clear hs h
      go_enter Try.func44, Try.ntmps44
      go_wp2_with fail
      refine (rsized_any size _).mono ?_
      rintro e w1 ⟨rfl, rfl⟩
      rw [HS.out]
      go_wp2
      go_ret
      rw [HR.out]
      exact ⟨rfl, A, cap, H.out.fault 1⟩
    · have HS := Lib.hid hs
      have hz : 0 ≤ size ∧ size ≤ 8 := by have := sizedB_cases hs; omega
      obtain ⟨z, rfl⟩ := Int.eq_ofNat_of_zero_le hz.1
      by_cases hl : z ≤ R.length
      · have HR : Hid (rnum z (0, R) = (i64 (leNat (R.take z)), (0, R.drop z))) := Lib.hid (by simp [rnum, hs, rcut, hl])
        have hz1 : 1 ≤ z := by have := sizedB_cases hs; omega
        rcases h.some with ⟨_, h2, _⟩ | ⟨b, o, rfl⟩
        · simp only at h2
          subst h2
          simp at hl
          omega
        · obtain ⟨hlc, hcm⟩ := h.lens
          simp only at hlc
          have HRT : Hid (Rd w (some ⟨b, o, none⟩) (u8s (R.take z))) := Lib.hid (by rw [u8s_take]; exact h.rd.take z)
          have htl : (R.take z).length = z := by rw [List.length_take]; omega
          have HTL := Lib.hid htl
          have HV := Lib.hid (value_any (some ⟨b, o, none⟩) cap (R.take z) w HRT.out (by omega))
          rw [htl] at HV
          clear hs h htl
          go_enter Try.func44, Try.ntmps44
          go_wp2_with fail
          refine (rsized_any _ _).mono ?_
          rintro e w1 ⟨rfl, rfl⟩
          rw [HS.out]
          go_wp2_with fail
          refine HV.out.mono ?_
          rintro e w1 ⟨rfl, rfl⟩
          go_wp2_with fail
          · go_wp2
            go_ret
            rw [HR.out]
            exact ⟨rfl, _, _, H.out.cutA (by omega) (by omega)⟩
          · go_wp2
            go_ret
            rw [HR.out]
            exact ⟨rfl, _, _, H.out.cutB (by omega)⟩
      · have HR : Hid (rnum z (0, R) = (0, (11, R))) := Lib.hid (by simp [rnum, hs, rcut, hl]; rfl)
        clear hs h
        go_enter Try.func44, Try.ntmps44
        go_wp2_with fail
        refine (rsized_any _ _).mono ?_
        rintro e w1 ⟨rfl, rfl⟩
        rw [HS.out]
        go_wp2
        go_ret
        rw [HR.out]
        exact ⟨rfl, A, cap, H.out.fault 11⟩
  · have hb : (E == 0) = false := by simp [hE]
    have HR : Hid (rnum size (E, R) = (0, (E, R))) := Lib.hid (rnum_stuck _ _ hE)
    have hb2 : (E != 0) = true := by simp [hE]
    clear hE h
    go_enter Try.func44, Try.ntmps44
    go_wp2
    go_ret
    rw [HR.out]
    exact ⟨rfl, A, cap, Mto.refl H.out⟩

end Go.Proofs.Ytjgghahjcmdnmaa
