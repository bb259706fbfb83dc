/- The document's reader: texts, blocks, raw bytes, the end. -/
import Derived.Test.YtjgghahjcmdnmaaRefR
namespace Go.Proofs.Ytjgghahjcmdnmaa
open Go.RowKit Pl
set_option linter.unusedVariables false

theorem take_small (z : Nat) (hz : z = 2 ∨ z = 4) (R : List UInt8) : leNat (R.take z) < 4294967296 ∧ i64 (leNat (R.take z)) = (leNat (R.take z) : Int) := by
  have h1 := leNat_lt (R.take z)
  have h3 : 2 ^ (8 * (R.take z).length) ≤ 2 ^ 32 := Nat.pow_le_pow_right (by omega) (by rw [List.length_take]; omega)
  have h4 : leNat (R.take z) < 4294967296 := by omega
  refine ⟨h4, ?_⟩
  unfold i64
  rw [IntKind.wrap_i64]
  omega

theorem rnum_here (z : Nat) (hz : z = 2 ∨ z = 4) (R : List UInt8) (hl : z ≤ R.length) : rnum z (0, R) = ((leNat (R.take z) : Int), (0, R.drop z)) := by
  have hs : sizedB z = true := by rcases hz with rfl | rfl <;> rfl
  have := (take_small z hz R).2
  unfold rnum rcut
  rw [hs, Int.toNat_natCast]
  simp only [if_true]
  rw [if_pos hl, this]

theorem rpart_p1 (z most : Nat) (hz : z = 2 ∨ z = 4) (R : List UInt8) (hl : R.length < z) : rpart z most (0, R) = ([], (11, R)) := by
  have hs : sizedB z = true := by rcases hz with rfl | rfl <;> rfl
  have h1 : rnum z (0, R) = (0, (11, R)) := by
    unfold rnum rcut
    rw [hs, Int.toNat_natCast]
    simp only [if_true]
    rw [if_neg (by omega)]
    rfl
  unfold rpart
  rw [h1]
  have e : ((0 : Int) ≤ (most : Int)) := by omega
  simp only [e, if_true]
  rw [rcut_stuck _ _ (by simp)]
  simp
theorem rpart_p2 (z most : Nat) (hz : z = 2 ∨ z = 4) (R : List UInt8) (hl : z ≤ R.length) (hm : most < leNat (R.take z)) : rpart z most (0, R) = ([], (2, R)) := by
  unfold rpart
  rw [rnum_here z hz R hl]
  simp only
  rw [if_neg (by omega), rcut_stuck _ _ (by simp [wfail])]
  simp [wfail]
theorem rpart_p3 (z most : Nat) (hz : z = 2 ∨ z = 4) (R : List UInt8) (hl : z ≤ R.length) (hm : leNat (R.take z) ≤ most) (hr : R.length - z < leNat (R.take z)) : rpart z most (0, R) = ([], (11, R)) := by
  unfold rpart
  rw [rnum_here z hz R hl]
  simp only
  rw [if_pos (by omega), Int.toNat_natCast]
  have : rcut (0, R.drop z) (leNat (R.take z)) = ([], (11, R.drop z)) := by
    unfold rcut
    simp only [if_true]
    rw [if_neg (by rw [List.length_drop]; omega)]
  rw [this]
  simp
theorem rpart_p4 (z most : Nat) (hz : z = 2 ∨ z = 4) (R : List UInt8) (hl : z ≤ R.length) (hm : leNat (R.take z) ≤ most) (hr : leNat (R.take z) ≤ R.length - z) : rpart z most (0, R) = ((R.drop z).take (leNat (R.take z)), (0, R.drop (z + leNat (R.take z)))) := by
  unfold rpart
  rw [rnum_here z hz R hl]
  simp only
  rw [if_pos (by omega), Int.toNat_natCast]
  have : rcut (0, R.drop z) (leNat (R.take z)) = ((R.drop z).take (leNat (R.take z)), (0, R.drop (z + leNat (R.take z)))) := by
    unfold rcut
    simp only [if_true]
    rw [if_pos (by rw [List.length_drop]; omega), List.drop_drop]
  rw [this]
  simp

/-- what the document's reader takes: a window of its row -/
def MCut (p : Nat) (w : World) (A : Option Addr) (bs : List UInt8) (st' : WS) (r : Ending) (w' : World) : Prop :=
  ∃ B bcap A' cap', r = .returned (.slice B bs.length bcap) ∧ Mto p w A w' st' A' cap' ∧ Rd w' B (u8s bs)

theorem MCut.nil {p : Nat} {w w' : World} {A A' : Option Addr} {cap' : Nat} {st' : WS} (h : Mto p w A w' st' A' cap') : MCut p w A [] st' (.returned (.slice none 0 0)) w' :=
  ⟨none, 0, A', cap', rfl, h, Rd.nil _ _⟩

set_option maxHeartbeats 1600000 in
theorem prefixed_any (p : Nat) (st : WS) (A : Option Addr) (cap : Nat) (z most : Nat) (w : World) (h : Mst w p st A cap) (hz : z = 2 ∨ z = 4) (hmm : most ≤ 1048576) :
    Calls Try.prog 54 #[.pointer (some ⟨p, 0, none⟩), .int .i64 z, .int .i64 most] w fun r w' => MCut p w A (rpart z most st).1 (rpart z most st).2 r w' := by
  obtain ⟨E, R⟩ := st
  have c0 : w.cell? ⟨p, 0, none⟩ = some (.slice A R.length cap) := h.blk.cell 0 rfl
  have c1 : w.cell? ⟨p, 1, none⟩ = some (.int .i64 E) := h.blk.cell 1 rfl
  have f0 := h.blk.frozen 0
  have f1 := h.blk.frozen 1
  have H := Lib.hid h
  by_cases hE : E = 0
  · subst hE
    by_cases hl : z ≤ R.length
    · rcases h.some with ⟨_, h2, _⟩ | ⟨b, o, rfl⟩
      · simp only at h2
        subst h2
        simp at hl
        omega
      · obtain ⟨hlc, hcm⟩ := h.lens
        simp only at hlc
        have HRT : Hid (Rd w (some ⟨b, o, none⟩) (u8s (R.take z))) := Lib.hid (by rw [u8s_take]; exact h.rd.take z)
        have htl : (R.take z).length = z := by rw [List.length_take]; omega
        have HV := Lib.hid (value_any (some ⟨b, o, none⟩) cap (R.take z) w HRT.out (by omega))
        obtain ⟨hs1, hs2⟩ := take_small z hz R
        rw [htl, hs2] at HV
        have HRD := Lib.hid (fun n : Nat => (h.rd.drop (n := z)).take n)
        have hp2 := rpart_p2 z most hz R hl
        have hp3 := rpart_p3 z most hz R hl
        have hp4 := rpart_p4 z most hz R hl
        clear hs2 h htl
        generalize leNat (R.take z) = n at *
        by_cases hm : n ≤ most
        · by_cases hr : n ≤ R.length - z
          · have HR := Lib.hid (hp4 hm hr)
            clear hp2 hp3 hp4
            have HWB : Hid (Rd w (some ⟨b, o + z, none⟩) (u8s ((R.drop z).take n))) := Lib.hid (by rw [u8s_take, u8s_drop]; exact HRD.out n)
            have HLN : Hid (((R.drop z).take n).length = n) := Lib.hid (by rw [List.length_take, List.length_drop]; omega)
            go_enter Try.func54, Try.ntmps54
            go_wp2_with fail
            refine HV.out.mono ?_
            rintro e w1 ⟨rfl, rfl⟩
            go_wp2_with fail
            · go_ret
              rw [HR.out]
              obtain rfl : n = 0 := by omega
              have ht := H.out.cutA (n := z) (by omega) (by omega)
              exact ⟨some ⟨b, o, none⟩, 0, _, _, rfl, ht, Rd.nil _ _⟩
            · go_ret
              rw [HR.out]
              have ht := H.out.cutA (n := z + n) (by omega) (by omega)
              refine ⟨some ⟨b, o + z, none⟩, n, _, _, retv ?_, ht, ht.chg.rd HWB.out (fun b' o' e => ?_)⟩
              · show Value.slice (some ⟨b, o + z, none⟩) n n = _; rw [HLN.out]
              · simp only [Option.some.injEq, Addr.mk.injEq] at e
                exact (H.out.ne ⟨o, by rw [e.1]⟩).1
            · go_ret
              rw [HR.out]
              have ht := H.out.cutB (n := z + n) (by omega)
              refine ⟨some ⟨b, o + z, none⟩, cap - z, _, _, retv ?_, ht, ht.chg.rd HWB.out (fun b' o' e => ?_)⟩
              · show Value.slice (some ⟨b, o + z, none⟩) n (cap - z) = _; rw [HLN.out]
              · simp only [Option.some.injEq, Addr.mk.injEq] at e
                exact (H.out.ne ⟨o, by rw [e.1]⟩).1
          · have HR := Lib.hid (hp3 hm (by omega))
            clear hp2 hp3 hp4
            go_enter Try.func54, Try.ntmps54
            go_wp2_with fail
            refine HV.out.mono ?_
            rintro e w1 ⟨rfl, rfl⟩
            go_wp2
            go_ret
            rw [HR.out]
            exact MCut.nil (H.out.fault 11)
        · have HR := Lib.hid (hp2 (by omega))
          clear hp2 hp3 hp4
          go_enter Try.func54, Try.ntmps54
          go_wp2_with fail
          refine HV.out.mono ?_
          rintro e w1 ⟨rfl, rfl⟩
          go_wp2
          go_ret
          rw [HR.out]
          exact MCut.nil (H.out.fault 2)
    · have HR := Lib.hid (rpart_p1 z most hz R (by omega))
      clear h
      go_enter Try.func54, Try.ntmps54
      go_wp2
      go_ret
      rw [HR.out]
      exact MCut.nil (H.out.fault 11)
  · have hb : (E == 0) = false := by simp [hE]
    have hb2 : (E != 0) = true := by simp [hE]
    have HR : Hid (rpart z most (E, R) = ([], (E, R))) := Lib.hid (rpart_stuck _ _ _ hE)
    clear hE h
    go_enter Try.func54, Try.ntmps54
    go_wp2
    go_ret
    rw [HR.out]
    exact MCut.nil (Mto.refl H.out)

theorem mtext_any (p : Nat) (st : WS) (A : Option Addr) (cap : Nat) (w : World) (h : Mst w p st A cap) :
    Calls Try.prog 45 #[.pointer (some ⟨p, 0, none⟩)] w fun r w' => r = .returned (.string ⟨(rpart 2 4096 st).1.toArray⟩) ∧ ∃ A' cap', Mto p w A w' (rpart 2 4096 st).2 A' cap' := by
  have H := Lib.hid h
  clear h
  obtain ⟨⟨bs, s2⟩, hq⟩ : ∃ q, rpart 2 4096 st = q := ⟨_, rfl⟩
  rw [hq]
  go_enter Try.func45, Try.ntmps45
  go_wp2_with fail
  refine (prefixed_any p st A cap 2 4096 w H.out (.inl rfl) (by omega)).mono ?_
  rintro e w2 ⟨B, bc, A', cap', rfl, h2, hr2⟩
  rw [hq] at h2 hr2 ⊢
  simp only at h2 hr2 ⊢
  have hcv := conv_bytes w2 B bc bs hr2
  have H2 := Lib.hid h2
  clear H h2 hr2
  go_wp2
  go_ret
  exact ⟨rfl, A', cap', H2.out⟩

theorem mblock_any (p : Nat) (st : WS) (A : Option Addr) (cap : Nat) (w : World) (h : Mst w p st A cap) :
    Calls Try.prog 46 #[.pointer (some ⟨p, 0, none⟩)] w fun r w' => MCut p w A (rpart 4 1048576 st).1 (rpart 4 1048576 st).2 r w' := by
  have H := Lib.hid h
  clear h
  go_enter Try.func46, Try.ntmps46
  go_wp2_with fail
  refine (prefixed_any p st A cap 4 1048576 w H.out (.inr rfl) (by omega)).mono ?_
  rintro e w2 ⟨B, bc, A', cap', rfl, h2, hr2⟩
  have H2 := Lib.hid h2
  have HR2 := Lib.hid hr2
  clear H h2 hr2
  go_wp2
  go_ret
  exact ⟨B, bc, A', cap', rfl, H2.out, HR2.out⟩

theorem mend_any (p : Nat) (st : WS) (A : Option Addr) (cap : Nat) (w : World) (h : Mst w p st A cap) :
    Calls Try.prog 48 #[.pointer (some ⟨p, 0, none⟩)] w fun r w' => r = .returned (.int .i64 (rend st)) ∧ w = w' := by
  obtain ⟨E, bs⟩ := st
  have c0 : w.cell? ⟨p, 0, none⟩ = some (.slice A bs.length cap) := h.blk.cell 0 rfl
  have c1 : w.cell? ⟨p, 1, none⟩ = some (.int .i64 E) := h.blk.cell 1 rfl
  clear h
  by_cases hE : E = 0
  · subst hE
    by_cases hb : bs = []
    · subst hb
      go_enter Try.func48, Try.ntmps48
      go_wp2
      go_ret
      exact ⟨rfl, rfl⟩
    · have hl : 0 < bs.length := List.length_pos_iff.2 hb
      have HR : Hid (rend (0, bs) = 12) := Lib.hid (by simp [rend, hb])
      clear hb
      go_enter Try.func48, Try.ntmps48
      go_wp2
      go_ret
      exact ⟨retv (by show Value.int .i64 12 = _; rw [HR.out]), rfl⟩
  · have hb : (E == 0) = false := by simp [hE]
    have HR : Hid (rend (E, bs) = E) := Lib.hid (by simp [rend, hE])
    clear hE
    go_enter Try.func48, Try.ntmps48
    go_wp2
    go_ret
    exact ⟨retv (by show Value.int .i64 E = _; rw [HR.out]), rfl⟩

set_option maxHeartbeats 800000 in
theorem mraw_any (p : Nat) (st : WS) (A : Option Addr) (cap : Nat) (n : Int) (w : World) (h : Mst w p st A cap) (hn : -9223372036854775808 ≤ n ∧ n ≤ 9223372036854775807) :
    Calls Try.prog 47 #[.pointer (some ⟨p, 0, none⟩), .int .i64 n] w fun r w' => MCut p w A (rraw n st).1 (rraw n st).2 r w' := by
  obtain ⟨E, R⟩ := st
  have c0 : w.cell? ⟨p, 0, none⟩ = some (.slice A R.length cap) := h.blk.cell 0 rfl
  have c1 : w.cell? ⟨p, 1, none⟩ = some (.int .i64 E) := h.blk.cell 1 rfl
  have f0 := h.blk.frozen 0
  have f1 := h.blk.frozen 1
  have H := Lib.hid h
  by_cases hE : E = 0
  · subst hE
    by_cases hlt : n < 0
    · have HR : Hid (rraw n (0, R) = ([], (1, R))) := Lib.hid (by simp [rraw, hlt, wfail])
      clear h
      go_enter Try.func47, Try.ntmps47
      go_wp2
      go_ret
      rw [HR.out]
      exact MCut.nil (H.out.fault 1)
    · obtain ⟨n, rfl⟩ := Int.eq_ofNat_of_zero_le (by omega : 0 ≤ n)
      by_cases hl : n ≤ R.length
      · have HR : Hid (rraw n (0, R) = (R.take n, (0, R.drop n))) := Lib.hid (by unfold rraw; rw [if_neg (by omega), Int.toNat_natCast]; simp [rcut, hl])
        rcases h.some with ⟨hA, h2, hc⟩ | ⟨b, o, rfl⟩
        · simp only at h2
          subst h2 hA hc
          obtain rfl : n = 0 := by simpa using hl
          clear h
          go_enter Try.func47, Try.ntmps47
          go_wp2
          go_ret
          rw [show rraw 0 (0, []) = _ from HR.out]
          exact MCut.nil (H.out.rest (bs' := []) (A' := none) (cap' := 0) (n' := 0) rfl (Rd.nil _ _) (fun _ h => h) (.inl ⟨rfl, rfl, rfl⟩))
        · obtain ⟨hlc, hcm⟩ := h.lens
          simp only at hlc
          have HWB : Hid (Rd w (some ⟨b, o, none⟩) (u8s (R.take n))) := Lib.hid (by rw [u8s_take]; exact h.rd.take n)
          have HLN : Hid ((R.take n).length = n) := Lib.hid (by rw [List.length_take]; omega)
          clear h
          go_enter Try.func47, Try.ntmps47
          go_wp2_with fail
          · go_ret
            rw [HR.out]
            have ht := H.out.cutA (n := n) (by omega) (by omega)
            refine ⟨some ⟨b, o, none⟩, n, _, _, retv ?_, ht, ht.chg.rd HWB.out (fun b' o' e => (H.out.ne ⟨o', e⟩).1)⟩
            show Value.slice (some ⟨b, o, none⟩) n n = _; rw [HLN.out]
          · go_ret
            rw [HR.out]
            have ht := H.out.cutB (n := n) (by omega)
            refine ⟨some ⟨b, o, none⟩, cap, _, _, retv ?_, ht, ht.chg.rd HWB.out (fun b' o' e => (H.out.ne ⟨o', e⟩).1)⟩
            show Value.slice (some ⟨b, o, none⟩) n cap = _; rw [HLN.out]
      · have HR : Hid (rraw n (0, R) = ([], (11, R))) := Lib.hid (by unfold rraw; rw [if_neg (by omega), Int.toNat_natCast]; simp [rcut, hl])
        clear h
        go_enter Try.func47, Try.ntmps47
        go_wp2
        go_ret
        rw [HR.out]
        exact MCut.nil (H.out.fault 11)
  · have hb : (E == 0) = false := by simp [hE]
    have hb2 : (E != 0) = true := by simp [hE]
    have HR : Hid (rraw n (E, R) = ([], (E, R))) := Lib.hid (by unfold rraw; split; simp [wfail, hE]; exact rcut_stuck _ _ hE)
    clear hE h
    go_enter Try.func47, Try.ntmps47
    go_wp2
    go_ret
    rw [HR.out]
    exact MCut.nil (Mto.refl H.out)

end Go.Proofs.Ytjgghahjcmdnmaa
