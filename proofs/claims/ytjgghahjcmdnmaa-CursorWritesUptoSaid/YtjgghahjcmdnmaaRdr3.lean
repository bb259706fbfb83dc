/- Reader.part, Text, Block, Raw. -/
import Derived.Test.YtjgghahjcmdnmaaRdr2
namespace Go.Proofs.Ytjgghahjcmdnmaa
open Go.RowKit Pl
set_option linter.unusedVariables false

/-- the rest put back -/
theorem Rto.back {p : Nat} {w w1 : World} {st s1 : WS} {A A1 : Option Addr} {cap c1 : Nat} (h : Rst w p st A cap) (h1 : Rto p w A w1 s1 A1 c1) :
    Rto p w A (w1.setCell ⟨p, 1, none⟩ (.slice A st.2.length cap)) (s1.1, st.2) A cap := by
  have b := h1.st.blk
  have hr := h1.chg.rd h.rd (fun b o e => (h.ne ⟨o, e⟩).1)
  refine ⟨⟨b.set 1 _, (Chg.set w1 p 1 _).rd hr (fun b o e => (h.ne ⟨o, e⟩).1), ?_⟩, fun _ h => h, h1.chg.trans (Chg.set w1 p 1 _) (fun i hi => .inl hi)⟩
  rcases h.form with h1 | ⟨b, o, e, hb, hl, hr⟩
  · exact .inl h1
  · exact .inr ⟨b, o, e, hb, by have := h1.chg.size; simp; omega, hr⟩

theorem rnum_small (z : Int) (st : WS) (hz : z = 2 ∨ z = 4) : 0 ≤ (rnum z st).1 ∧ (rnum z st).1 < 4294967296 := by
  have hs : sizedB z = true := by rcases hz with rfl | rfl <;> rfl
  unfold rnum
  rw [hs]
  simp only [if_true]
  have h1 := leNat_lt (rcut st z.toNat).1
  have h2 := rcut_len st z.toNat
  have h3 : 2 ^ (8 * (rcut st z.toNat).1.length) ≤ 2 ^ 32 := Nat.pow_le_pow_right (by omega) (by rcases hz with rfl | rfl <;> omega)
  have h4 : leNat (rcut st z.toNat).1 < 4294967296 := by omega
  unfold i64
  rw [IntWalk.i64_in _ (by omega)]
  omega

set_option maxHeartbeats 800000 in
theorem part_any (p : Nat) (st : WS) (A : Option Addr) (cap : Nat) (z most : Nat) (w : World) (h : Rst w p st A cap) (hz : z = 2 ∨ z = 4) (hm : most ≤ 1048576) :
    Calls Try.prog 49 #[.pointer (some ⟨p, 0, none⟩), .int .i64 z, .int .i64 most] w fun r w' => Cut p w A (rpart z most st).1 (rpart z most st).2 r w' := by
  have c1 : w.cell? ⟨p, 1, none⟩ = some (.slice A st.2.length cap) := h.blk.cell 1 rfl
  have H := Lib.hid h
  have hN := rnum_small z st (by omega)
  have HR : Hid (rpart z most st = ((rcut (if (rnum z st).1 ≤ most then (rnum z st).2 else wfail (rnum z st).2 2) (rnum z st).1.toNat).1, if (rcut (if (rnum z st).1 ≤ most then (rnum z st).2 else wfail (rnum z st).2 2) (rnum z st).1.toNat).2.1 = 0 then (rcut (if (rnum z st).1 ≤ most then (rnum z st).2 else wfail (rnum z st).2 2) (rnum z st).1.toNat).2 else ((rcut (if (rnum z st).1 ≤ most then (rnum z st).2 else wfail (rnum z st).2 2) (rnum z st).1.toNat).2.1, st.2))) := Lib.hid rfl
  clear h
  go_enter Try.func49, Try.ntmps49
  go_wp2_with fail
  refine (rnum_any p st A cap z w H.out (by omega)).mono ?_
  rintro e w1 ⟨rfl, A1, k1, h1⟩
  generalize (rnum z st).2 = s1 at *
  generalize (rnum z st).1 = n at *
  obtain ⟨n, rfl⟩ := Int.eq_ofNat_of_zero_le hN.1
  rw [Int.toNat_natCast] at HR
  clear c1
  by_cases hx : n ≤ most
  · rw [if_pos (by omega)] at HR
    have H1 := Lib.hid h1
    clear h1
    go_wp2_with fail
    refine (cut_any p s1 A1 k1 n w1 H1.out.st (by omega)).mono ?_
    rintro e w2 ⟨B, bc, A', cap', rfl, h2, hr2, hin, hfo, hbc, hbm⟩
    generalize (rcut s1 n).2 = s2 at *
    generalize (rcut s1 n).1 = bs at *
    have c0 : w2.cell? ⟨p, 0, none⟩ = some (.int .i64 s2.1) := h2.st.blk.cell 0 rfl
    have f1 := h2.st.blk.frozen 1
    have c1 : w2.cell? ⟨p, 1, none⟩ = some (.slice A' s2.2.length cap') := h2.st.blk.cell 1 rfl
    have H2 := Lib.hid (H1.out.trans h2)
    have HR2 := Lib.hid hr2
    have HIN : Hid (∀ k, inB B k → inB A k) := Lib.hid (fun k hk => H1.out.foot k (hin k hk))
    have HFO := Lib.hid hfo
    clear h2 hr2 hin hfo H1
    go_wp2_with fail
    refine (sound_any p _ _ c0).mono ?_
    rintro e w3 ⟨rfl, rfl⟩
    by_cases hE : s2.1 = 0
    · rw [if_pos hE] at HR
      rw [hE]
      clear hE
      go_wp2
      go_ret
      rw [HR.out]
      exact ⟨B, bc, A', cap', rfl, H2.out, HR2.out, HIN.out, HFO.out, hbc, hbm⟩
    · rw [if_neg hE] at HR
      have hb : (s2.1 == 0) = false := by simp [hE]
      rw [hb]
      clear hE
      go_wp2
      go_ret
      rw [HR.out]
      have hB := Rto.back H.out H2.out
      exact ⟨B, bc, A, cap, rfl, hB, (Chg.set w2 p 1 _).rd HR2.out (fun b o e => (H.out.ne (HIN.out b ⟨o, e⟩)).1), HIN.out, HFO.out, hbc, hbm⟩
  · rw [if_neg (by omega)] at HR
    have H1 := Lib.hid h1
    clear h1
    go_wp2_with fail
    refine (rfail_any p s1 A1 k1 2 _ H1.out.st).mono ?_
    rintro e w1' ⟨rfl, h1'⟩
    generalize wfail s1 2 = s1' at *
    have H1' := Lib.hid (H1.out.trans h1')
    clear H1 h1'
    go_wp2_with fail
    refine (cut_any p s1' A1 k1 n w1' H1'.out.st (by omega)).mono ?_
    rintro e w2 ⟨B, bc, A', cap', rfl, h2, hr2, hin, hfo, hbc, hbm⟩
    generalize (rcut s1' n).2 = s2 at *
    generalize (rcut s1' n).1 = bs at *
    have c0 : w2.cell? ⟨p, 0, none⟩ = some (.int .i64 s2.1) := h2.st.blk.cell 0 rfl
    have f1 := h2.st.blk.frozen 1
    have c1 : w2.cell? ⟨p, 1, none⟩ = some (.slice A' s2.2.length cap') := h2.st.blk.cell 1 rfl
    have H2 := Lib.hid (H1'.out.trans h2)
    have HR2 := Lib.hid hr2
    have HIN : Hid (∀ k, inB B k → inB A k) := Lib.hid (fun k hk => H1'.out.foot k (hin k hk))
    have HFO := Lib.hid hfo
    clear h2 hr2 hin hfo H1'
    go_wp2_with fail
    refine (sound_any p _ _ c0).mono ?_
    rintro e w3 ⟨rfl, rfl⟩
    by_cases hE : s2.1 = 0
    · rw [if_pos hE] at HR
      rw [hE]
      clear hE
      go_wp2
      go_ret
      rw [HR.out]
      exact ⟨B, bc, A', cap', rfl, H2.out, HR2.out, HIN.out, HFO.out, hbc, hbm⟩
    · rw [if_neg hE] at HR
      have hb : (s2.1 == 0) = false := by simp [hE]
      rw [hb]
      clear hE
      go_wp2
      go_ret
      rw [HR.out]
      have hB := Rto.back H.out H2.out
      exact ⟨B, bc, A, cap, rfl, hB, (Chg.set w2 p 1 _).rd HR2.out (fun b o e => (H.out.ne (HIN.out b ⟨o, e⟩)).1), HIN.out, HFO.out, hbc, hbm⟩

theorem rtext_any (p : Nat) (st : WS) (A : Option Addr) (cap : Nat) (w : World) (h : Rst w p st A cap) :
    Calls Try.prog 28 #[.pointer (some ⟨p, 0, none⟩)] w fun r w' => r = .returned (.string ⟨(rpart 2 4096 st).1.toArray⟩) ∧ ∃ A' cap', Rto p w A w' (rpart 2 4096 st).2 A' cap' := by
  have H := Lib.hid h
  clear h
  obtain ⟨⟨bs, s2⟩, hq⟩ : ∃ q, rpart 2 4096 st = q := ⟨_, rfl⟩
  rw [hq]
  go_enter Try.func28, Try.ntmps28
  go_wp2_with fail
  refine (part_any p st A cap 2 4096 w H.out (.inl rfl) (by omega)).mono ?_
  rintro e w2 ⟨B, bc, A', cap', rfl, h2, hr2, hin, hfo, hbc, hbm⟩
  rw [hq] at h2 hr2 hbc ⊢
  simp only at h2 hr2 hbc ⊢
  have hcv := conv_bytes w2 B bc bs hr2
  have H2 := Lib.hid h2
  clear H h2 hr2 hin hfo
  go_wp2
  go_ret
  exact ⟨rfl, A', cap', H2.out⟩

/-- bytes of the call's own, out of a reader -/
def OwnR (p : Nat) (w : World) (A : Option Addr) (bs : List UInt8) (st' : WS) (r : Ending) (w' : World) : Prop :=
  ∃ v A' cap', r = .returned v ∧ w'.ownsRow w.heap.size 5 1 v bs.length (u8s bs) ∧ Rto p w A w' st' A' cap'

theorem OwnR.nil (p : Nat) (w : World) (A A' : Option Addr) (cap' : Nat) (st' : WS) (w' : World) (h : Rto p w A w' st' A' cap') : OwnR p w A [] st' (.returned (.slice none 0 0)) w' :=
  ⟨_, A', cap', rfl, World.ownsRow_nil _ _ _ _, h⟩

theorem rpart_len (z most : Nat) (st : WS) (hz : z = 2 ∨ z = 4) : (rpart z most st).1.length ≤ 4294967296 := by
  have := rnum_small z st (by omega)
  unfold rpart
  refine Nat.le_trans (rcut_len _ _) ?_
  omega

theorem rblock_any (p : Nat) (st : WS) (A : Option Addr) (cap : Nat) (w : World) (h : Rst w p st A cap) :
    Calls Try.prog 29 #[.pointer (some ⟨p, 0, none⟩)] w fun r w' => OwnR p w A (rpart 4 1048576 st).1 (rpart 4 1048576 st).2 r w' := by
  obtain ⟨i0, hi0, hz0, hz1, hz2⟩ := info_parts info_u8
  have H := Lib.hid h
  have hl := rpart_len 4 1048576 st (.inr rfl)
  clear h
  obtain ⟨⟨bs, s2⟩, hq⟩ : ∃ q, rpart 4 1048576 st = q := ⟨_, rfl⟩
  rw [hq] at hl ⊢
  simp only at hl
  go_enter Try.func29, Try.ntmps29
  go_wp2_with fail
  refine (part_any p st A cap 4 1048576 w H.out (.inr rfl) (by omega)).mono ?_
  rintro e w2 ⟨B, bc, A', cap', rfl, h2, hr2, hin, hfo, hbc, hbm⟩
  rw [hq] at h2 hr2 hbc ⊢
  simp only at h2 hr2 hbc ⊢
  have H2 := Lib.hid h2
  have HR2 := Lib.hid hr2
  have hws := h2.chg.size
  clear H h2 hr2 hin hfo
  go_wp2_with (at_builtin; refine wpList_app_rd2 rfl _ _ 29 rfl w.heap.size 5 i0 (.int .u8 0) 1 Try.underlying29 hi0 hz0 hz1 hz2 rfl (.slice none 0 0) 0 [] rfl (World.ownsRow_nil _ _ _ _) B bc (u8s bs) bs.length rfl (u8s_length bs) HR2.out (u8s_one bs) ?c3 ?c4 ?c5 ?_)
  case c3 => simp only [maxLen]; omega
  case c4 => omega
  case c5 => omega
  intro v3 w3 o1 o2 o3
  obtain ⟨A3, c3, rfl⟩ := own_slice o1
  have hx : Ext w2 w3 := Ext.of ((Below.refl _ _).grown o2 (Nat.le_refl _) (by simp [Value.ownBlock]))
  have O1 := Lib.hid o1
  have HX := Lib.hid hx
  clear o1 o2 o3 hx
  go_wp2
  go_ret
  exact ⟨_, A', cap', rfl, O1.out, H2.out.ext HX.out⟩

theorem rcut_len2 (st : WS) (n : Nat) : (rcut st n).1.length ≤ st.2.length := by
  unfold rcut
  split
  · split
    · simp; omega
    · simp
  · simp

theorem rraw_any (p : Nat) (st : WS) (A : Option Addr) (cap : Nat) (n : Int) (w : World) (h : Rst w p st A cap) (hn : n ≤ 140737488355328 ∨ (st.2.length ≤ 140737488355328 ∧ n ≤ 9223372036854775807)) (hn0 : -9223372036854775808 ≤ n) :
    Calls Try.prog 31 #[.pointer (some ⟨p, 0, none⟩), .int .i64 n] w fun r w' => OwnR p w A (rraw n st).1 (rraw n st).2 r w' := by
  obtain ⟨i0, hi0, hz0, hz1, hz2⟩ := info_parts info_u8
  have H := Lib.hid h
  clear h
  by_cases hlt : n < 0
  · have HR : Hid (rraw n st = ([], wfail st 1)) := Lib.hid (by simp [rraw, hlt])
    go_enter Try.func31, Try.ntmps31
    go_wp2_with fail
    refine (rfail_any p st A cap 1 _ H.out).mono ?_
    rintro e w1 ⟨rfl, h1⟩
    have H1 := Lib.hid h1
    clear h1 H
    go_wp2
    go_ret
    rw [HR.out]
    exact OwnR.nil _ _ _ _ _ _ _ H1.out
  · have HR : Hid (rraw n st = rcut st n.toNat) := Lib.hid (by simp [rraw, hlt])
    obtain ⟨n, rfl⟩ := Int.eq_ofNat_of_zero_le (by omega : 0 ≤ n)
    rw [Int.toNat_natCast] at HR
    have hl0 := rcut_len st n
    have hl1 := rcut_len2 st n
    have hl : (rcut st n).1.length ≤ 140737488355328 := by omega
    replace hn : n ≤ 9223372036854775807 := by omega
    clear hl0 hl1
    go_enter Try.func31, Try.ntmps31
    go_wp2_with fail
    refine (cut_any p st A cap n w H.out (by omega)).mono ?_
    rintro e w2 ⟨B, bc, A', cap', rfl, h2, hr2, hin, hfo, hbc, hbm⟩
    generalize rcut st n = q at *
    obtain ⟨bs, s2⟩ := q
    simp only at hl h2 hr2 hin hfo hbc hbm
    have H2 := Lib.hid h2
    have HR2 := Lib.hid hr2
    have hws := h2.chg.size
    clear H h2 hr2 hin hfo
    go_wp2_with (at_builtin; refine wpList_app_rd2 rfl _ _ 29 rfl w.heap.size 5 i0 (.int .u8 0) 1 Try.underlying29 hi0 hz0 hz1 hz2 rfl (.slice none 0 0) 0 [] rfl (World.ownsRow_nil _ _ _ _) B bc (u8s bs) bs.length rfl (u8s_length bs) HR2.out (u8s_one bs) ?c3 ?c4 ?c5 ?_)
    case c3 => simp only [maxLen]; omega
    case c4 => omega
    case c5 => omega
    intro v3 w3 o1 o2 o3
    obtain ⟨A3, c3, rfl⟩ := own_slice o1
    have hx : Ext w2 w3 := Ext.of ((Below.refl _ _).grown o2 (Nat.le_refl _) (by simp [Value.ownBlock]))
    have O1 := Lib.hid o1
    have HX := Lib.hid hx
    clear o1 o2 o3 hx
    go_wp2
    go_ret
    rw [HR.out]
    exact ⟨_, A', cap', rfl, O1.out, H2.out.ext HX.out⟩

end Go.Proofs.Ytjgghahjcmdnmaa
