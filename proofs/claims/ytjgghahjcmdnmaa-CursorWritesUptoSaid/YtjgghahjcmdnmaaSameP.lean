/- Plain facts: what was put is read back, and of a part of it what is there. -/
import Derived.Test.YtjgghahjcmdnmaaSame2
import Derived.Test.YtjgghahjcmdnmaaNumP
import Derived.Test.YtjgghahjcmdnmaaWrit
namespace Go.Proofs.Ytjgghahjcmdnmaa
open Go.RowKit Pl
set_option linter.unusedVariables false

theorem rcut_pre (a r : List UInt8) : rcut (0, a ++ r) a.length = (a, (0, r)) := by simp [rcut]

theorem rpart_back (z most : Nat) (s r : List UInt8) (hs : sizedB z = true) (hf : fitsB (s.length : Int) z = true) (hm : s.length ≤ most) (hl : s.length ≤ 1048576) : rpart z most (0, digs z s.length ++ s ++ r) = (s, (0, r)) := by
  have h1 := rnum_digs z s.length (s ++ r) hs hf (by omega)
  unfold rpart
  rw [List.append_assoc, h1]
  have e : ((s.length : Int) ≤ (most : Int)) := by omega
  simp only [e, if_true, Int.toNat_natCast, rcut_pre]

/-- one number after the other is read back -/
theorem numSame_back (z : Nat) (hs : sizedB z = true) : ∀ (ns : List Int) (r : List UInt8), (∀ n ∈ ns, fitsB n z = true ∧ -9223372036854775808 ≤ n ∧ n ≤ 9223372036854775807) →
    numSame z (0, ns.flatMap (digs z) ++ r) ns = (true, (0, r))
  | [], r, _ => rfl
  | n :: ns, r, h => by
    have h1 := h n (by simp)
    have h2 := rnum_digs z n (ns.flatMap (digs z) ++ r) hs h1.1 h1.2
    rw [List.flatMap_cons, List.append_assoc]
    unfold numSame
    rw [h2]
    simp only [if_true]
    exact numSame_back z hs ns r (fun m hm => h m (by simp [hm]))

theorem wnum_ok (size : Int) (ns : List Int) : ∀ b : List UInt8, (wnum size (0, b) ns).1 = 0 → sizedB size = true ∧ (∀ n ∈ ns, fitsB n size = true) ∧ wnum size (0, b) ns = (0, b ++ ns.flatMap (digs size.toNat)) := by
  cases hs : sizedB size
  · intro b h
    rw [wnum_unsized _ _ _ hs] at h
    simp [wfail] at h
  · unfold wnum
    rw [hs]
    simp only [if_true]
    induction ns with
    | nil => intro b _; simp
    | cons n r ih =>
      intro b h
      rw [List.foldl_cons] at h ⊢
      cases hf : fitsB n size
      · have ea : wnum1 size (0, b) n = (10, b) := by simp [wnum1, hf]
        rw [ea, wnum1_stuck _ _ _ (by simp)] at h
        simp at h
      · have ea : wnum1 size (0, b) n = (0, b ++ digs size.toNat n) := by simp [wnum1, hf]
        rw [ea] at h ⊢
        obtain ⟨_, h2, h3⟩ := ih _ h
        refine ⟨trivial, ?_, ?_⟩
        · intro m hm
          rcases List.mem_cons.1 hm with rfl | hm
          · exact hf
          · exact h2 m hm
        · rw [h3, List.flatMap_cons, List.append_assoc]

theorem rcut_stuck (st : WS) (n : Nat) (h : st.1 ≠ 0) : rcut st n = ([], st) := by simp [rcut, h]
theorem wfail_stuck (st : WS) (e : Int) (h : st.1 ≠ 0) : wfail st e = st := by simp [wfail, h]
theorem rnum_stuck (size : Int) (st : WS) (h : st.1 ≠ 0) : rnum size st = (0, st) := by
  unfold rnum
  rw [rcut_stuck _ _ h, wfail_stuck _ _ h]
  split <;> rfl
theorem rpart_stuck (z most : Nat) (st : WS) (h : st.1 ≠ 0) : rpart z most st = ([], st) := by
  unfold rpart
  rw [rnum_stuck _ _ h]
  have e : ((0 : Int) ≤ (most : Int)) := by omega
  simp only [e, if_true]
  rw [rcut_stuck _ _ h]
  simp [h]
theorem numSame_stuck (size : Int) (st : WS) (h : st.1 ≠ 0) : ∀ ns : List Int, (numSame size st ns).2 = st
  | [] => rfl
  | n :: r => by
    unfold numSame
    rw [rnum_stuck _ _ h]
    split
    · exact numSame_stuck size st h r
    · rfl
theorem textSame_stuck (st : WS) (h : st.1 ≠ 0) : ∀ ns : List ByteArray, (textSame st ns).2 = st
  | [] => rfl
  | n :: r => by
    unfold textSame
    rw [rpart_stuck _ _ _ h]
    split
    · exact textSame_stuck st h r
    · rfl

/-- a reader's state behind bytes that fall short -/
def Short (k : Nat) (st : WS) : Prop := st.1 = 11 ∧ st.2.length ≤ k

theorem numSame_short (z : Nat) (hs : sizedB z = true) : ∀ (ns : List Int) (k : Nat), (∀ n ∈ ns, fitsB n z = true ∧ -9223372036854775808 ≤ n ∧ n ≤ 9223372036854775807) → k < (ns.flatMap (digs z)).length →
    Short k (numSame z (0, (ns.flatMap (digs z)).take k) ns).2
  | [], k, _, h => by simp at h
  | n :: ns, k, h, hk => by
    rw [List.flatMap_cons] at hk ⊢
    have hd := digs_length z n
    by_cases hkz : k < z
    · have h1 : (digs z n ++ ns.flatMap (digs z)).take k = (digs z n).take k := by rw [List.take_append_of_le_length (by omega)]
      have hl : ((digs z n).take k).length = k := by rw [List.length_take]; omega
      have h2 : rnum z (0, (digs z n).take k) = (0, (11, (digs z n).take k)) := by
        unfold rnum rcut
        rw [hs]
        simp only [if_true, Int.toNat_natCast, hl]
        rw [if_neg (by omega)]
        rfl
      rw [h1]
      unfold numSame
      rw [h2]
      have h3 := numSame_stuck z (11, (digs z n).take k) (by simp) ns
      split
      · rw [h3]; exact ⟨rfl, by simp only [hl]; omega⟩
      · exact ⟨rfl, by simp only [hl]; omega⟩
    · have h1 : (digs z n ++ ns.flatMap (digs z)).take k = digs z n ++ (ns.flatMap (digs z)).take (k - z) := by
        rw [List.take_append, hd, List.take_of_length_le (by omega)]
      have hn := h n (by simp)
      rw [h1]
      unfold numSame
      rw [rnum_digs z n _ hs hn.1 hn.2]
      simp only [if_true]
      rw [List.length_append, hd] at hk
      have := numSame_short z hs ns (k - z) (fun m hm => h m (by simp [hm])) (by omega)
      exact ⟨this.1, by have := this.2; omega⟩

theorem rpart_short (z most : Nat) (s : List UInt8) (k : Nat) (hs : sizedB z = true) (hf : fitsB (s.length : Int) z = true) (hm : s.length ≤ most) (hl : s.length ≤ 1048576) (hk : k < z + s.length) :
    rpart z most (0, (digs z s.length ++ s).take k) = ([], (11, (digs z s.length ++ s).take k)) := by
  have hd := digs_length z s.length
  by_cases hkz : k < z
  · have h1 : (digs z s.length ++ s).take k = (digs z s.length).take k := by rw [List.take_append_of_le_length (by omega)]
    have hlk : ((digs z s.length).take k).length = k := by rw [List.length_take]; omega
    have h2 : rnum z (0, (digs z s.length).take k) = (0, (11, (digs z s.length).take k)) := by
      unfold rnum rcut
      rw [hs]
      simp only [if_true, Int.toNat_natCast, hlk]
      rw [if_neg (by omega)]
      rfl
    rw [h1]
    unfold rpart
    rw [h2]
    have e : ((0 : Int) ≤ (most : Int)) := by omega
    simp only [e, if_true]
    rw [rcut_stuck _ _ (by simp)]
    simp
  · have h1 : (digs z s.length ++ s).take k = digs z s.length ++ s.take (k - z) := by rw [List.take_append, hd, List.take_of_length_le (by omega)]
    rw [h1]
    unfold rpart
    rw [rnum_digs z s.length _ hs hf (by omega)]
    have e : ((s.length : Int) ≤ (most : Int)) := by omega
    simp only [e, if_true, Int.toNat_natCast]
    have h2 : rcut (0, s.take (k - z)) s.length = ([], (11, s.take (k - z))) := by
      unfold rcut
      simp only [if_true]
      rw [if_neg (by rw [List.length_take]; omega)]
    rw [h2]
    simp

/-- a text as it is put -/
def tput (s : List UInt8) : List UInt8 := digs 2 s.length ++ s

theorem tput_len (s : List UInt8) : (tput s).length = 2 + s.length := by simp [tput, digs_length]
theorem txt_back (s : ByteArray) : (⟨(txt s).toArray⟩ : ByteArray) = s := by cases s; simp [txt]
theorem fits2 (s : List UInt8) (h : s.length ≤ 4096) : fitsB (s.length : Int) 2 = true := by simp [fitsB]; omega

theorem textSame_back : ∀ (ss : List ByteArray) (r : List UInt8), (∀ s ∈ ss, (txt s).length ≤ 4096) → textSame (0, (ss.map txt).flatMap tput ++ r) ss = (true, (0, r))
  | [], r, _ => rfl
  | s :: ss, r, h => by
    have h1 := h s (by simp)
    have h2 := rpart_back 2 4096 (txt s) ((ss.map txt).flatMap tput ++ r) rfl (fits2 _ h1) h1 (by omega)
    rw [List.map_cons, List.flatMap_cons, List.append_assoc]
    unfold textSame
    have e : tput (txt s) ++ ((ss.map txt).flatMap tput ++ r) = digs 2 (txt s).length ++ txt s ++ ((ss.map txt).flatMap tput ++ r) := by simp [tput]
    rw [e, h2]
    simp only [txt_back, if_true]
    exact textSame_back ss r (fun m hm => h m (by simp [hm]))

theorem wtext_ok (ss : List (List UInt8)) : ∀ b : List UInt8, (wtext (0, b) ss).1 = 0 → (∀ s ∈ ss, s.length ≤ 4096) ∧ wtext (0, b) ss = (0, b ++ ss.flatMap tput) := by
  induction ss with
  | nil => intro b _; simp [wtext]
  | cons s r ih =>
    intro b h
    have e : ∀ x : List UInt8, wtext (0, x) (s :: r) = wtext (wtext1 (0, x) s) r := fun _ => rfl
    rw [e] at h ⊢
    by_cases hs : s.length ≤ 4096
    · have ea : wtext1 (0, b) s = (0, b ++ tput s) := by simp [wtext1, hs, tput]
      rw [ea] at h ⊢
      obtain ⟨h2, h3⟩ := ih _ h
      refine ⟨?_, by rw [h3, List.flatMap_cons, List.append_assoc]⟩
      intro m hm
      rcases List.mem_cons.1 hm with rfl | hm
      · exact hs
      · exact h2 m hm
    · have ea : wtext1 (0, b) s = (2, b) := by simp [wtext1, hs]
      rw [ea] at h
      have : ∀ l : List (List UInt8), wtext (2, b) l = (2, b) := by
        intro l
        unfold wtext
        induction l with
        | nil => rfl
        | cons s r ih => rw [List.foldl_cons]; simpa [wtext1] using ih
      rw [this] at h
      simp at h

theorem textSame_short : ∀ (ss : List ByteArray) (k : Nat), (∀ s ∈ ss, (txt s).length ≤ 4096) → k < ((ss.map txt).flatMap tput).length → Short k (textSame (0, ((ss.map txt).flatMap tput).take k) ss).2
  | [], k, _, h => by simp at h
  | s :: ss, k, h, hk => by
    rw [List.map_cons, List.flatMap_cons] at hk ⊢
    have hs := h s (by simp)
    have hd := tput_len (txt s)
    by_cases hkz : k < 2 + (txt s).length
    · have h1 : (tput (txt s) ++ (ss.map txt).flatMap tput).take k = (tput (txt s)).take k := by rw [List.take_append_of_le_length (by omega)]
      have hlk : ((tput (txt s)).take k).length = k := by rw [List.length_take]; omega
      have h2 := rpart_short 2 4096 (txt s) k rfl (fits2 _ hs) hs (by omega) hkz
      have h2' : rpart 2 4096 (0, (tput (txt s)).take k) = ([], (11, (tput (txt s)).take k)) := h2
      rw [h1]
      unfold textSame
      rw [h2']
      have h3 := textSame_stuck (11, (tput (txt s)).take k) (by simp) ss
      split
      · rw [h3]; exact ⟨rfl, by simp only [hlk]; omega⟩
      · exact ⟨rfl, by simp only [hlk]; omega⟩
    · have h1 : (tput (txt s) ++ (ss.map txt).flatMap tput).take k = digs 2 (txt s).length ++ txt s ++ ((ss.map txt).flatMap tput).take (k - (2 + (txt s).length)) := by
        rw [List.take_append, hd, List.take_of_length_le (by omega)]; rfl
      rw [h1]
      unfold textSame
      rw [rpart_back 2 4096 (txt s) _ rfl (fits2 _ hs) hs (by omega)]
      simp only [txt_back, if_true]
      rw [List.length_append, hd] at hk
      have := textSame_short ss (k - (2 + (txt s).length)) (fun m hm => h m (by simp [hm])) (by omega)
      exact ⟨this.1, by have := this.2; omega⟩

/-- a piece's bytes -/
def pbytes (p : Pc) : List UInt8 :=
  if p.kind = 0 then p.ns.flatMap (digs p.size.toNat) else if p.kind = 1 then (p.ss.map txt).flatMap tput else if p.kind = 2 then digs 4 p.bs.length ++ p.bs else if p.kind = 3 then p.bs else []

theorem fits4 (s : List UInt8) (h : s.length ≤ 1048576) : fitsB (s.length : Int) 4 = true := by simp [fitsB]; omega

theorem piece_law (p : Pc) (b : List UInt8) (hn : ∀ n ∈ p.ns, -9223372036854775808 ≤ n ∧ n ≤ 9223372036854775807) (h : (wput (0, b) p).1 = 0) :
    wput (0, b) p = (0, b ++ pbytes p) ∧ (∀ r, psame (0, pbytes p ++ r) p = (true, (0, r))) ∧ ∀ k, k < (pbytes p).length → Short k (psame (0, (pbytes p).take k) p).2 := by
  by_cases k0 : p.kind = 0
  · have e1 : ∀ st, wput st p = wnum p.size st p.ns := fun st => by simp [wput, k0]
    have e2 : ∀ st, psame st p = numSame p.size st p.ns := fun st => by simp [psame, k0]
    have e3 : pbytes p = p.ns.flatMap (digs p.size.toNat) := by simp [pbytes, k0]
    rw [e1] at h
    obtain ⟨hs, hf, hw⟩ := wnum_ok p.size p.ns b h
    have hz : 0 ≤ p.size := by have := sizedB_cases hs; omega
    obtain ⟨z, hzz⟩ := Int.eq_ofNat_of_zero_le hz
    rw [e1, e3, hw]
    rw [hzz] at hs hf ⊢
    rw [Int.toNat_natCast]
    refine ⟨rfl, fun r => ?_, fun k hk => ?_⟩
    · rw [e2, hzz]; exact numSame_back z hs p.ns r (fun n hm => ⟨hf n hm, hn n hm⟩)
    · rw [e2, hzz]; exact numSame_short z hs p.ns k (fun n hm => ⟨hf n hm, hn n hm⟩) hk
  by_cases k1 : p.kind = 1
  · have e1 : ∀ st, wput st p = wtext st (p.ss.map txt) := fun st => by simp [wput, k1]
    have e2 : ∀ st, psame st p = textSame st p.ss := fun st => by simp [psame, k1]
    have e3 : pbytes p = (p.ss.map txt).flatMap tput := by simp [pbytes, k1]
    rw [e1] at h
    obtain ⟨hl, hw⟩ := wtext_ok (p.ss.map txt) b h
    have hl' : ∀ s ∈ p.ss, (txt s).length ≤ 4096 := fun s hs => hl _ (List.mem_map.2 ⟨s, hs, rfl⟩)
    rw [e1, e3, hw]
    exact ⟨rfl, fun r => by rw [e2]; exact textSame_back p.ss r hl', fun k hk => by rw [e2]; exact textSame_short p.ss k hl' hk⟩
  by_cases k2 : p.kind = 2
  · have e1 : ∀ st, wput st p = wblock st p.bs := fun st => by simp [wput, k2]
    have e2 : ∀ st, psame st p = (decide ((rpart 4 1048576 st).1 = p.bs), (rpart 4 1048576 st).2) := fun st => by simp [psame, k2]
    have e3 : pbytes p = digs 4 p.bs.length ++ p.bs := by simp [pbytes, k2]
    rw [e1] at h
    have hl : p.bs.length ≤ 1048576 := by
      by_cases hl : p.bs.length ≤ 1048576
      · exact hl
      · simp [wblock, hl] at h
    rw [e1, e3]
    refine ⟨by simp [wblock, hl], fun r => ?_, fun k hk => ?_⟩
    · rw [e2, rpart_back 4 1048576 p.bs r rfl (fits4 _ hl) hl hl]; simp
    · rw [List.length_append, digs_length] at hk
      rw [e2, rpart_short 4 1048576 p.bs k rfl (fits4 _ hl) hl hl hk]
      exact ⟨rfl, by simp only [List.length_take]; omega⟩
  by_cases k3 : p.kind = 3
  · have e1 : ∀ st, wput st p = wraw st p.bs := fun st => by simp [wput, k3]
    have e2 : ∀ st, psame st p = (decide ((rraw p.bs.length st).1 = p.bs), (rraw p.bs.length st).2) := fun st => by simp [psame, k3]
    have e3 : pbytes p = p.bs := by simp [pbytes, k3]
    rw [e1, e3]
    refine ⟨by simp [wraw], fun r => ?_, fun k hk => ?_⟩
    · have : rraw p.bs.length (0, p.bs ++ r) = (p.bs, (0, r)) := by
        unfold rraw
        rw [if_neg (by omega), Int.toNat_natCast, rcut_pre]
      rw [e2, this]; simp
    · have : rraw p.bs.length (0, p.bs.take k) = ([], (11, p.bs.take k)) := by
        unfold rraw rcut
        rw [if_neg (by omega), Int.toNat_natCast]
        simp only [if_true]
        rw [if_neg (by rw [List.length_take]; omega)]
      rw [e2, this]
      exact ⟨rfl, by simp only [List.length_take]; omega⟩
  · have e3 : pbytes p = [] := by simp [pbytes, k0, k1, k2, k3]
    rw [e3]
    exact ⟨by simp [wput, k0, k1, k2, k3], fun r => by simp [psame, k0, k1, k2, k3], fun k hk => by simp at hk⟩

end Go.Proofs.Ytjgghahjcmdnmaa
