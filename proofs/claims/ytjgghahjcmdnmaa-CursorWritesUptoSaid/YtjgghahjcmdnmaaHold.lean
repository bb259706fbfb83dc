/- Bytes that are lent, and held against what they were. -/
import Derived.Test.YtjgghahjcmdnmaaFormP
import Derived.Laws.CopyOwn
import Derived.Laws.OwnMore
import Derived.Laws.MakeOwn
namespace Go.Proofs.Ytjgghahjcmdnmaa
open Go.RowKit Pl
set_option linter.unusedVariables false

/-- a row of the call's own that is full is a block known whole -/
theorem own_whole {w : World} {base : Nat} {e : TypeId} {g n : Nat} {xs : List Value} (h : w.ownsRow base e 1 (.slice (some ⟨g, 0, none⟩) n n) n xs) : Blk w g e xs.toArray := by
  rcases h.2 with ⟨h', _⟩ | ⟨g', cap', cur, h', _, hg, _, _, hs, ht⟩
  · cases h'
  · simp only [Value.slice.injEq, Option.some.injEq, Addr.mk.injEq, and_true, true_and] at h'
    obtain ⟨rfl, rfl⟩ := h'
    rw [List.take_of_length_le (by rw [Array.length_toList, hs]; exact Nat.le_refl _)] at ht
    rw [← ht]
    exact hg

theorem Blk.rd {w : World} {g : Nat} {e : TypeId} {xs : List Value} (h : Blk w g e xs.toArray) : Rd w (some ⟨g, 0, none⟩) xs := by
  intro i hi
  exact ⟨g, 0, rfl, by rw [Nat.zero_add]; exact h.cell i (by simp [hi])⟩

theorem Blk.setL {w : World} {g : Nat} {e : TypeId} {xs : List Value} (h : Blk w g e xs.toArray) (k : Nat) (u : Value) : Blk (w.setCell ⟨g, k, none⟩ u) g e (xs.set k u).toArray := by
  have := h.set k u
  rw [List.setIfInBounds_toArray] at this
  exact this

/-- three marks behind bytes -/
def lent (b : List UInt8) (k : Nat) : List Value := u8s b ++ (List.replicate k (.int .u8 201) ++ List.replicate (3 - k) (.int .u8 0))

theorem lent_len (b : List UInt8) (k : Nat) (h : k ≤ 3) : (lent b k).length = b.length + 3 := by simp [lent, u8s_length]; omega
theorem lent_set (b : List UInt8) (k : Nat) (h : k < 3) : (lent b k).set (b.length + k) (.int .u8 201) = lent b (k + 1) := by
  unfold lent
  rw [List.set_append_right _ _ (by rw [u8s_length]; omega), u8s_length, Nat.add_sub_cancel_left]
  match k, h with
  | 0, _ => rfl
  | 1, _ => rfl
  | 2, _ => rfl

def Lent (w : World) (bs : List UInt8) (r : Ending) (w' : World) : Prop :=
  ∃ g, r = .returned (.slice (some ⟨g, 0, none⟩) bs.length (bs.length + 3)) ∧ w.heap.size ≤ g ∧ Blk w' g 5 (lent bs 3).toArray ∧ Ext w w'

theorem lent_any (B : Option Addr) (bcap : Nat) (bs : List UInt8) (w : World) (hB : Rd w B (u8s bs)) (hl : bs.length ≤ 140737488351232) :
    Calls Try.prog 19 #[.slice B bs.length bcap] w fun r w' => Lent w bs r w' := by
  obtain ⟨i0, hi0, hz0, hz1, hz2⟩ := info_parts info_u8
  have HB := Lib.hid hB
  clear hB
  go_enter Try.func19, Try.ntmps19
  go_wp2_with (at_make; refine wpList_make_full _ rfl _ _ 29 rfl w.heap.size 5 i0 (.int .u8 0) 1 Try.underlying29 hi0 hz0 hz1 .i64 .i64 _ _ (bs.length + 3) rfl rfl (by omega) (by omega) ?c1 ?c2 ?c3 ?_)
  case c1 => rw [hz2]; omega
  case c2 => unfold maxLen; omega
  case c3 => exact Nat.le_refl _
  intro w1 hown1 hg1
  have hx1 : Ext w w1 := Ext.of ((Below.refl _ _).grown hg1 (Nat.le_refl _) (fun k h => by cases h))
  have e1 : (madeCells #[Value.int IntKind.u8 0] (bs.length + 3)).toList = List.replicate (bs.length + 3) (Value.int IntKind.u8 0) := by rw [toList_madeCells_one]
  have hb1 : Blk w1 w.heap.size 5 (List.replicate (bs.length + 3) (Value.int IntKind.u8 0)).toArray := by
    have := own_whole hown1
    rw [e1] at this
    exact this
  have HX1 := Lib.hid hx1
  have HB1 := Lib.hid hb1
  clear hown1 hg1 hx1 e1 hb1
  go_wp2_with (refine wpList_copy_splice (o := ⟨some 11, _, _, _, _, _⟩) rfl (.tmp 9) (.tmp 10) 29 29 rfl 5 Try.underlying29 (by kernel_rfl) (some ⟨w.heap.size, 0, none⟩) B (bs.length + 3) (bs.length + 3) bs.length bcap rfl rfl w.heap.size 0 (List.replicate (bs.length + 3) (Value.int IntKind.u8 0)) 5 HB1.out (u8s bs) ?c1 ?c2 ?c3 (u8s_one bs) w.heap.size w HX1.out (Nat.le_refl _) ?_)
  case c1 => rw [u8s_length]; exact (Nat.min_eq_left (by omega)).symm
  case c2 =>
    intro hpos
    obtain ⟨b, off, rfl, _⟩ := HB.out 0 hpos
    refine ⟨_, rfl, fun j v hj => ?_⟩
    obtain ⟨hj', rfl⟩ := List.getElem?_eq_some_iff.1 hj
    obtain ⟨b', off', he, hc⟩ := (HX1.out.rd HB.out) j hj'
    simp only [Option.some.injEq, Addr.mk.injEq, and_true] at he
    obtain ⟨rfl, rfl⟩ := he
    rw [Addr.add_lit]; exact hc
  case c3 => rw [u8s_length, List.length_replicate]; omega
  intro w2 hb2 hx2
  have hs2 : splice (List.replicate (bs.length + 3) (Value.int IntKind.u8 0)) 0 (u8s bs) = lent bs 0 := by
    unfold splice lent
    rw [u8s_length, List.drop_replicate]
    simp
  rw [hs2] at hb2
  have HB2 : Hid (Blk w2 w.heap.size 5 (lent bs 0).toArray) := hb2
  have HX2 : Hid (Ext w w2) := Lib.hid hx2
  clear hb2 hx2 hs2 HB1 HX1
  go_wp2_with fail
  go_loopw [4] (fun i wr => ∃ k : Nat, k ≤ 3 ∧ i = .int .i64 (bs.length + k : Nat) ∧ Blk wr w.heap.size 5 (lent bs k).toArray ∧ Ext w wr) (fun i _ => bs.length + 3 - (intOf i).toNat)
  case atStart => exact ⟨0, by omega, rfl, HB2.out, HX2.out⟩
  case round =>
    clear HB2 HX2
    obtain ⟨k, hk, rfl, hb, hx⟩ := hrel
    by_cases hlt : k < 3
    · have hll := lent_len bs k hk
      have HE := Lib.hid (lent_set bs k hlt)
      have hc : wr.cell? ⟨w.heap.size, bs.length + k, none⟩ = some ((lent bs k)[bs.length + k]'(by omega)) := hb.cell _ (by simp)
      have f0 := hb.frozen (bs.length + k)
      generalize (lent bs k)[bs.length + k]'(by omega) = old at *
      have HB := Lib.hid hb
      have HX := Lib.hid hx
      clear hb hx
      go_wp2
      go_roundw
      case rel =>
        refine ⟨k + 1, by omega, by go_num, ?_, Ext.of (HX.out.below.setCell (Nat.le_refl _) _)⟩
        have := HB.out.set (bs.length + k) (.int .u8 201)
        rw [List.setIfInBounds_toArray, HE.out] at this
        exact this
      case measure => simp [intOf]; omega
    · obtain rfl : k = 3 := by omega
      have HB := Lib.hid hb
      have HX := Lib.hid hx
      clear hb hx
      go_wp2
      go_ret
      exact ⟨w.heap.size, rfl, Nat.le_refl _, HB.out, HX.out⟩

/-- lent bytes are as they were, and the owner writes over them -/
theorem back_any (g : Nat) (B : Option Addr) (bcap : Nat) (bs : List UInt8) (w : World) (hg : Blk w g 5 (lent bs 3).toArray) (hB : Rd w B (u8s bs)) (hne : ∀ b o, B = some ⟨b, o, none⟩ → 0 < bs.length → b ≠ g) (hl : bs.length ≤ 140737488351232) :
    Calls Try.prog 21 #[.slice (some ⟨g, 0, none⟩) bs.length (bs.length + 3), .slice B bs.length bcap] w fun r w' => r = .returned (.bool true) ∧ Chg (fun k => k = g) w w' := by
  have HB := Lib.hid hB
  have HG := Lib.hid hg
  have HN := Lib.hid hne
  clear hB hg hne
  go_enter Try.func21, Try.ntmps21
  go_wp2_with fail
  go_loopw [6, 7] (fun ok i wr => ∃ (k : Nat) (M : List Value), k ≤ bs.length + 3 ∧ ok = .bool true ∧ i = .int .i64 k ∧ M.length = bs.length + 3 ∧ Blk wr g 5 M.toArray ∧ (∀ j, k ≤ j → M[j]? = (lent bs 3)[j]?) ∧ Chg (fun k => k = g) w wr) (fun _ i _ => bs.length + 3 - (intOf i).toNat)
  case atStart => exact ⟨0, lent bs 3, by omega, rfl, rfl, lent_len bs 3 (by omega), HG.out, fun _ _ => rfl, Chg.refl _ _⟩
  case round =>
    clear HG
    obtain ⟨k, M, hk, rfl, rfl, hMl, hM, hMj, hx⟩ := hrel
    by_cases hlt : k < bs.length
    · obtain ⟨b, o, rfl, hc⟩ := HB.out.u8 hlt
      have hbg := HN.out b o rfl (by omega)
      replace hc := hx.cell hc hbg
      have hl : (lent bs 3)[k]? = some (.int .u8 (((bs.getD k 0).toNat : Nat) : Int)) := by
        unfold lent
        rw [List.getElem?_append_left (by rw [u8s_length]; exact hlt), List.getD_eq_getElem?_getD, List.getElem?_eq_getElem hlt]
        simp [u8s, hlt]
      have hcg : wr.cell? ⟨g, k, none⟩ = some (.int .u8 (((bs.getD k 0).toNat : Nat) : Int)) := hM.cell k (by rw [List.getElem?_toArray, hMj k (Nat.le_refl _)]; exact hl)
      have hf := hM.frozen k
      have hx0 : (bs.getD k 0).toNat < 256 := (bs.getD k 0).toNat_lt
      generalize (bs.getD k 0).toNat = x at *
      have HM := Lib.hid hM
      have HMJ := Lib.hid hMj
      have HML := Lib.hid hMl
      have HX := Lib.hid hx
      clear hM hMj hMl hx hl
      go_wp2
      go_roundw
      case rel =>
        exact ⟨k + 1, _, by omega, rfl, by go_num, by rw [List.length_set]; exact HML.out, HM.out.setL k _, fun j hj => by rw [List.getElem?_set_ne (by omega)]; exact HMJ.out j (by omega), HX.out.trans (Chg.set _ _ _ _) (fun i hi => .inl hi)⟩
      case measure => simp [intOf]; omega
    · by_cases hlt3 : k < bs.length + 3
      · have hl : (lent bs 3)[k]? = some (.int .u8 201) := by
          unfold lent
          rw [List.getElem?_append_right (by rw [u8s_length]; omega), u8s_length]
          obtain ⟨d, rfl, hd⟩ : ∃ d, k = bs.length + d ∧ d < 3 := ⟨k - bs.length, by omega, by omega⟩
          rw [Nat.add_sub_cancel_left]
          match d, hd with
          | 0, _ => rfl
          | 1, _ => rfl
          | 2, _ => rfl
        have hcg : wr.cell? ⟨g, k, none⟩ = some (.int .u8 201) := hM.cell k (by rw [List.getElem?_toArray, hMj k (Nat.le_refl _)]; exact hl)
        have hf := hM.frozen k
        have HM := Lib.hid hM
        have HMJ := Lib.hid hMj
        have HML := Lib.hid hMl
        have HX := Lib.hid hx
        clear hM hMj hMl hx hl
        go_wp2
        go_roundw
        case rel =>
          exact ⟨k + 1, _, by omega, rfl, by go_num, by rw [List.length_set]; exact HML.out, HM.out.setL k _, fun j hj => by rw [List.getElem?_set_ne (by omega)]; exact HMJ.out j (by omega), HX.out.trans (Chg.set _ _ _ _) (fun i hi => .inl hi)⟩
        case measure => simp [intOf]; omega
      · have HX := Lib.hid hx
        clear hx hM hMj hMl
        go_wp2
        go_ret
        exact ⟨rfl, HX.out⟩

end Go.Proofs.Ytjgghahjcmdnmaa
