/- The reference's Same, the law's own 'spoil': what they return, and what they write. -/
import Derived.Test.YtejdknmlggdndaaSieve3
import Derived.Test.YtejdknmlggdndaaSieve4
namespace Go.Proofs.Ytejdknmlggdndaa
open Go.RowKit Pl
set_option linter.unusedVariables false

theorem bdrewN {B : Nat} {a w : World} (h : Below B a w) (n : Nat) : Below B a (w.drewN n) := ⟨h.os, h.tape, h.output, h.size, h.block⟩

theorem ext_getD {a b : List Nat} (hl : a.length = b.length) (h : ∀ i, i < a.length → a.getD i 0 = b.getD i 0) : a = b := by
  apply List.ext_getElem hl
  intro i h1 h2
  have := h i h1
  rw [List.getD_eq_getElem?_getD, List.getElem?_eq_getElem h1, List.getD_eq_getElem?_getD, List.getElem?_eq_getElem h2] at this
  exact this

def sameB (x y : List Nat × Int) : Bool := decide (x = y)

set_option maxHeartbeats 800000 in
theorem same_any (A B : Option Addr) (ca cb : Nat) (a b : List Nat) (s t : Int) (w : World) (ha : Rd w A (u64s a)) (hb : Rd w B (u64s b)) (la : a.length ≤ maxLen) (lb : b.length ≤ maxLen) :
    Calls Try.prog 37 #[.agg #[.slice A a.length ca, .int .i64 s], .agg #[.slice B b.length cb, .int .i64 t]] w fun e w' => e = .returned (.bool (sameB (a, s) (b, t))) ∧ Below w.heap.size w w' := by
  unfold maxLen at la lb
  by_cases hst : s = t
  · subst hst
    have e1 : (s != s) = false := by simp
    by_cases hl : a.length = b.length
    · have e2 : ((a.length : Int) != (b.length : Int)) = false := by rw [hl]; simp
      have HL := Lib.hid hl
      have HA := Lib.hid ha
      have HB := Lib.hid hb
      clear hl ha hb
      go_enter Try.func37, Try.ntmps37
      go_wp2
      have k0 : ((w.alloc (.cells #[.slice A a.length ca, .int .i64 s] 27)).alloc (.cells #[.slice B b.length cb, .int .i64 s] 27)).cell? ⟨w.heap.size, 0, none⟩ = some (.slice A a.length ca) := cold (cnew _ _ _ 0 rfl)
      have k1 : ((w.alloc (.cells #[.slice A a.length ca, .int .i64 s] 27)).alloc (.cells #[.slice B b.length cb, .int .i64 s] 27)).cell? ⟨w.heap.size + 1, 0, none⟩ = some (.slice B b.length cb) := by
        simp
      have jb : Below w.heap.size w ((w.alloc (.cells #[.slice A a.length ca, .int .i64 s] 27)).alloc (.cells #[.slice B b.length cb, .int .i64 s] 27)) := ((Below.refl _ _).alloc (Nat.le_refl _) _).alloc (by simp) _
      generalize (w.alloc (.cells #[.slice A a.length ca, .int .i64 s] 27)).alloc (.cells #[.slice B b.length cb, .int .i64 s] 27) = W at *
      go_loopw [5] (fun i wr => ∃ k : Nat, k ≤ a.length ∧ i = .int .i64 k ∧ (∃ q, wr = W.drewN q) ∧ ∀ j, j < k → a.getD j 0 = b.getD j 0) (fun i _ => a.length - (intOf i).toNat)
      case atStart => exact ⟨0, Nat.zero_le _, rfl, ⟨0, rfl⟩, fun j hj => absurd hj (by omega)⟩
      case round =>
        obtain ⟨k, hk, rfl, ⟨q, rfl⟩, hpre⟩ := hrel
        have HP := Lib.hid hpre
        clear hpre
        by_cases hlt : k < a.length
        · obtain ⟨b1, o1, rfl, hb1, hc1⟩ := HA.out.u64 hlt
          obtain ⟨b2, o2, rfl, hb2, hc2⟩ := HB.out.u64 (show k < b.length by rw [← HL.out]; exact hlt)
          have hc1 := ckeep jb hc1 hb1
          have hc2 := ckeep jb hc2 hb2
          have hltb : (k : Int) < (b.length : Int) := by have := HL.out; omega
          by_cases hne : a.getD k 0 = b.getD k 0
          · have e3 : (((a.getD k 0 : Nat) : Int) != ((b.getD k 0 : Nat) : Int)) = false := by rw [hne]; simp
            have HN := Lib.hid hne
            clear hne
            generalize hX : a.getD k 0 = X at *
            generalize hY : b.getD k 0 = Y at *
            have HX := Lib.hid hX
            have HY := Lib.hid hY
            clear hX hY
            go_wp2_with fail
            go_region
            go_wp2
            go_roundw
            case rel =>
              refine ⟨k + 1, by omega, by go_num, ⟨q + 1, rfl⟩, fun j hj => ?_⟩
              by_cases hjk : j = k
              · subst hjk; rw [HX.out, HY.out, HN.out]
              · exact HP.out j (by omega)
            case measure => simp [intOf]; omega
          · have e3 : (((a.getD k 0 : Nat) : Int) != ((b.getD k 0 : Nat) : Int)) = true := by
              rw [bne_iff_ne]; intro h; exact hne (by omega)
            have e4 : sameB (a, s) (b, s) = false := by
              unfold sameB; rw [decide_eq_false_iff_not]; rintro h
              injection h with h _
              exact hne (by rw [h])
            have E4 := Lib.hid e4
            clear hne e4
            generalize a.getD k 0 = X at *
            generalize b.getD k 0 = Y at *
            go_wp2_with fail
            go_region
            go_wp2
            go_ret
            exact ⟨retv (by rw [E4.out]; rfl), bdrewN jb _⟩
        · have e4 : sameB (a, s) (b, s) = true := by
            unfold sameB; rw [decide_eq_true_iff]
            rw [ext_getD HL.out (fun i hi => HP.out i (by omega))]
          have E4 := Lib.hid e4
          clear e4
          go_wp2
          go_ret
          exact ⟨retv (by rw [E4.out]; rfl), bdrewN jb _⟩
    · have e2 : ((a.length : Int) != (b.length : Int)) = true := by rw [bne_iff_ne]; omega
      have e4 : sameB (a, s) (b, s) = false := by
        unfold sameB; rw [decide_eq_false_iff_not]; rintro h
        injection h with h _
        exact hl (by rw [h])
      have E4 := Lib.hid e4
      clear e4 hl
      go_enter Try.func37, Try.ntmps37
      go_wp2
      go_ret
      exact ⟨retv (by rw [E4.out]; rfl), ((Below.refl _ _).alloc (Nat.le_refl _) _).alloc (by simp) _⟩
  · have e1 : (s != t) = true := by simp [bne_iff_ne, hst]
    have e4 : sameB (a, s) (b, t) = false := by
      unfold sameB; rw [decide_eq_false_iff_not]; rintro h
      injection h with _ h
      exact hst h
    have E4 := Lib.hid e4
    clear e4 hst
    go_enter Try.func37, Try.ntmps37
    go_wp2
    go_ret
    exact ⟨retv (by rw [E4.out]; rfl), ((Below.refl _ _).alloc (Nat.le_refl _) _).alloc (by simp) _⟩

end Go.Proofs.Ytejdknmlggdndaa
