/- The reference's Lacks: what it returns. -/
import Derived.Test.YtcjmngonpijeiaaSieve2
import Derived.Test.YtcjmngonpijeiaaSieve3
import Derived.Deep.QuietTactic
import Derived.BigQuiet
namespace Go.Proofs.Ytcjmngonpijeiaa
set_option maxRecDepth 100000
open Go.RowKit Pl
set_option linter.unusedVariables false

theorem hasB_bit (x p : Nat) : hasB x p = x.testBit p := by
  unfold hasB
  rw [Nat.testBit_eq_decide_div_mod_eq]
  rw [Bool.eq_iff_iff]; simp

theorem lacks_eq (sh : Nat) (ws : List Nat) (h : Nat) :
    lacksB sh ws h = (!hasB (ws.getD (h / 64 % ws.length) 0) (h % 64) || !hasB (ws.getD (h / 64 % ws.length) 0) (h / 2 ^ sh % 64)) := by
  unfold lacksB mbits
  generalize ws.getD (h / 64 % ws.length) 0 = x
  generalize h % 64 = p
  generalize h / 2 ^ sh % 64 = q
  rw [hasB_bit, hasB_bit, Bool.eq_iff_iff, bne_iff_ne]
  constructor
  · intro hne
    cases hp : x.testBit p
    · simp
    · cases hq : x.testBit q
      · simp
      · exfalso
        apply hne
        apply Nat.eq_of_testBit_eq
        intro i
        rw [Nat.testBit_and, Nat.testBit_or, Nat.testBit_two_pow, Nat.testBit_two_pow]
        by_cases hi : p = i
        · subst hi; simp [hp]
        · by_cases hj : q = i
          · subst hj; simp [hq]
          · simp [hi, hj]
  · intro hor heq
    have hp : x.testBit p = true := by
      have := congrArg (fun y => Nat.testBit y p) heq
      simp only [Nat.testBit_and, Nat.testBit_or, Nat.testBit_two_pow_self] at this
      simpa using this
    have hq : x.testBit q = true := by
      have := congrArg (fun y => Nat.testBit y q) heq
      simp only [Nat.testBit_and, Nat.testBit_or, Nat.testBit_two_pow_self] at this
      simpa using this
    simp [hp, hq] at hor

set_option maxHeartbeats 400000 in
theorem refLacks_no (A : Option Addr) (n cap : Nat) (sh h : Int) (w : World) (hn : n ≤ maxLen) (hr : rightB n sh = false) :
    Calls Try.prog 25 #[.agg #[.slice A n cap, .int .i64 sh], .int .u32 h] w fun e w' => e = .returned (.bool false) ∧ Below w.heap.size w w' := by
  have HR := Lib.hid hr
  clear hr
  go_enter Try.func25, Try.ntmps25
  go_wp2_with fail
  refine (refRight_any _ _ _ _ _ hn).mono ?_
  rintro e w1 ⟨rfl, hb1⟩
  rw [HR.out]
  go_wp2
  go_ret
  exact ⟨rfl, ((Below.refl _ _).alloc (Nat.le_refl _) _).trans (hb1.mono (by simp))⟩

set_option maxHeartbeats 800000 in
theorem refLacks_yes (A : Option Addr) (cap : Nat) (sh h : Nat) (ws : List Nat) (w : World) (hh : h < 4294967296) (hws : ∀ x ∈ ws, x < 18446744073709551616)
    (hR : Rd w A (u64s ws)) (hr : rightB ws.length sh = true) :
    Calls Try.prog 25 #[.agg #[.slice A ws.length cap, .int .i64 sh], .int .u32 h] w fun e w' => e = .returned (.bool (lacksB sh ws h)) ∧ Below w.heap.size w w' := by
  have hbd := rightB_bd hr
  have hk : h / 64 % ws.length < ws.length := Nat.mod_lt _ (by omega)
  obtain ⟨b, off, rfl, hblt, hc⟩ := hR.u64 hk
  have hx : ws.getD (h / 64 % ws.length) 0 < 18446744073709551616 := hws _ (getD_mem hk)
  have hlt2 : h / 2 ^ sh < 4294967296 := Nat.lt_of_le_of_lt (Nat.div_le_self _ _) hh
  have HL := Lib.hid (lacks_eq sh ws h)
  have hq1 : ((h : Nat) : Int).tmod 64 = ((h % 64 : Nat) : Int) := by rw [Int.tmod_eq_emod_of_nonneg (by omega)]; rfl
  have hq2 : (((h / 2 ^ sh : Nat) : Nat) : Int).tmod 64 = ((h / 2 ^ sh % 64 : Nat) : Int) := by
    rw [Int.tmod_eq_emod_of_nonneg (Int.natCast_nonneg _)]; rfl
  have hq3 : (((h : Nat) : Int) / 64).tmod (ws.length : Int) = ((h / 64 % ws.length : Nat) : Int) := by
    rw [Int.tmod_eq_emod_of_nonneg (by omega)]; rfl
  have hw3 : IntKind.i64.wrap ((h / 64 % ws.length : Nat) : Int) = ((h / 64 % ws.length : Nat) : Int) := IntWalk.i64_in _ (by omega)
  have hp64 : h % 64 < 64 := Nat.mod_lt _ (by omega)
  have hq64 : h / 2 ^ sh % 64 < 64 := Nat.mod_lt _ (by omega)
  have HS := Lib.hid (refShifted_any h sh)
  generalize h / 2 ^ sh % 64 = q at *
  generalize h / 2 ^ sh = Z at *
  generalize h % 64 = p at *
  generalize ws.getD (h / 64 % ws.length) 0 = X at *
  generalize h / 64 % ws.length = k at *
  have HR := Lib.hid hr
  have HB := Lib.hid (refRight_any (some ⟨b, off, none⟩) ws.length cap sh)
  clear hr hR hws
  go_enter Try.func25, Try.ntmps25
  go_wp2_with fail
  refine (HB.out _ (by unfold maxLen; omega)).mono ?_
  rintro e w1 ⟨rfl, hb1⟩
  rw [HR.out]
  have hz1 := hb1.size
  simp at hz1
  have c0 : w1.cell? ⟨w.heap.size, 0, none⟩ = some (.slice (some ⟨b, off, none⟩) ws.length cap) := ckeep hb1 (cnew _ _ _ 0 rfl) (by simp)
  have c2 : w1.cell? ⟨w.heap.size, 1, none⟩ = some (.int .i64 sh) := ckeep hb1 (cnew _ _ _ 1 rfl) (by simp)
  have c1 : w1.cell? ⟨b, off + k, none⟩ = some (.int .u64 X) := ckeep hb1 (cold hc) (by simp; omega)
  have l0 : w.heap.size < w1.heap.size := by omega
  have l1 : b < w1.heap.size := by omega
  clear hc
  go_wp2_with fail
  go_region
  go_wp2_with fail
  refine (refHas_any _ _ _ hx hp64).mono ?_
  rintro e w2 ⟨rfl, rfl⟩
  go_wp2_with fail
  refine (HS.out _ hh (by omega)).mono ?_
  rintro e w2 ⟨rfl, rfl⟩
  go_wp2_with fail
  refine (refHas_any _ _ _ hx hq64).mono ?_
  rintro e w2 ⟨rfl, rfl⟩
  have hb2 : Below w.heap.size w w1.drew := (((Below.refl _ _).alloc (Nat.le_refl _) _).trans (hb1.mono (by simp))).drew
  cases hA : hasB X p
  · have HA := Lib.hid hA
    clear hA
    go_wp2
    go_ret
    exact ⟨retv (by rw [HL.out, HA.out]; rfl), hb2⟩
  · have HA := Lib.hid hA
    clear hA
    go_wp2
    go_ret
    exact ⟨retv (by rw [HL.out, HA.out]; rfl), hb2⟩

end Go.Proofs.Ytcjmngonpijeiaa
