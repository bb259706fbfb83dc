/- sieve.Lacks: what it returns. -/
import Derived.Test.YtcjmngonpijeiaaSieve1
namespace Go.Proofs.Ytcjmngonpijeiaa
set_option maxRecDepth 100000
open Go.RowKit Pl
set_option linter.unusedVariables false

set_option maxHeartbeats 400000 in
theorem lacks_no (A : Option Addr) (n cap : Nat) (sh h : Int) (w : World) (hn : n ≤ maxLen) (hr : rightB n sh = false) :
    Calls Try.prog 42 #[.agg #[.slice A n cap, .int .i64 sh], .int .u32 h] w fun e w' => e = .returned (.bool false) ∧ Below w.heap.size w w' := by
  go_enter Try.func42, Try.ntmps42
  go_wp2_with (go_at_call 54; refine (right_no _ _ _ _ _ hn hr).mono ?_; rintro e w1 ⟨rfl, hb1⟩)
  go_ret
  exact ⟨rfl, ((Below.refl _ _).alloc (Nat.le_refl _) _).trans (hb1.mono (by simp))⟩

set_option maxHeartbeats 400000 in
theorem lacks_yes (A : Option Addr) (cap : Nat) (sh h : Nat) (ws : List Nat) (w : World) (hh : h < 4294967296) (hws : ∀ x ∈ ws, x < 18446744073709551616)
    (hR : Rd w A (u64s ws)) (hr : rightB ws.length sh = true) :
    Calls Try.prog 42 #[.agg #[.slice A ws.length cap, .int .i64 sh], .int .u32 h] w fun e w' => e = .returned (.bool (lacksB sh ws h)) ∧ Below w.heap.size w w' := by
  have hbd := rightB_bd hr
  have hk : h / 64 % ws.length < ws.length := Nat.mod_lt _ (by omega)
  have hM : mbits sh h < 18446744073709551616 := by
    unfold mbits
    exact Nat.or_lt_two_pow (n := 64) (Nat.pow_lt_pow_right (by omega) (Nat.mod_lt _ (by omega))) (Nat.pow_lt_pow_right (by omega) (Nat.mod_lt _ (by omega)))
  obtain ⟨b, off, rfl, hblt, hc⟩ := hR.u64 hk
  have hx : ws.getD (h / 64 % ws.length) 0 < 18446744073709551616 := by
    rw [List.getD_eq_getElem?_getD, List.getElem?_eq_getElem hk]; exact hws _ (List.getElem_mem _)
  have hand : bits .and .u64 ((ws.getD (h / 64 % ws.length) 0 : Nat) : Int) ((mbits sh h : Nat) : Int) = ((ws.getD (h / 64 % ws.length) 0 &&& mbits sh h : Nat) : Int) :=
    bits_and_u64_nat _ _ hx hM
  have hfin : (((ws.getD (h / 64 % ws.length) 0 &&& mbits sh h : Nat) : Int) != ((mbits sh h : Nat) : Int)) = lacksB sh ws h := by
    unfold lacksB
    rw [Bool.eq_iff_iff, bne_iff_ne, bne_iff_ne]
    exact not_congr Int.ofNat_inj
  have hm1 := marks_any (some ⟨b, off, none⟩) ws.length cap sh h
  have hr1 := right_yes (some ⟨b, off, none⟩) ws.length cap sh
  generalize ws.getD (h / 64 % ws.length) 0 &&& mbits sh h = Y at *
  generalize ws.getD (h / 64 % ws.length) 0 = X at *
  generalize mbits sh h = M at *
  generalize lacksB sh ws h = L at *
  generalize h / 64 % ws.length = k at *
  have Hm1 := Lib.hid hm1
  have Hr1 := Lib.hid hr1
  clear hm1 hr1 hR hws
  go_enter Try.func42, Try.ntmps42
  go_wp2_with fail
  refine (Hr1.out _ hr).mono ?_
  rintro e w1 ⟨rfl, hb1⟩
  have hc1 := bcell hb1
  have hz1 := hb1.size
  simp at hz1
  go_wp2_with fail
  refine (Hm1.out _ hr hh).mono ?_
  rintro e w2 ⟨rfl, hb2⟩
  have hc2 := bcell hb2
  have hz2 := hb2.size
  have c0 : w2.cell? ⟨w.heap.size, 0, none⟩ = some (.slice (some ⟨b, off, none⟩) ws.length cap) := ckeep hb2 (ckeep hb1 (cnew _ _ _ 0 rfl) (by simp)) (by omega)
  have c1 : w2.cell? ⟨b, off + k, none⟩ = some (.int .u64 X) := ckeep hb2 (ckeep hb1 (cold hc) (by simp; omega)) (by omega)
  have l0 : w.heap.size < w2.heap.size := by omega
  have l1 : b < w2.heap.size := by omega
  go_wp2_with fail
  go_region
  go_wp2
  go_ret
  exact ⟨rfl, (((((Below.refl _ _).alloc (Nat.le_refl _) _).trans (hb1.mono (by simp))).trans (hb2.mono (by omega))).alloc (by omega) _).drew⟩

end Go.Proofs.Ytcjmngonpijeiaa
