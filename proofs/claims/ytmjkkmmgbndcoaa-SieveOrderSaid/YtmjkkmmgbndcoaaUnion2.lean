/- sieve.Union of whatever filters: what it returns. -/
import Derived.Test.YtmjkkmmgbndcoaaUnion
namespace Go.Proofs.Ytmjkkmmgbndcoaa
open Go.RowKit Pl
set_option linter.unusedVariables false

def RetUS (W : World) (r : Option (List Nat × Int)) (e : Ending) (w' : World) : Prop :=
  (r = none ∧ e = .returned (.tuple #[.agg #[.slice none 0 0, .int .i64 0], .int .i64 20]) ∧ Ext W w') ∨ ∃ ws sh, r = some (ws, sh) ∧ RetFilt W ws.length sh ws e w'

set_option maxHeartbeats 800000 in
theorem union_nil (A : Option Addr) (cap : Nat) (w : World) :
    Calls Try.prog 27 #[.slice A 0 cap] w fun e w' => e = .returned (.tuple #[.agg #[.slice none 0 0, .int .i64 0], .int .i64 20]) ∧ Ext w w' := by
  go_enter Try.func27, Try.ntmps27
  go_wp2
  exact bodyPost_ret (v := .tuple #[.agg #[.slice none 0 0, .int .i64 0], .int .i64 20]) (by simp [results, Try.results27, go_sem]) rfl ⟨rfl, Ext.alloc _ _⟩

set_option maxHeartbeats 800000 in
theorem union_bad (A : Option Addr) (cap : Nat) (f : Fl) (fs : List Fl) (w : World) (hA : RdF w A (f :: fs)) (hlen : (f :: fs).length * 32 ≤ 140737488351232) (hm : f.ws.length ≤ maxLen)
    (hr : rightB f.ws.length f.sh = false) :
    Calls Try.prog 27 #[.slice A (fs.length + 1) cap] w fun e w' => e = .returned (.tuple #[.agg #[.slice none 0 0, .int .i64 0], .int .i64 20]) ∧ Ext w w' := by
  obtain ⟨b, off, rfl, h0, h1, hR⟩ := hA 0 f rfl
  simp only [Nat.zero_mul, Nat.add_zero] at h0 h1
  have HR := Lib.hid hr
  have hl32 : (fs.length + 1) * 32 ≤ 140737488351232 := hlen
  have hblt := cell_lt h0
  have hne : ((fs.length : Int) + 1 == 0) = false := by rw [beq_eq_false_iff_ne]; omega
  have HM := Lib.hid hm
  clear hr hA hR hlen hm
  go_enter Try.func27, Try.ntmps27
  go_wp2_with fail
  refine (right_no _ _ _ _ _ HM.out HR.out).mono ?_
  rintro e w1 ⟨rfl, hb1⟩
  have x1 : Ext _ w1 := hb1
  have k2 := x1.blk (Blk.new w 26 #[.slice none 0 0, .int .i64 0])
  have xx := (Ext.alloc w (.cells #[.slice none 0 0, .int .i64 0] 26)).trans x1
  have r0 : w1.cell? ⟨w.heap.size, 0, none⟩ = some (.slice none 0 0) := k2.cell 0 rfl
  have r1 : w1.cell? ⟨w.heap.size, 1, none⟩ = some (.int .i64 0) := k2.cell 1 rfl
  have g0 := k2.frozen 0
  have g1 := k2.frozen 1
  clear k2 x1 hb1
  go_wp2
  exact bodyPost_ret (v := .tuple #[.agg #[.slice none 0 0, .int .i64 0], .int .i64 20]) (by simp [results, Try.results27, go_sem, r0, r1]) rfl ⟨rfl, (xx.set (Nat.le_refl _) _).set (Nat.le_refl _) _⟩

theorem union_any (A : Option Addr) (cap : Nat) (fs : List Fl) (w : World) (hA : RdF w A fs) (hfit : ∀ g ∈ fs, g.Fit) (hcap : fs.length ≤ cap) (hlen : fs.length * 32 ≤ 140737488351232) :
    Calls Try.prog 27 #[.slice A fs.length cap] w (RetUS w (unionS (fs.map Fl.pair))) := by
  cases fs with
  | nil => exact (union_nil A cap w).mono fun e w' h => .inl ⟨rfl, h.1, h.2⟩
  | cons f fs =>
    cases hr : rightB f.ws.length f.sh
    · have hf := hfit f (by simp)
      refine (union_bad A cap f fs w hA hlen (by have := hf.2.1; unfold maxLen; omega) hr).mono fun e w' h => .inl ⟨?_, h.1, h.2⟩
      show unionS ((f.ws, f.sh) :: fs.map Fl.pair) = none
      simp [unionS, hr]
    · refine (union_walk A cap f fs w hA hfit hcap hlen hr).mono fun e w' h => ?_
      have hu : unionS ((f :: fs).map Fl.pair) = (unionR f.sh f.ws (fs.map Fl.pair)).map fun ws => (ws, f.sh) := by
        show unionS ((f.ws, f.sh) :: fs.map Fl.pair) = _
        simp [unionS, hr]
      rcases h with ⟨h1, h2, h3⟩ | ⟨ws, h1, h2⟩
      · exact .inl ⟨by rw [hu, h1]; rfl, h2, h3⟩
      · exact .inr ⟨ws, f.sh, by rw [hu, h1]; rfl, h2⟩

end Go.Proofs.Ytmjkkmmgbndcoaa
