/- sieve.Union of whatever filters: what it returns. -/
import Derived.Test.YtmjkkmmgbndcoaaUnion
namespace Go.Proofs.Ytmjkkmmgbndcoaa
open Go.RowKit Pl
set_option linter.unusedVariables false

def RetUS (W : World) (r : Option (List Nat × Int)) (e : Ending) (w' : World) : Prop :=
  (r = none ∧ e = .returned (.tuple #[.agg #[.slice none 0 0, .int .i64 0], .int .i64 20]) ∧ Ext W w') ∨ ∃ ws sh, r = some (ws, sh) ∧ RetFilt W ws.length sh ws e w'

set_option maxHeartbeats 800000 in
theorem union_nil (A : Option Addr) (cap : Nat) (w : World) :
    Calls Try.prog 27 #[.slice A 0 cap] w fun e w' => e = .returned (.tuple #[.agg #[.slice none 0 0, .int .i64 0], .int .i64 20]) ∧ Ext w w' := by
  go_enter Try.func27, Try.ntmps27
  go_wp2
  exact bodyPost_ret (v := .tuple #[.agg #[.slice none 0 0, .int .i64 0], .int .i64 20]) (by simp [results, Try.results27, go_sem]) rfl ⟨rfl, Ext.alloc _ _⟩

set_option maxHeartbeats 800000 in
theorem union_bad (A : Option Addr) (cap : Nat) (f : Fl) (fs : List Fl) (w : World) (hA : RdF w A (f :: fs)) (hlen : (f :: fs).length * 32 ≤ 140737488351232) (hm : f.ws.length ≤ maxLen)
    (hr : rightB f.ws.length f.sh = false) :
    Calls Try.prog 27 #[.slice A (fs.length + 1) cap] w fun e w' => e = .returned (.tuple #[.agg #[.slice none 0 0, .int .i64 0], .int .i64 20]) ∧ Ext w w' := by
  obtain ⟨b, off, rfl, h0, h1, hR⟩ := hA 0 f rfl
  simp only [Nat.zero_mul, Nat.add_zero] at h0 h1
  have HR := Lib.hid hr
  have hl32 : (fs.length + 1) * 32 ≤ 140737488351232 := hlen
  have hblt := cell_lt h0
  have hne : ((fs.length : Int) + 1 == 0) = false := by rw [beq_eq_false_iff_ne]; omega
  have HM := Lib.hid hm
  clear hr hA hR hlen hm
  go_enter Try.func27, Try.ntmps27
  go_wp2_with fail
  refine (right_no _ _ _ _ _ HM.out HR.out).mono ?_
  rintro e w1 ⟨rfl, hb1⟩
  have x1 : Ext _ w1 := hb1
  have k2 := x1.blk (Blk.new w 26 #[.slice none 0 0, .int .i64 0])
  have xx := (Ext.alloc w (.cells #[.slice none 0 0, .int .i64 0] 26)).trans x1
  have r0 : w1.cell? ⟨w.heap.size, 0, none⟩ = some (.slice none 0 0) := k2.cell 0 rfl
  have r1 : w1.cell? ⟨w.heap.size, 1, none⟩ = some (.int .i64 0) := k2.cell 1 rfl
  have g0 := k2.frozen 0
  have g1 := k2.frozen 1
  clear k2 x1 hb1
  go_wp2
  exact bodyPost_ret (v := .tuple #[.agg #[.slice none 0 0, .int .i64 0], .int .i64 20]) (by simp [results, Try.results27, go_sem, r0, r1]) rfl ⟨rfl, (xx.set (Nat.le_refl _) _).set (Nat.le_refl _) _⟩

theorem union_any (A : Option Addr) (cap : Nat) (fs : List Fl) (w : World) (hA : RdF w A fs) (hfit : ∀ g ∈ fs, g.Fit) (hcap : fs.length ≤ cap) (hlen : fs.length * 32 ≤ 140737488351232) :
    Calls Try.prog 27 #[.slice A fs.length cap] w (RetUS w (unionS (fs.map Fl.pair))) := by
  cases fs with
  | nil => exact (union_nil A cap w).mono fun e w' h => .inl ⟨rfl, h.1, h.2⟩
  | cons f fs =>
    cases hr : rightB f.ws.length f.sh
    · have hf := hfit f (by simp)
      refine (union_bad A cap f fs w hA hlen (by have := hf.2.1; unfold maxLen; omega) hr).mono fun e w' h => .inl ⟨?_, h.1, h.2⟩
      show unionS ((f.ws, f.sh) :: fs.map Fl.pair) = none
      simp [unionS, hr]
    · refine (union_walk A cap f fs w hA hfit hcap hlen hr).mono fun e w' h => ?_
      have hu : unionS ((f :: fs).map Fl.pair) = (unionR f.sh f.ws (fs.map Fl.pair)).map fun ws => (ws, f.sh) := by
        show unionS ((f.ws, f.sh) :: fs.map Fl.pair) = _
        simp [unionS, hr]
      rcases h with ⟨h1, h2, h3⟩ | ⟨ws, h1, h2⟩
      · exact .inl ⟨by rw [hu, h1]; rfl, h2, h3⟩
      · exact .inr ⟨ws, f.sh, by rw [hu, h1]; rfl, h2⟩

theorem unionR_lt {sh : Int} : ∀ (fs : List (List Nat × Int)) (acc ws : List Nat), (∀ y ∈ acc, y < 18446744073709551616) → (∀ f ∈ fs, ∀ y ∈ f.1, y < 18446744073709551616) → unionR sh acc fs = some ws → ∀ y ∈ ws, y < 18446744073709551616
  | [], acc, ws, ha, _, hu => by
    simp [unionR] at hu
    subst hu
    exact ha
  | f :: r, acc, ws, ha, hf, hu => by
    unfold unionR at hu
    split at hu
    · exact unionR_lt r _ ws (orAll_lt ha (hf f (by simp))) (fun g hg => hf g (List.mem_cons_of_mem _ hg)) hu
    · cases hu

theorem unionS_fit (fs : List Fl) (hfit : ∀ g ∈ fs, g.Fit) {ws : List Nat} {sh : Int} (hu : unionS (fs.map Fl.pair) = some (ws, sh)) :
    (∀ y ∈ ws, y < 18446744073709551616) ∧ ws.length * 8 ≤ 140737488351232 := by
  cases fs with
  | nil => cases hu
  | cons f0 r =>
    simp only [List.map_cons, unionS] at hu
    by_cases hr : rightB f0.pair.1.length f0.pair.2 = true
    · rw [if_pos hr] at hu
      cases hR : unionR f0.pair.2 f0.pair.1 (r.map Fl.pair) with
      | none => rw [hR] at hu; cases hu
      | some ws' =>
        rw [hR] at hu
        simp only [Option.map_some, Option.some.injEq, Prod.mk.injEq] at hu
        obtain ⟨rfl, rfl⟩ := hu
        have h0 := hfit f0 (by simp)
        refine ⟨unionR_lt _ _ _ h0.1 ?_ hR, ?_⟩
        · intro f hf
          obtain ⟨g, hg, rfl⟩ := List.mem_map.1 hf
          exact (hfit g (List.mem_cons_of_mem _ hg)).1
        · rw [unionR_length _ _ _ _ hR]
          exact h0.2.1
    · rw [if_neg hr] at hu; cases hu

end Go.Proofs.Ytmjkkmmgbndcoaa
