/- Text into bytes, and bytes into text. -/
import Derived.Test.YtjgghahjcmdnmaaCurW
import Derived.Lib.ConvBytes
import Derived.Laws.BytesArg
namespace Go.Proofs.Ytjgghahjcmdnmaa
open Go.RowKit Pl
set_option linter.unusedVariables false

/-- a text's bytes -/
def txt (s : ByteArray) : List UInt8 := s.data.toList
theorem txt_len (s : ByteArray) : (txt s).length = s.size := by simp [txt]

theorem conv_str (w : World) (s : ByteArray) : ∃ c w', (convert 9 29 (.string s)).run Try.prog w = .ok (.slice (some ⟨w.heap.size, 0, none⟩) s.size c) w' ∧ Ext w w' ∧ w'.heap.size = w.heap.size + 1 ∧ Rd w' (some ⟨w.heap.size, 0, none⟩) (u8s (txt s)) := by
  refine ⟨_, _, Lib.run_convert_string_bytes w _ _ 5 s Try.underlying9 Try.underlying29 Try.underlying5, ?_, Lib.bytesWorld_size _ _ _, ?_⟩
  · exact Ext.of ⟨rfl, rfl, rfl, by rw [Lib.bytesWorld_size]; omega, fun j hj => Lib.bytesWorld_at_old w _ s j hj⟩
  · intro i hi
    have hi' : i < s.size := by simpa [u8s, txt] using hi
    refine ⟨w.heap.size, 0, rfl, ?_⟩
    rw [Nat.zero_add, Lib.bytesWorld_cell w 5 s i hi']
    simp [u8s, txt, List.getD, hi']

theorem conv_bytes (w : World) (A : Option Addr) (cap : Nat) (bs : List UInt8) (h : Rd w A (u8s bs)) : (convert 29 9 (.slice A bs.length cap)).run Try.prog w = .ok (.string ⟨bs.toArray⟩) w := by
  cases hb : bs with
  | nil =>
    rw [run_convert_bytes_string w _ _ 5 A _ cap Try.underlying29 Try.underlying5 Try.underlying9]
    cases A with
    | none => simp [Conv.bytesToString]; rfl
    | some a =>
      have hl := run_loadCells_list (P := Try.prog) w a [] (fun j v hj => by simp at hj)
      have := run_bytesToString (P := Try.prog) w a 0 cap [] hl
      exact this
  | cons b r =>
    obtain ⟨g, off, rfl, _⟩ := h 0 (by rw [hb]; simp [u8s])
    have := run_convert_bytes_arg (P := Try.prog) w 29 5 Try.underlying29 Try.underlying5 g off bs.length cap (bs.map fun b => (b.toNat : Int)) (by simp) (fun i hi => by
      obtain ⟨g', off', he, hc⟩ := h i (by simpa [u8s] using hi)
      simp only [Option.some.injEq, Addr.mk.injEq, and_true] at he
      obtain ⟨rfl, rfl⟩ := he
      rw [hc]
      simp [u8s, List.getD, hi]) 9 Try.underlying9
    rw [← hb, this]
    have : strOfNums (bs.map fun b => (b.toNat : Int)) = ⟨bs.toArray⟩ := by
      unfold strOfNums
      congr 2
      rw [List.map_map]
      have : (fun n : Int => UInt8.ofNat n.toNat) ∘ (fun b : UInt8 => (b.toNat : Int)) = id := by
        funext b
        simp
      rw [this, List.map_id]
    rw [this]

end Go.Proofs.Ytjgghahjcmdnmaa
