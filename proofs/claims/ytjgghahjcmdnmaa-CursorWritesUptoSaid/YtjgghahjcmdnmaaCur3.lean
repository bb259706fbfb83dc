/- Writer.Raw, Writer.Bytes: what they do. -/
import Derived.Test.YtjgghahjcmdnmaaCur2
namespace Go.Proofs.Ytjgghahjcmdnmaa
open Go.RowKit Pl
set_option linter.unusedVariables false

theorem wraw_stuck (st : WS) (bs : List UInt8) (h : st.1 ≠ 0) : wraw st bs = st := by simp [wraw, h]

theorem raw_any (p : Nat) (st : WS) (v : Value) (B : Option Addr) (bcap : Nat) (xs : List UInt8) (w : World) (h : Wst w p st v) (hB : Rd w B (u8s xs)) (hlen : st.1 = 0 → st.2.length + xs.length ≤ 140737488355328) :
    Calls Try.prog 32 #[.pointer (some ⟨p, 0, none⟩), .slice B xs.length bcap] w fun r w' => r = .returned (.tuple #[]) ∧ ∃ v', Wto p w v w' (wraw st xs) v' := by
  obtain ⟨i0, hi0, hz0, hz1, hz2⟩ := info_parts info_u8
  obtain ⟨E, T⟩ := st
  have c0 : w.cell? ⟨p, 0, none⟩ = some (.int .i64 E) := h.blk.cell 0 rfl
  obtain ⟨A2, cc2, rfl⟩ := h.form
  have c1 : w.cell? ⟨p, 1, none⟩ = some (.slice A2 T.length cc2) := h.blk.cell 1 rfl
  have hpl : p < w.heap.size := h.blk.lt
  have H := Lib.hid h
  have HB := Lib.hid hB
  clear h hB
  go_enter Try.func32, Try.ntmps32
  go_wp2_with fail
  refine (sound_any p _ _ c0).mono ?_
  rintro e w2 ⟨rfl, rfl⟩
  by_cases hE : E = 0
  · subst hE
    have hl2 : T.length + xs.length ≤ 140737488355328 := hlen rfl
    go_wp2_with (at_builtin; refine wpList_app_rd2 rfl _ _ 29 rfl 0 5 i0 (.int .u8 0) 1 Try.underlying29 hi0 hz0 hz1 hz2 rfl (.slice A2 T.length cc2) T.length (u8s T) rfl H.out.own B bcap (u8s xs) xs.length rfl (u8s_length xs) HB.out (u8s_one xs) ?c3 ?c4 ?c5 ?_)
    case c3 => simp only [maxLen]; omega
    case c4 => omega
    case c5 => omega
    intro v3 w3 o1 o2 o3
    obtain ⟨A3, c3, rfl⟩ := own_slice o1
    have ⟨d1, f1⟩ := H.out.field (Ext.refl _) o2
    have HN2 := Lib.hid (H.out.app (X := xs) (Ext.refl _) _ rfl o1 o2 o3)
    clear H HB o1 o2 o3 c0 c1 hpl
    go_wp2
    go_end0
    exact ⟨rfl, _, by simpa [wraw] using HN2.out⟩
  · have hE0 : (E == 0) = false := by simp [hE]
    rw [hE0]
    go_wp2
    go_end0
    exact ⟨rfl, _, by rw [wraw_stuck _ _ hE]; exact Wto.refl H.out⟩

/-- Bytes: a row of its own that is no one else's -/
theorem bytes_any (p : Nat) (st : WS) (v : Value) (w : World) (h : Wst w p st v) (hlen : st.2.length ≤ 140737488355328) :
    Calls Try.prog 15 #[.pointer (some ⟨p, 0, none⟩)] w fun r w' => ∃ v', r = .returned (.tuple #[v', .int .i64 st.1]) ∧ Ext w w' ∧
      w'.ownsRow w.heap.size 5 1 v' (if st.1 = 0 then st.2.length else 0) (u8s (if st.1 = 0 then st.2 else [])) := by
  obtain ⟨i0, hi0, hz0, hz1, hz2⟩ := info_parts info_u8
  obtain ⟨E, T⟩ := st
  have c0 : w.cell? ⟨p, 0, none⟩ = some (.int .i64 E) := h.blk.cell 0 rfl
  obtain ⟨A2, cc2, rfl⟩ := h.form
  have c1 : w.cell? ⟨p, 1, none⟩ = some (.slice A2 T.length cc2) := h.blk.cell 1 rfl
  have hpl : p < w.heap.size := h.blk.lt
  have H := Lib.hid h
  clear h
  go_enter Try.func15, Try.ntmps15
  go_wp2_with fail
  refine (sound_any p _ _ c0).mono ?_
  rintro e w2 ⟨rfl, rfl⟩
  by_cases hE : E = 0
  · subst hE
    have hl2 : T.length ≤ 140737488355328 := hlen
    go_wp2_with (at_builtin; refine wpList_app_rd2 rfl _ _ 29 rfl w.heap.size 5 i0 (.int .u8 0) 1 Try.underlying29 hi0 hz0 hz1 hz2 rfl (.slice none 0 0) 0 [] rfl (World.ownsRow_nil _ _ _ _) A2 cc2 (u8s T) T.length rfl (u8s_length T) (Rd.of_own H.out.own) (u8s_one T) ?c3 ?c4 ?c5 ?_)
    case c3 => simp only [maxLen]; omega
    case c4 => omega
    case c5 => omega
    intro v3 w3 o1 o2 o3
    obtain ⟨A3, c3, rfl⟩ := own_slice o1
    have hx : Ext w w3 := Ext.of ((Below.refl _ _).grown o2 (Nat.le_refl _) (by simp [Value.ownBlock]))
    have O1 := Lib.hid o1
    have HX := Lib.hid hx
    clear o1 o2 o3 c0 c1 hpl hx H
    go_wp2
    exact bodyPost_ret (v := .tuple #[.slice A3 T.length c3, .int .i64 0]) (by simp [results, Try.results15, go_sem]) rfl ⟨_, rfl, HX.out, O1.out⟩
  · have hE0 : (E == 0) = false := by simp [hE]
    rw [hE0]
    go_wp2
    go_region
    go_wp2
    exact bodyPost_ret (v := .tuple #[.slice none 0 0, .int .i64 E]) (by simp [results, Try.results15, go_sem]) rfl ⟨_, rfl, Ext.drew _, World.ownsRow_nil _ _ _ _⟩

end Go.Proofs.Ytjgghahjcmdnmaa
