/- clevisref08.seen: the places of those that are seen; clevisref08.stands. -/
import Derived.Test.YtcjmngonpijeiaaCop2
namespace Go.Proofs.Ytcjmngonpijeiaa
set_option maxRecDepth 100000
open Go.RowKit Pl
set_option linter.unusedVariables false

/-- a row of the call's own, of places -/
def OwnI (w0 w : World) (v : Value) (is : List Nat) : Prop := w.ownsRow w0.heap.size 3 1 v is.length (ints (natI is)) ∧ Ext w0 w

set_option maxRecDepth 100000 in
set_option maxHeartbeats 3200000 in
theorem rseens_any (A : Option Addr) (c : Nat) (l : List Sym) (w : World) (hA : RdY w A l) (hl : l.length ≤ 512) :
    Calls Try.prog 46 #[.slice A l.length c] w fun e w' => ∃ v, e = .returned v ∧ OwnI w w' v (seenI l) := by
  obtain ⟨i0, hi0, hz0, hz1, hz2⟩ := info_parts info_int
  have HA := Lib.hid hA
  clear hA
  go_enter Try.func46, Try.ntmps46
  go_wp2_with fail
  go_loopw [3, 4] (fun a i wr => ∃ (k : Nat) (v : Value), k ≤ l.length ∧ v = a ∧ i = .int .i64 k ∧ OwnI w wr v (seenK l k)) (fun _ i _ => l.length - (intOf i).toNat)
  case atStart => exact ⟨0, .slice none 0 0, Nat.zero_le _, rfl, rfl, World.ownsRow_nil _ _ _ _, Ext.refl _⟩
  case round =>
    obtain ⟨k, v, hk, rfl, rfl, hs⟩ := hrel
    have HS0 := Lib.hid hs
    have hsk := seenK_len l k
    have hkk := seenK_succ l k
    clear hs
    by_cases hlt : k < l.length
    · obtain ⟨yb, yo, rfl, hyb, hy⟩ := HA.out.nine hlt
      have hgd : l.getD k sym0 = l[k] := by rw [List.getD_eq_getElem?_getD, List.getElem?_eq_getElem hlt]; rfl
      rw [hgd] at hkk
      clear hgd
      generalize l[k] = d at *
      have HS := Lib.hid (rseen_any d)
      obtain ⟨g0, g1, g2, g3, g4, g5, g6, g7, g8⟩ := hy.ext HS0.out.2
      obtain ⟨name, ver, old, kind, weak, vis, defd, val, size⟩ := d
      simp only at g0 g1 g2 g3 g4 g5 g6 g7 g8
      simp only [Sym.vals] at HS
      clear hy
      go_wp2_with fail
      refine (HS.out _).mono ?_
      rintro e w5 ⟨rfl, hx5⟩
      clear g0 g1 g2 g3 g4 g5 g6 g7 g8
      have HO := Lib.hid (hx5.own HS0.out.1)
      have HX := Lib.hid (HS0.out.2.trans hx5)
      generalize seenK l k = sk at *
      cases hsb : seenB ⟨name, ver, old, kind, weak, vis, defd, val, size⟩
      · rw [hsb] at hkk
        have HK := Lib.hid hkk
        clear hsb hkk HS
        go_wp2
        go_roundw
        case rel => exact ⟨k + 1, v, by omega, rfl, by go_num, by rw [HK.out]; simp only [Bool.false_eq_true, if_false, List.append_nil]; exact ⟨HO.out, HX.out⟩⟩
        case measure => simp [intOf]; omega
      · rw [hsb] at hkk
        have HK := Lib.hid hkk
        clear hsb hkk HS
        go_wp2_with (at_builtin; refine wpList_app_rd2 rfl _ _ 30 rfl w.heap.size 3 i0 (.int .i64 0) 8 Try.underlying30 hi0 hz0 hz1 hz2 rfl v sk.length (ints (natI sk)) rfl ((Ext.alloc _ _).own HO.out) (some ⟨w5.heap.size, 0, none⟩) 1 [.int .i64 (k : Int)] 1 rfl rfl (Blk.rd (Blk.new _ _ _)) (fun x hx => by rw [List.mem_singleton.1 hx]; rfl) ?d3 ?d4 ?d5 ?_)
        case d3 => unfold maxLen; omega
        case d4 => omega
        case d5 => exact Nat.le_trans HX.out.size (Ext.alloc _ _).size
        intro v3 w3 p1 q1 q3
        have HN : Hid (OwnI w w3 v3 (seenK l (k + 1))) := Lib.hid (by
          rw [HK.out]
          have hlt0 := ((Ext.alloc w5 (.cells #[.int .i64 (k : Int)] 3)).own HO.out).lt
          refine ⟨?_, (Chg.grown q1).ext (HX.out.trans (Ext.alloc _ _)) (fun b hb => (hlt0 b hb.symm).1)⟩
          simp only [if_true, List.length_append, List.length_singleton, natI_append, ints_append]
          exact p1)
        clear p1 q1 q3
        go_wp2
        go_roundw
        case rel => exact ⟨k + 1, v3, by omega, rfl, by go_num, HN.out⟩
        case measure => simp [intOf]; omega
    · have hke : k = l.length := by omega
      subst hke
      go_wp2
      go_ret
      exact ⟨v, rfl, HS0.out⟩

end Go.Proofs.Ytcjmngonpijeiaa
