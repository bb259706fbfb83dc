/- clevisref08.First: the first one that matches. -/
import Derived.Test.YtcjmngonpijeiaaFirstP
namespace Go.Proofs.Ytcjmngonpijeiaa
set_option maxRecDepth 100000
open Go.RowKit Pl
set_option linter.unusedVariables false

def fromP (r : Sym) (l : List Sym) (k : Nat) : Int := match (List.range' k (l.length - k)).find? fun k => matchB r (l.getD k sym0) (verB l) with | some k => (k : Int) | none => -1
theorem fromP_zero (r : Sym) (l : List Sym) : firstP r l = fromP r l 0 := by unfold firstP fromP; rw [List.range_eq_range']; rfl
theorem fromP_end (r : Sym) (l : List Sym) : fromP r l l.length = -1 := by unfold fromP; rw [Nat.sub_self]; rfl
theorem fromP_step (r : Sym) (l : List Sym) {k : Nat} (h : k < l.length) : fromP r l k = if matchB r (l.getD k sym0) (verB l) = true then (k : Int) else fromP r l (k + 1) := by
  unfold fromP
  rw [show l.length - k = (l.length - (k + 1)) + 1 by omega, List.range'_succ, List.find?_cons]
  cases matchB r (l.getD k sym0) (verB l) <;> rfl
theorem fromP_bd (r : Sym) (l : List Sym) : ∀ k, k ≤ l.length → -1 ≤ fromP r l k ∧ fromP r l k < l.length := by
  intro k hk
  unfold fromP
  cases hf : (List.range' k (l.length - k)).find? fun k => matchB r (l.getD k sym0) (verB l) with
  | none => simp; omega
  | some j =>
    have := List.mem_of_find?_eq_some hf
    simp only [List.mem_range'_1] at this
    simp
    omega

set_option maxRecDepth 100000 in
set_option maxHeartbeats 3200000 in
theorem rfirst_any (r : Sym) (A : Option Addr) (c : Nat) (l : List Sym) (w : World) (hA : RdY w A l) (hl : l.length ≤ 140737488351232) :
    Calls Try.prog 40 #[.agg r.vals.toArray, .slice A l.length c] w fun e w' => e = .returned (.int .i64 (firstP r l)) ∧ Ext w w' := by
  have HA := Lib.hid hA
  have HMR := Lib.hid (fun d v w => rmatch_any r d v w)
  have HE := Lib.hid (fromP_end r l)
  have HZ := Lib.hid (fromP_zero r l)
  have HST := Lib.hid (fun k h => fromP_step r l (k := k) h)
  clear hA
  generalize fromP r l = fP at *
  generalize firstP r l = rP at *
  obtain ⟨rname, rver, rold, rkind, rweak, rvis, rdefd, rval, rsize⟩ := r
  simp only [Sym.vals] at HMR ⊢
  go_enter Try.func40, Try.ntmps40
  go_wp2_with fail
  have hrb : Blk (w.alloc (.cells #[.string rname, .string rver, .bool rold, .int .i64 rkind, .bool rweak, .int .i64 rvis, .bool rdefd, .int .i64 rval, .int .i64 rsize] 25)) w.heap.size 25 #[.string rname, .string rver, .bool rold, .int .i64 rkind, .bool rweak, .int .i64 rvis, .bool rdefd, .int .i64 rval, .int .i64 rsize] := Blk.new _ _ _
  have hx0 := Ext.alloc w (.cells #[.string rname, .string rver, .bool rold, .int .i64 rkind, .bool rweak, .int .i64 rvis, .bool rdefd, .int .i64 rval, .int .i64 rsize] 25)
  generalize w.alloc (.cells #[.string rname, .string rver, .bool rold, .int .i64 rkind, .bool rweak, .int .i64 rvis, .bool rdefd, .int .i64 rval, .int .i64 rsize] 25) = w0 at *
  generalize w.heap.size = rb at *
  have HR0 := Lib.hid hrb
  have HX0 := Lib.hid hx0
  clear hrb hx0
  go_loopw [5] (fun i wr => ∃ k : Nat, k ≤ l.length ∧ i = .int .i64 k ∧ rP = fP k ∧ Ext w0 wr) (fun i _ => l.length - (intOf i).toNat)
  case atStart => exact ⟨0, Nat.zero_le _, rfl, HZ.out, Ext.refl _⟩
  case round =>
    obtain ⟨k, hk, rfl, hp, hx⟩ := hrel
    have HX := Lib.hid hx
    have HP := Lib.hid hp
    clear hx hp
    by_cases hlt : k < l.length
    · obtain ⟨yb, yo, rfl, hyb, hy⟩ := HA.out.nine hlt
      have hgd : l.getD k sym0 = l[k] := by rw [List.getD_eq_getElem?_getD, List.getElem?_eq_getElem hlt]; rfl
      have hst := HST.out k hlt
      rw [hgd] at hst
      have hm := HMR.out l[k] (verB l)
      clear hgd
      generalize l[k] = d at *
      obtain ⟨h0, h1, h2, h3, h4, h5, h6, h7, h8⟩ := hy.ext (HX0.out.trans HX.out)
      obtain ⟨n0, n1, n2, n3, n4, n5, n6, n7, n8⟩ := (HX.out.blk HR0.out).nine
      obtain ⟨name, ver, old, kind, weak, vis, defd, val, size⟩ := d
      simp only at h0 h1 h2 h3 h4 h5 h6 h7 h8 hst hm
      have HM := Lib.hid hm
      have HVC : Hid (∀ w', Ext wr w' → Calls Try.prog 33 #[.slice (some ⟨yb, yo, none⟩) l.length c] w' fun e w2 => e = .returned (.bool (verB l)) ∧ w' = w2) :=
        Lib.hid (fun w' hx => rversioned_any (some ⟨yb, yo, none⟩) c l w' ((HX0.out.trans (HX.out.trans hx)).rdy HA.out) hl)
      have a0 : ∀ u : EW wr, u.w.cell? ⟨rb, 0, none⟩ = some (.string rname) := fun u => u.cell n0
      have a1 : ∀ u : EW wr, u.w.cell? ⟨rb, 1, none⟩ = some (.string rver) := fun u => u.cell n1
      have a2 : ∀ u : EW wr, u.w.cell? ⟨rb, 2, none⟩ = some (.bool rold) := fun u => u.cell n2
      have a3 : ∀ u : EW wr, u.w.cell? ⟨rb, 3, none⟩ = some (.int .i64 rkind) := fun u => u.cell n3
      have a4 : ∀ u : EW wr, u.w.cell? ⟨rb, 4, none⟩ = some (.bool rweak) := fun u => u.cell n4
      have a5 : ∀ u : EW wr, u.w.cell? ⟨rb, 5, none⟩ = some (.int .i64 rvis) := fun u => u.cell n5
      have a6 : ∀ u : EW wr, u.w.cell? ⟨rb, 6, none⟩ = some (.bool rdefd) := fun u => u.cell n6
      have a7 : ∀ u : EW wr, u.w.cell? ⟨rb, 7, none⟩ = some (.int .i64 rval) := fun u => u.cell n7
      have a8 : ∀ u : EW wr, u.w.cell? ⟨rb, 8, none⟩ = some (.int .i64 rsize) := fun u => u.cell n8
      have g0 : ∀ u : EW wr, u.w.cell? ⟨yb, yo + k * 9, none⟩ = some (.string name) := fun u => u.cell h0
      have g1 : ∀ u : EW wr, u.w.cell? ⟨yb, yo + k * 9 + 1, none⟩ = some (.string ver) := fun u => u.cell h1
      have g2 : ∀ u : EW wr, u.w.cell? ⟨yb, yo + k * 9 + 2, none⟩ = some (.bool old) := fun u => u.cell h2
      have g3 : ∀ u : EW wr, u.w.cell? ⟨yb, yo + k * 9 + 3, none⟩ = some (.int .i64 kind) := fun u => u.cell h3
      have g4 : ∀ u : EW wr, u.w.cell? ⟨yb, yo + k * 9 + 4, none⟩ = some (.bool weak) := fun u => u.cell h4
      have g5 : ∀ u : EW wr, u.w.cell? ⟨yb, yo + k * 9 + 5, none⟩ = some (.int .i64 vis) := fun u => u.cell h5
      have g6 : ∀ u : EW wr, u.w.cell? ⟨yb, yo + k * 9 + 6, none⟩ = some (.bool defd) := fun u => u.cell h6
      have g7 : ∀ u : EW wr, u.w.cell? ⟨yb, yo + k * 9 + 7, none⟩ = some (.int .i64 val) := fun u => u.cell h7
      have g8 : ∀ u : EW wr, u.w.cell? ⟨yb, yo + k * 9 + 8, none⟩ = some (.int .i64 size) := fun u => u.cell h8
      clear hy h0 h1 h2 h3 h4 h5 h6 h7 h8 n0 n1 n2 n3 n4 n5 n6 n7 n8 hm
      have HS := Lib.hid hst
      clear hst
      generalize matchB ⟨rname, rver, rold, rkind, rweak, rvis, rdefd, rval, rsize⟩ ⟨name, ver, old, kind, weak, vis, defd, val, size⟩ (verB l) = mb at *
      generalize verB l = vb at *
      go_wp2_with fail
      refine wp_region_ext (by kernel_rfl) (by kernel_rfl) ?_
      repeat (go_big_quiet_step ((first | (go_at_call 33; exact ext_same (HVC.out _ (EW.ext _))) | (go_at_call 32; exact ext_call (HM.out _)))))
      refine wpQuiet_nil ?_
      rintro w9 ⟨u9, rfl⟩
      cases mb
      · have hs := HS.out
        rw [if_neg (by simp)] at hs
        have HS2 := Lib.hid hs
        clear hs
        go_wp2
        go_roundw
        case rel => exact ⟨k + 1, by omega, by go_num, HP.out.trans HS2.out, HX.out.trans u9.ext⟩
        case measure => simp [intOf]; omega
      · have hs := HS.out
        rw [if_pos rfl] at hs
        have HS2 := Lib.hid hs
        clear hs
        go_wp2
        go_ret
        exact ⟨retv (by rw [HP.out, HS2.out]; rfl), HX0.out.trans (HX.out.trans u9.ext)⟩
    · have hke : k = l.length := by omega
      subst hke
      go_wp2
      go_ret
      exact ⟨retv (by rw [HP.out, HE.out]; rfl), HX0.out.trans HX.out⟩

end Go.Proofs.Ytcjmngonpijeiaa
