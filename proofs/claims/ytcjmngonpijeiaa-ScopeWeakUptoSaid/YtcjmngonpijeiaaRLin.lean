/- clevisref14.Linear, and the comparing of definitions. -/
import Derived.Test.YtcjmngonpijeiaaLin
namespace Go.Proofs.Ytcjmngonpijeiaa
set_option maxRecDepth 100000
open Go.RowKit Pl
set_option linter.unusedVariables false

set_option maxRecDepth 100000 in
set_option maxHeartbeats 6400000 in
theorem rlinear_any (r : Sym) (skip : Int) (A : Option Addr) (c : Nat) (ims : List Im) (w : World) (h : ImsIn w A ims) :
    Calls Try.prog 27 #[.agg r.vals.toArray, .int .i64 skip, .slice A ims.length c] w (LnP r skip ims w) := by
  have HH := Lib.hid h
  have hil := h.len
  have HFA := Lib.hid (fun m w' hm hx => rfirst_any r m.SA m.sc m.l w' (h.each m hm |>.ext (show Ext w w' from hx)).rd (h.each m hm).len)
  clear h
  have HLH := Lib.hid (fun k => lin_hit (r := r) (skip := skip) (ims := ims) (k := k))
  have HLN := Lib.hid (lin_none (r := r) (skip := skip) (ims := ims))
  have HMK := Lib.hid (fun (w' : World) (i k : Int) (b : Bool) => LnP.mk (r := r) (skip := skip) (ims := ims) (w := w) (w' := w') (i := i) (k := k) (b := b))
  have HHB := Lib.hid (fun i => show linH r skip ims i = (decide ((i : Int) ≠ skip) && decide (0 ≤ firstP r (ims.getD i im0).l)) from rfl)
  generalize LnP r skip ims w = PP at *
  generalize linF r skip ims = lf at *
  generalize linH r skip ims = hit at *
  generalize firstP r = fp at *
  obtain ⟨rname, rver, rold, rkind, rweak, rvis, rdefd, rval, rsize⟩ := r
  simp only [Sym.vals] at HFA ⊢
  go_enter Try.func27, Try.ntmps27
  go_wp2_with fail
  have hbx := box2 w #[.string rname, .string rver, .bool rold, .int .i64 rkind, .bool rweak, .int .i64 rvis, .bool rdefd, .int .i64 rval, .int .i64 rsize] #[.int .i64 0, .int .i64 0, .bool false] 25 34
  obtain ⟨hb1, hb2, hxb⟩ := hbx
  generalize (w.alloc (.cells #[.string rname, .string rver, .bool rold, .int .i64 rkind, .bool rweak, .int .i64 rvis, .bool rdefd, .int .i64 rval, .int .i64 rsize] 25)).alloc (.cells #[.int .i64 0, .int .i64 0, .bool false] 34) = w1 at *
  have hrl : w.heap.size ≤ w.heap.size + 1 := Nat.le_succ _
  generalize w.heap.size + 1 = rb at *
  have HRL := Lib.hid hrl
  have HX1 := Lib.hid hxb
  have HB1 := Lib.hid hb1
  have HB2 := Lib.hid hb2
  clear hrl hb1 hb2 hxb
  go_loopw [7] (fun i wr => ∃ k : Nat, k ≤ ims.length ∧ i = .int .i64 k ∧ (∀ j, j < k → hit j = false) ∧ Ext w1 wr) (fun i _ => ims.length - (intOf i).toNat)
  case atStart => exact ⟨0, Nat.zero_le _, rfl, fun j hj => absurd hj (by omega), Ext.refl _⟩
  case round =>
    obtain ⟨k, hk, rfl, hn, hx⟩ := hrel
    have HN := Lib.hid hn
    have HX := Lib.hid hx
    clear hn hx
    by_cases hlt : k < ims.length
    · obtain ⟨yb, yo, rfl, hyb, hy⟩ := HH.out.rd.at hlt
      have hgd : ims.getD k im0 = ims[k] := by rw [List.getD_eq_getElem?_getD, List.getElem?_eq_getElem hlt]; rfl
      have hHK := HHB.out k
      rw [hgd] at hHK
      have HXW := Lib.hid (HX1.out.trans HX.out)
      have HFC := Lib.hid (fun (u : EW wr) => HFA.out ims[k] u.w (List.getElem_mem hlt) (HXW.out.trans u.ext))
      have hI := hy.ext HXW.out
      have HNEXT : Hid (hit k = false → ∀ j, j < k + 1 → hit j = false) := Lib.hid (fun h j hj => by
        rcases Nat.lt_or_ge j k with h1 | h1
        · exact HN.out j h1
        · have : j = k := by omega
          subst this; exact h)
      have HHK := Lib.hid hHK
      have HLK := Lib.hid (HLH.out k hlt HN.out)
      have HGD := Lib.hid hgd
      clear hHK hgd hy
      rw [HGD.out] at HLK
      clear HGD
      generalize ims[k] = m at *
      obtain ⟨d0, d1, d2, d3, d4, SA, sc, l, ⟨BA, bc, bs, WA, wc, ws, sh⟩, d9, d10, d11, d12, d13, d14⟩ := m
      obtain ⟨a0, a1, a2, a3, a4, a5, a6, a7, a8, a9, a10, a11, a12, a13, a14⟩ := hI
      simp only at a5 HHK HLK HFC
      have e5 : ∀ u : EW wr, u.w.cell? _ = _ := fun u => u.cell a5
      have hbr := HX.out.blk HB1.out
      obtain ⟨q0, q1, q2, q3, q4, q5, q6, q7, q8⟩ := hbr.nine
      have f0 : ∀ u : EW wr, u.w.cell? _ = _ := fun u => u.cell q0
      have f1 : ∀ u : EW wr, u.w.cell? _ = _ := fun u => u.cell q1
      have f2 : ∀ u : EW wr, u.w.cell? _ = _ := fun u => u.cell q2
      have f3 : ∀ u : EW wr, u.w.cell? _ = _ := fun u => u.cell q3
      have f4 : ∀ u : EW wr, u.w.cell? _ = _ := fun u => u.cell q4
      have f5 : ∀ u : EW wr, u.w.cell? _ = _ := fun u => u.cell q5
      have f6 : ∀ u : EW wr, u.w.cell? _ = _ := fun u => u.cell q6
      have f7 : ∀ u : EW wr, u.w.cell? _ = _ := fun u => u.cell q7
      have f8 : ∀ u : EW wr, u.w.cell? _ = _ := fun u => u.cell q8
      clear a0 a1 a2 a3 a4 a5 a6 a7 a8 a9 a10 a11 a12 a13 a14 q0 q1 q2 q3 q4 q5 q6 q7 q8 hbr
      generalize fp l = fl at *
      go_wp2_with fail
      refine wp_region_ext (by kernel_rfl) (by kernel_rfl) ?_
      repeat (go_big_quiet_step ((go_at_call 40; exact ext_call (HFC.out _))))
      refine wpQuiet_nil ?_
      rintro w5 ⟨u5, rfl⟩
      have HX5 := Lib.hid u5.ext
      generalize u5.w = w5 at *
      clear e5 f0 f1 f2 f3 f4 f5 f6 f7 f8
      by_cases hsk : (k : Int) = skip
      · have heq : ((k : Int) != skip) = false := by rw [hsk]; exact bne_self_eq_false _
        have HNK : Hid (hit k = false) := Lib.hid (by rw [HHK.out, decide_eq_false (by simp [hsk])]; rfl)
        clear hsk
        go_wp2
        go_roundw
        case rel => exact ⟨k + 1, by omega, by go_num, HNEXT.out HNK.out, HX.out.trans HX5.out⟩
        case measure => simp [intOf]; omega
      · have heq : ((k : Int) != skip) = true := bne_iff_ne.2 hsk
        have HHK3 : Hid (hit k = decide (0 ≤ fl)) := Lib.hid (by rw [HHK.out, decide_eq_true hsk, Bool.true_and])
        clear hsk
        by_cases hge : 0 ≤ fl
        · have HKT : Hid (hit k = true) := Lib.hid (by rw [HHK3.out, decide_eq_true hge])
          have HE1 := Lib.hid (HLK.out HKT.out)
          have HXF := Lib.hid (HX.out.trans HX5.out)
          have hkr := HXF.out.blk HB2.out
          have r0 : w5.cell? ⟨rb, 0, none⟩ = some (.int .i64 0) := hkr.cell 0 rfl
          have r1 : w5.cell? ⟨rb, 1, none⟩ = some (.int .i64 0) := hkr.cell 1 rfl
          have r2 : w5.cell? ⟨rb, 2, none⟩ = some (.bool false) := hkr.cell 2 rfl
          have z0 := hkr.frozen 0
          have z1 := hkr.frozen 1
          have z2 := hkr.frozen 2
          have HFIN : Hid (PP (.returned (.agg #[.int .i64 (k : Int), .int .i64 fl, .bool true])) (((w5.setCell ⟨rb, 0, none⟩ (.int .i64 (k : Int))).setCell ⟨rb, 1, none⟩ (.int .i64 fl)).setCell ⟨rb, 2, none⟩ (.bool true))) := Lib.hid (by
            refine HMK.out _ _ _ _ HE1.out ?_
            exact Ext.of ((((HX1.out.trans HXF.out).below.setCell HRL.out _).setCell HRL.out _).setCell HRL.out _))
          clear hkr
          go_wp2
          exact bodyPost_ret (v := .agg #[.int .i64 (k : Int), .int .i64 fl, .bool true]) (by simp [results, Try.results27, go_sem, r0, r1, r2]) rfl HFIN.out
        · have HNK : Hid (hit k = false) := Lib.hid (by rw [HHK3.out, decide_eq_false hge])
          go_wp2
          go_roundw
          case rel => exact ⟨k + 1, by omega, by go_num, HNEXT.out HNK.out, HX.out.trans HX5.out⟩
          case measure => simp [intOf]; omega
    · have hke : k = ims.length := by omega
      subst hke
      have HE1 := Lib.hid (HLN.out HN.out)
      have hkr := HX.out.blk HB2.out
      have r0 : wr.cell? ⟨rb, 0, none⟩ = some (.int .i64 0) := hkr.cell 0 rfl
      have r1 : wr.cell? ⟨rb, 1, none⟩ = some (.int .i64 0) := hkr.cell 1 rfl
      have r2 : wr.cell? ⟨rb, 2, none⟩ = some (.bool false) := hkr.cell 2 rfl
      have z0 := hkr.frozen 0
      have z1 := hkr.frozen 1
      have z2 := hkr.frozen 2
      have HFIN : Hid (PP (.returned (.agg #[.int .i64 0, .int .i64 0, .bool false])) (((wr.setCell ⟨rb, 0, none⟩ (.int .i64 0)).setCell ⟨rb, 1, none⟩ (.int .i64 0)).setCell ⟨rb, 2, none⟩ (.bool false))) := Lib.hid (by
        refine HMK.out _ _ _ _ HE1.out ?_
        exact Ext.of ((((HX1.out.trans HX.out).below.setCell HRL.out _).setCell HRL.out _).setCell HRL.out _))
      clear hkr
      go_wp2
      exact bodyPost_ret (v := .agg #[.int .i64 0, .int .i64 0, .bool false]) (by simp [results, Try.results27, go_sem, r0, r1, r2]) rfl HFIN.out

set_option maxRecDepth 100000 in
theorem alike_any (i k : Int) (b : Bool) (w : World) : Calls Try.prog 15 #[.agg #[.int .i64 i, .int .i64 k, .bool b], .agg #[.int .i64 i, .int .i64 k, .bool b]] w fun e w' => e = .returned (.bool true) ∧ Ext w w' := by
  go_enter Try.func15, Try.ntmps15
  go_wp2
  go_ret
  cases b <;> exact ⟨by simp, (Ext.alloc _ _).trans (Ext.alloc _ _)⟩

end Go.Proofs.Ytcjmngonpijeiaa
