/- clevisref14.Look. -/
import Derived.Test.YtcjmngonpijeiaaLookP
import Derived.Test.YtcjmngonpijeiaaExtR
import Derived.Test.YtcjmngonpijeiaaLawLook
namespace Go.Proofs.Ytcjmngonpijeiaa
set_option maxRecDepth 100000
open Go.RowKit Pl
set_option linter.unusedVariables false

set_option maxRecDepth 100000 in
set_option maxHeartbeats 6400000 in
theorem rlook_any (r : Sym) (skip : Int) (A : Option Addr) (c : Nat) (ims : List Im) (w : World) (hr : r.Fit) (h : ImsIn w A ims) (hb : ∀ m ∈ ims, m.t.bs.length < 4294967296) :
    Calls Try.prog 14 #[.agg r.vals.toArray, .int .i64 skip, .slice A ims.length c] w (LkP r skip ims w) := by
  obtain ⟨i0, hi0, hz0, hz1, hz2⟩ := info_parts info_int
  have HH := Lib.hid h
  have HRF := Lib.hid hr
  have HBB := Lib.hid hb
  have hil := h.len
  have hmk : ∀ W : World, (Instr.makeSlice 30 (.int .i64 (ims.length : Nat)) (.int .i64 (ims.length : Nat))).run Try.prog W = .ok (.slice (some ⟨W.heap.size, 0, none⟩) ims.length ims.length) (W.alloc (.cells (madeCells #[Value.int .i64 0] ims.length) 3)) := fun W => by
    have hr := run_make (P := Try.prog) W 30 3 i0 (.int .i64 0) Try.underlying30 hi0 hz0 .i64 .i64 ims.length ims.length (by omega) (by omega) (by rw [hz2]; omega) (by omega)
    simp only [Int.toNat_natCast] at hr
    rw [hr, hz1, Nat.mul_one]
    rfl
  clear h hr hb
  have HFA := Lib.hid (fun m w' hm hx hb => rfind_any m.t r m.SA m.sc m.l w' (HH.out.each m hm |>.ext hx).t HRF.out (HH.out.each m hm |>.ext hx).rd (HH.out.each m hm).len hb)
  obtain ⟨mcs, hmcs⟩ : ∃ mcs : Array Value, mcs = madeCells #[Value.int .i64 0] ims.length := ⟨_, rfl⟩
  rw [← hmcs] at hmk
  have HMC := Lib.hid hmcs
  clear hmcs
  obtain ⟨rname, rver, rold, rkind, rweak, rvis, rdefd, rval, rsize⟩ := r
  simp only [Sym.vals] at HFA ⊢
  go_enter Try.func14, Try.ntmps14
  go_wp2_with fail
  have hbx := box2 w #[.string rname, .string rver, .bool rold, .int .i64 rkind, .bool rweak, .int .i64 rvis, .bool rdefd, .int .i64 rval, .int .i64 rsize] #[.int .i64 0, .int .i64 0, .bool false] 25 34
  obtain ⟨hb1, hb2, hxb⟩ := hbx
  have hw1 : ((w.alloc (.cells #[.string rname, .string rver, .bool rold, .int .i64 rkind, .bool rweak, .int .i64 rvis, .bool rdefd, .int .i64 rval, .int .i64 rsize] 25)).alloc (.cells #[.int .i64 0, .int .i64 0, .bool false] 34)).heap.size = w.heap.size + 1 + 1 := by simp
  generalize (w.alloc (.cells #[.string rname, .string rver, .bool rold, .int .i64 rkind, .bool rweak, .int .i64 rvis, .bool rdefd, .int .i64 rval, .int .i64 rsize] 25)).alloc (.cells #[.int .i64 0, .int .i64 0, .bool false] 34) = w1 at *
  have hrl : w.heap.size ≤ w.heap.size + 1 := Nat.le_succ _
  generalize w.heap.size + 1 = rb at *
  generalize rb + 1 = g at *
  have HRL := Lib.hid hrl
  have ht : mcs.toList = ints (cntK ⟨rname, rver, rold, rkind, rweak, rvis, rdefd, rval, rsize⟩ skip ims 0) := by
    rw [HMC.out, toList_madeCells_one, cntK_zero]
    simp [ints]
  have hsz : mcs.size = ims.length * 1 := by rw [← Array.length_toList, ht]; simp [ints, cntK]
  have ho : (w1.alloc (.cells mcs 3)).ownsRow w1.heap.size 3 1 (.slice (some ⟨w1.heap.size, 0, none⟩) ims.length ims.length) ims.length (ints (cntK ⟨rname, rver, rold, rkind, rweak, rvis, rdefd, rval, rsize⟩ skip ims 0)) := by
    rw [← ht]; exact World.ownsRow_lit w1 mcs ims.length (Nat.le_refl _) (by unfold maxLen; omega) hsz
  have hx2 := Ext.alloc w1 (.cells mcs 3)
  rw [hw1] at ho
  have HG := Lib.hid hw1
  have HO := Lib.hid ho
  have HX2 := Lib.hid hx2
  have HX1 := Lib.hid hxb
  have HB1 := Lib.hid hb1
  have HB2 := Lib.hid hb2
  clear ht hsz ho hx2 hmk HMC hrl hb1 hb2 hxb hw1
  generalize w1.alloc (.cells mcs 3) = w2 at *
  have HFI := Lib.hid (fun k => show findI ⟨rname, rver, rold, rkind, rweak, rvis, rdefd, rval, rsize⟩ ims k = findP (ims.getD k im0).t ⟨rname, rver, rold, rkind, rweak, rvis, rdefd, rval, rsize⟩ (ims.getD k im0).l from rfl)
  have HMK := Lib.hid (fun (w' : World) (v : Value) (i k : Int) (b : Bool) (ns : List Int) => LkP.mk (r := ⟨rname, rver, rold, rkind, rweak, rvis, rdefd, rval, rsize⟩) (skip := skip) (ims := ims) (w := w) (w' := w') (v := v) (i := i) (k := k) (b := b) (ns := ns))
  have HLH := Lib.hid (fun k => look_hit (r := ⟨rname, rver, rold, rkind, rweak, rvis, rdefd, rval, rsize⟩) (skip := skip) (ims := ims) (k := k))
  have HLN := Lib.hid (look_none (r := ⟨rname, rver, rold, rkind, rweak, rvis, rdefd, rval, rsize⟩) (skip := skip) (ims := ims))
  have HCS := Lib.hid (fun k => cntK_skip (r := ⟨rname, rver, rold, rkind, rweak, rvis, rdefd, rval, rsize⟩) (skip := skip) (ims := ims) (k := k))
  have HCT := Lib.hid (fun k => cntK_set (r := ⟨rname, rver, rold, rkind, rweak, rvis, rdefd, rval, rsize⟩) (skip := skip) (ims := ims) (k := k))
  have HHB := Lib.hid (fun i => show hitB ⟨rname, rver, rold, rkind, rweak, rvis, rdefd, rval, rsize⟩ skip ims i = (decide ((i : Int) ≠ skip) && decide (0 ≤ (findI ⟨rname, rver, rold, rkind, rweak, rvis, rdefd, rval, rsize⟩ ims i).1)) from rfl)
  have HCL := Lib.hid (cntK_len ⟨rname, rver, rold, rkind, rweak, rvis, rdefd, rval, rsize⟩ skip ims)
  generalize LkP ⟨rname, rver, rold, rkind, rweak, rvis, rdefd, rval, rsize⟩ skip ims w = PP at *
  generalize lookF ⟨rname, rver, rold, rkind, rweak, rvis, rdefd, rval, rsize⟩ skip ims = lf at *
  generalize lookN ⟨rname, rver, rold, rkind, rweak, rvis, rdefd, rval, rsize⟩ skip ims = ln at *
  generalize cntK ⟨rname, rver, rold, rkind, rweak, rvis, rdefd, rval, rsize⟩ skip ims = ck at *
  generalize hitB ⟨rname, rver, rold, rkind, rweak, rvis, rdefd, rval, rsize⟩ skip ims = hit at *
  generalize findI ⟨rname, rver, rold, rkind, rweak, rvis, rdefd, rval, rsize⟩ ims = fi at *
  go_loopw [9] (fun i wr => ∃ k : Nat, k ≤ ims.length ∧ i = .int .i64 k ∧ (∀ j, j < k → hit j = false) ∧ wr.ownsRow g 3 1 (.slice (some ⟨g, 0, none⟩) ims.length ims.length) ims.length (ints (ck k)) ∧ Ext w1 wr) (fun i _ => ims.length - (intOf i).toNat)
  case atStart => exact ⟨0, Nat.zero_le _, rfl, fun j hj => absurd hj (by omega), HO.out, HX2.out⟩
  case round =>
    obtain ⟨k, hk, rfl, hn, ho, hx⟩ := hrel
    have HN := Lib.hid hn
    have HOW := Lib.hid ho
    have HX := Lib.hid hx
    clear hn ho hx
    by_cases hlt : k < ims.length
    · obtain ⟨yb, yo, rfl, hyb, hy⟩ := HH.out.rd.at hlt
      have hgd : ims.getD k im0 = ims[k] := by rw [List.getD_eq_getElem?_getD, List.getElem?_eq_getElem hlt]; rfl
      have hfi := HFI.out k
      rw [hgd] at hfi
      have HXW := Lib.hid (HX1.out.trans HX.out)
      have HFC := Lib.hid (fun w' hx => HFA.out ims[k] w' (List.getElem_mem hlt) hx (HBB.out _ (List.getElem_mem hlt)))
      have hI := hy.ext HXW.out
      have HHK := HHB.out k
      have HNEXT : Hid (hit k = false → ∀ j, j < k + 1 → hit j = false) := Lib.hid (fun h j hj => by
        rcases Nat.lt_or_ge j k with h1 | h1
        · exact HN.out j h1
        · have : j = k := by omega
          subst this; exact h)
      have HHK2 := Lib.hid HHK
      clear HHK hgd hy
      generalize ims[k] = m at *
      obtain ⟨d0, d1, d2, d3, d4, SA, sc, l, ⟨BA, bc, bs, WA, wc, ws, sh⟩, d9, d10, d11, d12, d13, d14⟩ := m
      simp only [Tb.vals] at HFC hfi
      obtain ⟨a0, a1, a2, a3, a4, a5, a6, a7, a8, a9, a10, a11, a12, a13, a14⟩ := hI
      rw [← hfi] at HFC
      have HFE := Lib.hid hfi
      clear hfi
      generalize hfk : fi k = fk at *
      obtain ⟨fa, fc⟩ := fk
      have HFK := Lib.hid hfk
      clear hfk HFE
      simp only at a0 a1 a2 a3 a4 a5 a6 a7 a8 a9 a10 a11 a12 a13 a14 HFC
      by_cases hsk : (k : Int) = skip
      · have heq : ((k : Int) != skip) = false := by rw [hsk]; exact bne_self_eq_false _
        have HNK : Hid (hit k = false) := Lib.hid (by rw [HHK2.out, decide_eq_false (by simp [hsk])]; rfl)
        have HCE := Lib.hid (HCS.out k hsk)
        clear hsk
        go_wp2
        go_roundw
        case rel => exact ⟨k + 1, by omega, by go_num, HNEXT.out HNK.out, (by rw [HCE.out]; exact HOW.out), HX.out⟩
        case measure => simp [intOf]; omega
      · have heq : ((k : Int) != skip) = true := bne_iff_ne.2 hsk
        have HCE := Lib.hid (HCT.out k hsk hlt)
        rw [HFK.out] at HCE
        have HHK3 : Hid (hit k = decide (0 ≤ fa)) := Lib.hid (by rw [HHK2.out, decide_eq_true (by exact hsk), Bool.true_and])
        clear hsk
        have hbr := HX.out.blk HB1.out
        have hbl := hbr.lt
        obtain ⟨q0, q1, q2, q3, q4, q5, q6, q7, q8⟩ := hbr.nine
        clear hbr
        have e5 : ∀ u : EW wr, u.w.cell? _ = _ := fun u => u.cell a5
        have e6 : ∀ u : EW wr, u.w.cell? _ = _ := fun u => u.cell a6
        have e7 : ∀ u : EW wr, u.w.cell? _ = _ := fun u => u.cell a7
        have e8 : ∀ u : EW wr, u.w.cell? _ = _ := fun u => u.cell a8
        have f0 : ∀ u : EW wr, u.w.cell? _ = _ := fun u => u.cell q0
        have f1 : ∀ u : EW wr, u.w.cell? _ = _ := fun u => u.cell q1
        have f2 : ∀ u : EW wr, u.w.cell? _ = _ := fun u => u.cell q2
        have f3 : ∀ u : EW wr, u.w.cell? _ = _ := fun u => u.cell q3
        have f4 : ∀ u : EW wr, u.w.cell? _ = _ := fun u => u.cell q4
        have f5 : ∀ u : EW wr, u.w.cell? _ = _ := fun u => u.cell q5
        have f6 : ∀ u : EW wr, u.w.cell? _ = _ := fun u => u.cell q6
        have f7 : ∀ u : EW wr, u.w.cell? _ = _ := fun u => u.cell q7
        have f8 : ∀ u : EW wr, u.w.cell? _ = _ := fun u => u.cell q8
        have HFU : Hid (∀ u : EW wr, _) := Lib.hid (fun u : EW wr => HFC.out u.w (HXW.out.trans u.ext))
        clear a0 a1 a2 a3 a4 a5 a6 a7 a8 a9 a10 a11 a12 a13 a14 q0 q1 q2 q3 q4 q5 q6 q7 q8
        go_wp2_with fail
        refine wp_region_ext (by kernel_rfl) (by kernel_rfl) ?_
        repeat (go_big_quiet_step ((go_at_call 30; exact ext_call (HFU.out _))))
        refine wpQuiet_nil ?_
        rintro w5 ⟨u5, rfl⟩
        have hx5' : Ext wr u5.w := u5.ext
        generalize u5.w = w5 at *
        have HX5 := Lib.hid (HX.out.trans hx5')
        have HROW := Lib.hid (hx5'.own HOW.out)
        have hcl := HCL.out k
        have hcA := HROW.out.cellAt k (by omega)
        have hcF := HROW.out.frozenAt k
        have hst := (HROW.out.stored k (.int .i64 (fc : Nat))).1
        have hgl := (HROW.out.lt g rfl).2
        have hsome : ∃ v, (ints (ck k))[k]? = some v := ⟨_, List.getElem?_eq_getElem (by simp [ints, hcl]; omega)⟩
        obtain ⟨v9, hv9⟩ := hsome
        rw [hv9] at hcA
        have hse : (ints (ck k)).set k (.int .i64 (fc : Nat)) = ints (ck (k + 1)) := by rw [HCE.out]; simp [ints, List.map_set]
        rw [hse] at hst
        have HST := Lib.hid hst
        have HXS : Hid (Ext w1 (w5.setCell ⟨g, k, none⟩ (.int .i64 (fc : Nat)))) := Lib.hid (Ext.of (HX5.out.below.setCell (by rw [HG.out]; exact Nat.le_refl _) _))
        clear e5 e6 e7 e8 f0 f1 f2 f3 f4 f5 f6 f7 f8 HFU hbl hyb hst hse hv9 hx5' hcl HFC
        by_cases hge : 0 ≤ fa
        · have HHIT : Hid (hit k = true) := Lib.hid (by rw [HHK3.out, decide_eq_true hge])
          obtain ⟨e1, e2⟩ := HLH.out k hlt HN.out HHIT.out
          rw [HFK.out] at e1
          have HE1 := Lib.hid e1
          have HE2 := Lib.hid e2
          clear e1 e2
          have hkr := HXS.out.blk HB2.out
          have r0 := hkr.cell 0 rfl
          have r1 := hkr.cell 1 rfl
          have r2 := hkr.cell 2 rfl
          have z0 := hkr.frozen 0
          have z1 := hkr.frozen 1
          have z2 := hkr.frozen 2
          have HFIN : Hid (PP (.returned (.tuple #[.agg #[.int .i64 (k : Int), .int .i64 fa, .bool true], .slice (some ⟨g, 0, none⟩) ims.length ims.length]))
              ((((w5.setCell ⟨g, k, none⟩ (.int .i64 (fc : Nat))).setCell ⟨rb, 0, none⟩ (.int .i64 (k : Int))).setCell ⟨rb, 1, none⟩ (.int .i64 fa)).setCell ⟨rb, 2, none⟩ (.bool true))) := Lib.hid (by
            refine HMK.out _ _ _ _ _ _ HE1.out HE2.out ?_ ?_
            · exact own_mono (own_farB (own_farB (own_farB HST.out hkr (by decide) _) (hkr.set 0 _) (by decide) _) ((hkr.set 0 _).set 1 _) (by decide) _) (by have := HX1.out.size; have := HG.out; omega)
            · exact Ext.of ((((HX1.out.trans HXS.out).below.setCell HRL.out _).setCell HRL.out _).setCell HRL.out _))
          clear hkr
          go_wp2
          exact bodyPost_ret (v := .tuple #[.agg #[.int .i64 (k : Int), .int .i64 fa, .bool true], .slice (some ⟨g, 0, none⟩) ims.length ims.length]) (by simp [results, Try.results14, go_sem, r0, r1, r2]) rfl HFIN.out
        · have HNK : Hid (hit k = false) := Lib.hid (by rw [HHK3.out, decide_eq_false hge])
          go_wp2
          go_roundw
          case rel => exact ⟨k + 1, by omega, by go_num, HNEXT.out HNK.out, HST.out, HXS.out⟩
          case measure => simp [intOf]; omega
    · have hke : k = ims.length := by omega
      subst hke
      obtain ⟨e1, e2⟩ := HLN.out HN.out
      have HE1 := Lib.hid e1
      have HE2 := Lib.hid e2
      clear e1 e2
      have hkr := HX.out.blk HB2.out
      have r0 := hkr.cell 0 rfl
      have r1 := hkr.cell 1 rfl
      have r2 := hkr.cell 2 rfl
      have z0 := hkr.frozen 0
      have z1 := hkr.frozen 1
      have z2 := hkr.frozen 2
      have HFIN : Hid (PP (.returned (.tuple #[.agg #[.int .i64 0, .int .i64 0, .bool false], .slice (some ⟨g, 0, none⟩) ims.length ims.length]))
          (((wr.setCell ⟨rb, 0, none⟩ (.int .i64 0)).setCell ⟨rb, 1, none⟩ (.int .i64 0)).setCell ⟨rb, 2, none⟩ (.bool false))) := Lib.hid (by
        refine HMK.out _ _ _ _ _ _ HE1.out HE2.out ?_ ?_
        · exact own_mono (own_farB (own_farB (own_farB HOW.out hkr (by decide) _) (hkr.set 0 _) (by decide) _) ((hkr.set 0 _).set 1 _) (by decide) _) (by have := HX1.out.size; have := HG.out; omega)
        · exact Ext.of ((((HX1.out.trans HX.out).below.setCell HRL.out _).setCell HRL.out _).setCell HRL.out _))
      clear hkr
      go_wp2
      exact bodyPost_ret (v := .tuple #[.agg #[.int .i64 0, .int .i64 0, .bool false], .slice (some ⟨g, 0, none⟩) ims.length ims.length]) (by simp [results, Try.results14, go_sem, r0, r1, r2]) rfl HFIN.out

end Go.Proofs.Ytcjmngonpijeiaa
