/- clevislaw14.ScopeFirst: what is found matches, and nothing ahead does. -/
import Derived.Test.YtcjmngonpijeiaaAwk14
import Derived.Test.YtcjmngonpijeiaaMeans
namespace Go.Proofs.Ytcjmngonpijeiaa
set_option maxRecDepth 100000
open Go.ChangeShapes Go.WideShapes Go.ChangeAt Go.RowKit Go.Joins Pl
set_option linter.unusedVariables false

set_option maxRecDepth 100000 in
set_option maxHeartbeats 6400000 in
theorem walk_ScopeFirst (v0 v1 v2 : Value) (r : Sym) (skip : Int) (ims : List Im) (w : World) (h0 : InSym w v0 r) (h1 : InInt w v1 skip) (h2 : InImgs w v2 ims) :
    Calls Try.prog 5 #[v0, v1, v2] w fun e w' => e = .returned (.bool true) ∧ Below w.heap.size w w' := by
  obtain ⟨A, c, rfl, hI, hlc, hcm⟩ := h2
  obtain ⟨rfl, hs0, hs1⟩ := h1
  obtain ⟨rfl, hr⟩ := h0
  have HH := Lib.hid hI
  have hil := hI.len
  have HR := Lib.hid (fun w' (hx : Ext w w') => rright14_any A c ims w' (hI.ext hx))
  have HA : Hid (allR ims = true → ∀ w', Ext w w' → Calls Try.prog 13 #[.agg r.vals.toArray, .int .i64 skip, .slice A ims.length c] w' (LkP r skip ims w')) := Lib.hid (fun ha w' hx => look_any r skip A c ims w' hr (hI.ext hx) (allR_len ha))
  have HFF : Hid (allR ims = true → _) := Lib.hid (fun ha => found_first (r := r) (skip := skip) ha)
  have HME := Lib.hid (fun m (k : Int) w' hm => rmeans_any r m k w' hm)
  have HCK := Lib.hid (fun k i hi h => cntK_after (r := r) (skip := skip) (ims := ims) (k := k) (i := i) hi h)
  clear hI hr
  unfold LkP at HA
  generalize allR ims = al at *
  generalize lookF r skip ims = kf at *
  generalize lookN r skip ims = ln at *
  generalize cntK r skip ims = ck at *
  generalize meansB r = mb at *
  obtain ⟨rname, rver, rold, rkind, rweak, rvis, rdefd, rval, rsize⟩ := r
  simp only [Sym.vals] at HA HME ⊢
  go_enter Try.func5, Try.ntmps5
  go_wp2_with fail
  have hb1 : Blk (w.alloc (.cells #[.string rname, .string rver, .bool rold, .int .i64 rkind, .bool rweak, .int .i64 rvis, .bool rdefd, .int .i64 rval, .int .i64 rsize] 25)) w.heap.size 25 #[.string rname, .string rver, .bool rold, .int .i64 rkind, .bool rweak, .int .i64 rvis, .bool rdefd, .int .i64 rval, .int .i64 rsize] := Blk.new _ _ _
  have hxb := Ext.alloc w (.cells #[.string rname, .string rver, .bool rold, .int .i64 rkind, .bool rweak, .int .i64 rvis, .bool rdefd, .int .i64 rval, .int .i64 rsize] 25)
  generalize w.alloc (.cells #[.string rname, .string rver, .bool rold, .int .i64 rkind, .bool rweak, .int .i64 rvis, .bool rdefd, .int .i64 rval, .int .i64 rsize] 25) = wb at *
  refine (awake14_any _).mono ?_
  rintro e w1 ⟨rfl, hx1⟩
  have HX1 := Lib.hid (hxb.trans hx1)
  have HRB := Lib.hid (hx1.blk hb1)
  clear hb1 hxb hx1
  go_wp2_with fail
  refine (HR.out _ HX1.out).mono ?_
  rintro e w2 ⟨rfl, hx2⟩
  have HX2 := Lib.hid (HX1.out.trans hx2)
  have HRB2 := Lib.hid (hx2.blk HRB.out)
  clear hx2
  cases al
  · go_wp2
    go_ret
    first | exact ⟨rfl, HX2.out⟩ | exact HX2.out
  obtain ⟨q0, q1, q2, q3, q4, q5, q6, q7, q8⟩ := HRB2.out.nine
  have HA2 := Lib.hid (HA.out rfl)
  have HF2 := Lib.hid (HFF.out rfl)
  clear HA HFF HR
  go_wp2_with fail
  refine (HA2.out _ HX2.out).mono ?_
  rintro e w3 ⟨n1, rfl, ho1, hx3⟩
  obtain ⟨A1, c1, rfl⟩ := own_slice ho1
  have HX3 := Lib.hid (HX2.out.trans hx3)
  have HRB3 := Lib.hid (hx3.blk HRB2.out)
  have HRD := Lib.hid (Rd.of_own ho1)
  clear ho1 hx3 q0 q1 q2 q3 q4 q5 q6 q7 q8 HA2
  have hnn : ((ims.length : Int) != (ims.length : Int)) = false := bne_self_eq_false _
  rcases HF2.out with ⟨rfl, hln, hno⟩ | ⟨a, b, rfl, hln, ha, hsk, hmt, hno⟩
  · clear HF2
    have hkg := Blk.new w3 29 #[.int .i64 0, .int .i64 0, .bool false]
    have hxg := Ext.alloc w3 (.cells #[.int .i64 0, .int .i64 0, .bool false] 29)
    have HX4 := Lib.hid (HX3.out.trans hxg)
    have HRB4 := Lib.hid (hxg.blk HRB3.out)
    have HRD4 := Lib.hid (hxg.rd HRD.out)
    have HKG := Lib.hid hkg
    obtain ⟨q0, q1, q2, q3, q4, q5, q6, q7, q8⟩ := HRB4.out.nine
    go_wp2_with fail
    generalize w3.alloc (.cells #[.int .i64 0, .int .i64 0, .bool false] 29) = w4 at *
    generalize w3.heap.size = t8 at *
    have KF := Lib.hid HKG.out
    have k0 : ∀ u : EW w4, u.w.cell? ⟨t8, 0, none⟩ = some (.int .i64 0) := fun u => u.cell (KF.out.cell 0 rfl)
    have k1 : ∀ u : EW w4, u.w.cell? ⟨t8, 1, none⟩ = some (.int .i64 0) := fun u => u.cell (KF.out.cell 1 rfl)
    have k2 : ∀ u : EW w4, u.w.cell? ⟨t8, 2, none⟩ = some (.bool false) := fun u => u.cell (KF.out.cell 2 rfl)
    have f0 : ∀ u : EW w4, u.w.cell? _ = _ := fun u => u.cell q0
    have f1 : ∀ u : EW w4, u.w.cell? _ = _ := fun u => u.cell q1
    have f2 : ∀ u : EW w4, u.w.cell? _ = _ := fun u => u.cell q2
    have f3 : ∀ u : EW w4, u.w.cell? _ = _ := fun u => u.cell q3
    have f4 : ∀ u : EW w4, u.w.cell? _ = _ := fun u => u.cell q4
    have f5 : ∀ u : EW w4, u.w.cell? _ = _ := fun u => u.cell q5
    have f6 : ∀ u : EW w4, u.w.cell? _ = _ := fun u => u.cell q6
    have f7 : ∀ u : EW w4, u.w.cell? _ = _ := fun u => u.cell q7
    have f8 : ∀ u : EW w4, u.w.cell? _ = _ := fun u => u.cell q8
    refine wp_region_ext (by kernel_rfl) (by kernel_rfl) ?_
    repeat (go_big_quiet_step (fail))
    refine wpQuiet_nil ?_
    rintro w5 ⟨u5, rfl⟩
    have HX5 := Lib.hid (HX4.out.trans u5.ext)
    have HKF5 := Lib.hid (u5.ext.blk KF.out)
    have HRB5 := Lib.hid (u5.ext.blk HRB4.out)
    have HRD5 := Lib.hid (u5.ext.rd HRD4.out)
    generalize u5.w = w5 at *
    clear k0 k1 k2 f0 f1 f2 f3 f4 f5 f6 f7 f8 q0 q1 q2 q3 q4 q5 q6 q7 q8
    go_wp2_with fail
    go_loopw [10] (fun i wr => ∃ j : Nat, j ≤ ims.length ∧ i = .int .i64 j ∧ Ext w5 wr) (fun i _ => ims.length - (intOf i).toNat)
    case atStart => exact ⟨0, Nat.zero_le _, rfl, Ext.refl _⟩
    case round =>
      obtain ⟨j, hj, rfl, hx⟩ := hrel
      have HXO := Lib.hid hx
      clear hx
      by_cases hlt : j < ims.length
      · have k0 : wr.cell? ⟨t8, 0, none⟩ = some (.int .i64 0) := (HXO.out.blk HKF5.out).cell 0 rfl
        have k2 : wr.cell? ⟨t8, 2, none⟩ = some (.bool false) := (HXO.out.blk HKF5.out).cell 2 rfl
        have HNC : Hid (∀ x : Int, ln[j]? = some x → ∃ nb no, A1 = some ⟨nb, no, none⟩ ∧ wr.cell? ⟨nb, no + j, none⟩ = some (.int .i64 x)) := Lib.hid (fun x hx => by
          have hal : j < (ints ln).length := by
            have := (List.getElem?_eq_some_iff.1 hx).1
            simpa [ints] using this
          obtain ⟨nb, no, h1, h2⟩ := HRD5.out j hal
          refine ⟨nb, no, h1, HXO.out.cell ?_⟩
          rw [h2]
          have := (List.getElem?_eq_some_iff.1 hx).2
          simp [ints, this])
        by_cases hjs : (j : Int) = skip
        · skip
          obtain ⟨nb, no, rfl, hnc⟩ := HNC.out 0 (by rw [hln]; exact HCK.out _ _ hlt (.inr hjs))
          have e1 : ((j : Int) != skip) = false := by rw [hjs]; exact bne_self_eq_false _
          have e2 : ((j : Int) == skip) = true := by rw [hjs]; exact beq_self_eq_true _
          clear hjs
          go_wp2_with fail
          go_loopw [12] (fun i wr2 => i = .int .i64 0 ∧ Ext wr wr2) (fun i _ => 0)
          case atStart => exact ⟨rfl, Ext.refl _⟩
          case round =>
            obtain ⟨rfl, hx⟩ := hrel
            have HXI := Lib.hid hx
            clear hx
            go_wp2
            go_roundw
            case rel => exact ⟨j + 1, by omega, by go_num, HXO.out.trans HXI.out⟩
            case measure => simp [intOf]; omega
        · have e1 : ((j : Int) != skip) = true := bne_iff_ne.2 hjs
          have e2 : ((j : Int) == skip) = false := beq_eq_false_iff_ne.2 hjs
          obtain ⟨yb, yo, hAe, hyb, hy⟩ := HH.out.rd.at (i := j) hlt
          have hgd : ims.getD j im0 = ims[j] := by rw [List.getD_eq_getElem?_getD, List.getElem?_eq_getElem hlt]; rfl
          have HIN := Lib.hid ((HH.out.each _ (List.getElem_mem hlt)).ext (HX5.out.trans HXO.out))
          have hI := hy.ext (HX5.out.trans HXO.out)
          have HGD := Lib.hid hgd
          clear hgd hy hyb
          have HNM := Lib.hid (hno j hlt hjs)
          rw [HGD.out] at HNM
          have HMU := Lib.hid (fun (q : Nat) w' (hx : Ext wr w') => HME.out ims[j] (q : Int) w' (HIN.out.ext hx))
          clear HGD
          generalize ims[j] = m at *
          obtain ⟨d0, d1, d2, d3, d4, SA, sc, l, ⟨BA, bc, bs, WA, wc, ws, sh⟩, d9, d10, d11, d12, d13, d14⟩ := m
          simp only [Im.vals] at HMU
          have hll := HIN.out.len
          simp only at hll
          first | subst hAe | (simp only [Option.some.injEq, Addr.mk.injEq, and_true] at hAe; obtain ⟨rfl, rfl⟩ := hAe)
          go_wp2_with fail
          have HIA := Lib.hid hI
          clear hI k0 k2
          go_loopw [12] (fun i wr2 => ∃ q : Nat, q ≤ l.length ∧ i = .int .i64 q ∧ Ext wr wr2) (fun i _ => l.length - (intOf i).toNat)
          case atStart => exact ⟨0, Nat.zero_le _, rfl, Ext.refl _⟩
          case round =>
            obtain ⟨q, hq, rfl, hx⟩ := hrel
            have HXI := Lib.hid hx
            clear hx
            obtain ⟨a0, a1, a2, a3, a4, a5, a6, a7, a8, a9, a10, a11, a12, a13, a14⟩ := HIA.out.ext HXI.out
            simp only at a0 a1 a2 a3 a4 a5 a6 a7 a8 a9 a10 a11 a12 a13 a14
            by_cases hql : q < l.length
            · obtain ⟨q0, q1, q2, q3, q4, q5, q6, q7, q8⟩ := ((HXO.out.trans HXI.out).blk HRB5.out).nine
              have HM2 : Hid (∀ u : EW wr, _) := Lib.hid (fun u : EW wr => HMU.out q u.w (HXI.out.trans u.ext))
              rw [HNM.out q] at HM2
              have f0 : ∀ u : EW wr, u.w.cell? _ = _ := fun u => u.cell q0
              have f1 : ∀ u : EW wr, u.w.cell? _ = _ := fun u => u.cell q1
              have f2 : ∀ u : EW wr, u.w.cell? _ = _ := fun u => u.cell q2
              have f3 : ∀ u : EW wr, u.w.cell? _ = _ := fun u => u.cell q3
              have f4 : ∀ u : EW wr, u.w.cell? _ = _ := fun u => u.cell q4
              have f5 : ∀ u : EW wr, u.w.cell? _ = _ := fun u => u.cell q5
              have f6 : ∀ u : EW wr, u.w.cell? _ = _ := fun u => u.cell q6
              have f7 : ∀ u : EW wr, u.w.cell? _ = _ := fun u => u.cell q7
              have f8 : ∀ u : EW wr, u.w.cell? _ = _ := fun u => u.cell q8
              have g0 : ∀ u : EW wr, u.w.cell? _ = _ := fun u => u.cell a0
              have g1 : ∀ u : EW wr, u.w.cell? _ = _ := fun u => u.cell a1
              have g2 : ∀ u : EW wr, u.w.cell? _ = _ := fun u => u.cell a2
              have g3 : ∀ u : EW wr, u.w.cell? _ = _ := fun u => u.cell a3
              have g4 : ∀ u : EW wr, u.w.cell? _ = _ := fun u => u.cell a4
              have g5 : ∀ u : EW wr, u.w.cell? _ = _ := fun u => u.cell a5
              have g6 : ∀ u : EW wr, u.w.cell? _ = _ := fun u => u.cell a6
              have g7 : ∀ u : EW wr, u.w.cell? _ = _ := fun u => u.cell a7
              have g8 : ∀ u : EW wr, u.w.cell? _ = _ := fun u => u.cell a8
              have g9 : ∀ u : EW wr, u.w.cell? _ = _ := fun u => u.cell a9
              have g10 : ∀ u : EW wr, u.w.cell? _ = _ := fun u => u.cell a10
              have g11 : ∀ u : EW wr, u.w.cell? _ = _ := fun u => u.cell a11
              have g12 : ∀ u : EW wr, u.w.cell? _ = _ := fun u => u.cell a12
              have g13 : ∀ u : EW wr, u.w.cell? _ = _ := fun u => u.cell a13
              have g14 : ∀ u : EW wr, u.w.cell? _ = _ := fun u => u.cell a14
              clear a0 a1 a2 a3 a4 a6 a7 a8 a9 a10 a11 a12 a13 a14 q0 q1 q2 q3 q4 q5 q6 q7 q8
              go_wp2_with fail
              refine wp_region_ext (by kernel_rfl) (by kernel_rfl) ?_
              repeat (go_big_quiet_step ((go_at_call 22; exact ext_call (HM2.out _))))
              refine wpQuiet_nil ?_
              rintro w9 ⟨u9, rfl⟩
              go_wp2
              go_roundw
              case rel => exact ⟨q + 1, by omega, by go_num, HXI.out.trans u9.ext⟩
              case measure => simp [intOf]; omega
            · clear a0 a1 a2 a3 a4 a6 a7 a8 a9 a10 a11 a12 a13 a14
              go_wp2
              go_roundw
              case rel => exact ⟨j + 1, by omega, by go_num, HXO.out.trans HXI.out⟩
              case measure => simp [intOf]; omega
      · go_wp2
        go_ret
        first | exact ⟨rfl, HX5.out.trans HXO.out⟩ | exact HX5.out.trans HXO.out
  · clear HF2
    have hkg := Blk.new w3 29 #[.int .i64 (a : Int), .int .i64 (b : Int), .bool true]
    have hxg := Ext.alloc w3 (.cells #[.int .i64 (a : Int), .int .i64 (b : Int), .bool true] 29)
    have HX4 := Lib.hid (HX3.out.trans hxg)
    have HRB4 := Lib.hid (hxg.blk HRB3.out)
    have HRD4 := Lib.hid (hxg.rd HRD.out)
    have HKG := Lib.hid hkg
    obtain ⟨q0, q1, q2, q3, q4, q5, q6, q7, q8⟩ := HRB4.out.nine
    have l1 : decide ((a : Int) < 0) = false := decide_eq_false (by omega)
    have l2 : decide ((ims.length : Int) ≤ (a : Int)) = false := decide_eq_false (by omega)
    have l3 : decide (ims.length ≤ a) = false := decide_eq_false (by omega)
    go_wp2_with fail
    generalize w3.alloc (.cells #[.int .i64 (a : Int), .int .i64 (b : Int), .bool true] 29) = w4 at *
    generalize w3.heap.size = t8 at *
    have KF := Lib.hid HKG.out
    have k0 : ∀ u : EW w4, u.w.cell? ⟨t8, 0, none⟩ = some (.int .i64 (a : Int)) := fun u => u.cell (KF.out.cell 0 rfl)
    have k1 : ∀ u : EW w4, u.w.cell? ⟨t8, 1, none⟩ = some (.int .i64 (b : Int)) := fun u => u.cell (KF.out.cell 1 rfl)
    have k2 : ∀ u : EW w4, u.w.cell? ⟨t8, 2, none⟩ = some (.bool true) := fun u => u.cell (KF.out.cell 2 rfl)
    have f0 : ∀ u : EW w4, u.w.cell? _ = _ := fun u => u.cell q0
    have f1 : ∀ u : EW w4, u.w.cell? _ = _ := fun u => u.cell q1
    have f2 : ∀ u : EW w4, u.w.cell? _ = _ := fun u => u.cell q2
    have f3 : ∀ u : EW w4, u.w.cell? _ = _ := fun u => u.cell q3
    have f4 : ∀ u : EW w4, u.w.cell? _ = _ := fun u => u.cell q4
    have f5 : ∀ u : EW w4, u.w.cell? _ = _ := fun u => u.cell q5
    have f6 : ∀ u : EW w4, u.w.cell? _ = _ := fun u => u.cell q6
    have f7 : ∀ u : EW w4, u.w.cell? _ = _ := fun u => u.cell q7
    have f8 : ∀ u : EW w4, u.w.cell? _ = _ := fun u => u.cell q8
    obtain ⟨yb, yo, hAe, hyb, hy⟩ := HH.out.rd.at (i := a) ha
    have hgd : ims.getD a im0 = ims[a] := by rw [List.getD_eq_getElem?_getD, List.getElem?_eq_getElem ha]; rfl
    have HIN := Lib.hid ((HH.out.each _ (List.getElem_mem ha)).ext HX4.out)
    have hI := hy.ext HX4.out
    have HGD := Lib.hid hgd
    clear hgd hy hyb
    have HMT := Lib.hid hmt
    rw [HGD.out] at HMT
    have HMU : Hid (∀ u : EW w4, _) := Lib.hid (fun u : EW w4 => HME.out ims[a] (b : Int) u.w (HIN.out.ext u.ext))
    rw [HMT.out] at HMU
    clear HGD HMT
    generalize ims[a] = m at *
    obtain ⟨d0, d1, d2, d3, d4, SA, sc, l, ⟨BA, bc, bs, WA, wc, ws, sh⟩, d9, d10, d11, d12, d13, d14⟩ := m
    obtain ⟨a0, a1, a2, a3, a4, a5, a6, a7, a8, a9, a10, a11, a12, a13, a14⟩ := hI
    simp only [Im.vals] at HMU
    simp only at a0 a1 a2 a3 a4 a5 a6 a7 a8 a9 a10 a11 a12 a13 a14
    first | subst hAe | (simp only [Option.some.injEq, Addr.mk.injEq, and_true] at hAe; obtain ⟨rfl, rfl⟩ := hAe)
    have hne : ((a : Int) == skip) = false := beq_eq_false_iff_ne.2 hsk
    have g0 : ∀ u : EW w4, u.w.cell? _ = _ := fun u => u.cell a0
    have g1 : ∀ u : EW w4, u.w.cell? _ = _ := fun u => u.cell a1
    have g2 : ∀ u : EW w4, u.w.cell? _ = _ := fun u => u.cell a2
    have g3 : ∀ u : EW w4, u.w.cell? _ = _ := fun u => u.cell a3
    have g4 : ∀ u : EW w4, u.w.cell? _ = _ := fun u => u.cell a4
    have g5 : ∀ u : EW w4, u.w.cell? _ = _ := fun u => u.cell a5
    have g6 : ∀ u : EW w4, u.w.cell? _ = _ := fun u => u.cell a6
    have g7 : ∀ u : EW w4, u.w.cell? _ = _ := fun u => u.cell a7
    have g8 : ∀ u : EW w4, u.w.cell? _ = _ := fun u => u.cell a8
    have g9 : ∀ u : EW w4, u.w.cell? _ = _ := fun u => u.cell a9
    have g10 : ∀ u : EW w4, u.w.cell? _ = _ := fun u => u.cell a10
    have g11 : ∀ u : EW w4, u.w.cell? _ = _ := fun u => u.cell a11
    have g12 : ∀ u : EW w4, u.w.cell? _ = _ := fun u => u.cell a12
    have g13 : ∀ u : EW w4, u.w.cell? _ = _ := fun u => u.cell a13
    have g14 : ∀ u : EW w4, u.w.cell? _ = _ := fun u => u.cell a14
    refine wp_region_ext (by kernel_rfl) (by kernel_rfl) ?_
    repeat (go_big_quiet_step ((go_at_call 22; exact ext_call (HMU.out _))))
    refine wpQuiet_nil ?_
    rintro w5 ⟨u5, rfl⟩
    have HX5 := Lib.hid (HX4.out.trans u5.ext)
    have HKF5 := Lib.hid (u5.ext.blk KF.out)
    have HRB5 := Lib.hid (u5.ext.blk HRB4.out)
    have HRD5 := Lib.hid (u5.ext.rd HRD4.out)
    generalize u5.w = w5 at *
    clear k0 k1 k2 f0 f1 f2 f3 f4 f5 f6 f7 f8 q0 q1 q2 q3 q4 q5 q6 q7 q8 g0 g1 g2 g3 g4 g5 g6 g7 g8 g9 g10 g11 g12 g13 g14 a0 a1 a2 a3 a4 a5 a6 a7 a8 a9 a10 a11 a12 a13 a14 HMU HIN
    go_wp2_with fail
    go_loopw [10] (fun i wr => ∃ j : Nat, j ≤ ims.length ∧ i = .int .i64 j ∧ Ext w5 wr) (fun i _ => ims.length - (intOf i).toNat)
    case atStart => exact ⟨0, Nat.zero_le _, rfl, Ext.refl _⟩
    case round =>
      obtain ⟨j, hj, rfl, hx⟩ := hrel
      have HXO := Lib.hid hx
      clear hx
      by_cases hlt : j < ims.length
      · have k0 : wr.cell? ⟨t8, 0, none⟩ = some (.int .i64 (a : Int)) := (HXO.out.blk HKF5.out).cell 0 rfl
        have k2 : wr.cell? ⟨t8, 2, none⟩ = some (.bool true) := (HXO.out.blk HKF5.out).cell 2 rfl
        have HNC : Hid (∀ x : Int, ln[j]? = some x → ∃ nb no, A1 = some ⟨nb, no, none⟩ ∧ wr.cell? ⟨nb, no + j, none⟩ = some (.int .i64 x)) := Lib.hid (fun x hx => by
          have hal : j < (ints ln).length := by
            have := (List.getElem?_eq_some_iff.1 hx).1
            simpa [ints] using this
          obtain ⟨nb, no, h1, h2⟩ := HRD5.out j hal
          refine ⟨nb, no, h1, HXO.out.cell ?_⟩
          rw [h2]
          have := (List.getElem?_eq_some_iff.1 hx).2
          simp [ints, this])
        by_cases hjs : (j : Int) = skip
        · -- the one that is skipped
          by_cases hja : a < j
          · have e4 : decide ((a : Int) < (j : Int)) = true := decide_eq_true (by omega)
            obtain ⟨nb, no, rfl, hnc⟩ := HNC.out 0 (by rw [hln]; exact HCK.out _ _ hlt (.inr hjs))
            have e1 : ((j : Int) != skip) = false := by rw [hjs]; exact bne_self_eq_false _
            have e2 : ((j : Int) == skip) = true := by rw [hjs]; exact beq_self_eq_true _
            clear hjs
            go_wp2_with fail
            go_loopw [12] (fun i wr2 => i = .int .i64 0 ∧ Ext wr wr2) (fun i _ => 0)
            case atStart => exact ⟨rfl, Ext.refl _⟩
            case round =>
              obtain ⟨rfl, hx⟩ := hrel
              have HXI := Lib.hid hx
              clear hx
              go_wp2
              go_roundw
              case rel => exact ⟨j + 1, by omega, by go_num, HXO.out.trans HXI.out⟩
              case measure => simp [intOf]; omega
          · have e4 : decide ((a : Int) < (j : Int)) = false := decide_eq_false (by omega)
            obtain ⟨nb, no, rfl, hnc⟩ := HNC.out 0 (by rw [hln]; exact HCK.out _ _ hlt (.inr hjs))
            have e1 : ((j : Int) != skip) = false := by rw [hjs]; exact bne_self_eq_false _
            have e2 : ((j : Int) == skip) = true := by rw [hjs]; exact beq_self_eq_true _
            clear hjs
            go_wp2_with fail
            go_loopw [12] (fun i wr2 => i = .int .i64 0 ∧ Ext wr wr2) (fun i _ => 0)
            case atStart => exact ⟨rfl, Ext.refl _⟩
            case round =>
              obtain ⟨rfl, hx⟩ := hrel
              have HXI := Lib.hid hx
              clear hx
              go_wp2
              go_roundw
              case rel => exact ⟨j + 1, by omega, by go_num, HXO.out.trans HXI.out⟩
              case measure => simp [intOf]; omega
        · have e1 : ((j : Int) != skip) = true := bne_iff_ne.2 hjs
          have e2 : ((j : Int) == skip) = false := beq_eq_false_iff_ne.2 hjs
          by_cases hja : j < a
          · have e3 : decide ((j : Int) < (a : Int)) = true := decide_eq_true (by omega)
            have e4 : decide ((a : Int) < (j : Int)) = false := decide_eq_false (by omega)
            obtain ⟨yb2, yo2, hAe, hyb, hy⟩ := HH.out.rd.at (i := j) hlt
            have hgd : ims.getD j im0 = ims[j] := by rw [List.getD_eq_getElem?_getD, List.getElem?_eq_getElem hlt]; rfl
            have HIN := Lib.hid ((HH.out.each _ (List.getElem_mem hlt)).ext (HX5.out.trans HXO.out))
            have hI := hy.ext (HX5.out.trans HXO.out)
            simp only [Option.some.injEq, Addr.mk.injEq, and_true] at hAe
            rw [← hAe.1, ← hAe.2] at hI
            have HGD := Lib.hid hgd
            clear hgd hy hyb
            have HNM := Lib.hid (hno j hja hjs)
            rw [HGD.out] at HNM
            have HMU := Lib.hid (fun (q : Nat) w' (hx : Ext wr w') => HME.out ims[j] (q : Int) w' (HIN.out.ext hx))
            clear HGD
            generalize ims[j] = m at *
            obtain ⟨d0, d1, d2, d3, d4, SA, sc, l, ⟨BA, bc, bs, WA, wc, ws, sh⟩, d9, d10, d11, d12, d13, d14⟩ := m
            simp only [Im.vals] at HMU
            have hll := HIN.out.len
            simp only at hll
            clear hAe
            go_wp2_with fail
            have HIA := Lib.hid hI
            clear hI k0 k2
            go_loopw [12] (fun i wr2 => ∃ q : Nat, q ≤ l.length ∧ i = .int .i64 q ∧ Ext wr wr2) (fun i _ => l.length - (intOf i).toNat)
            case atStart => exact ⟨0, Nat.zero_le _, rfl, Ext.refl _⟩
            case round =>
              obtain ⟨q, hq, rfl, hx⟩ := hrel
              have HXI := Lib.hid hx
              clear hx
              obtain ⟨a0, a1, a2, a3, a4, a5, a6, a7, a8, a9, a10, a11, a12, a13, a14⟩ := HIA.out.ext HXI.out
              simp only at a0 a1 a2 a3 a4 a5 a6 a7 a8 a9 a10 a11 a12 a13 a14
              by_cases hql : q < l.length
              · obtain ⟨q0, q1, q2, q3, q4, q5, q6, q7, q8⟩ := ((HXO.out.trans HXI.out).blk HRB5.out).nine
                have HM2 : Hid (∀ u : EW wr, _) := Lib.hid (fun u : EW wr => HMU.out q u.w (HXI.out.trans u.ext))
                rw [HNM.out q] at HM2
                have f0 : ∀ u : EW wr, u.w.cell? _ = _ := fun u => u.cell q0
                have f1 : ∀ u : EW wr, u.w.cell? _ = _ := fun u => u.cell q1
                have f2 : ∀ u : EW wr, u.w.cell? _ = _ := fun u => u.cell q2
                have f3 : ∀ u : EW wr, u.w.cell? _ = _ := fun u => u.cell q3
                have f4 : ∀ u : EW wr, u.w.cell? _ = _ := fun u => u.cell q4
                have f5 : ∀ u : EW wr, u.w.cell? _ = _ := fun u => u.cell q5
                have f6 : ∀ u : EW wr, u.w.cell? _ = _ := fun u => u.cell q6
                have f7 : ∀ u : EW wr, u.w.cell? _ = _ := fun u => u.cell q7
                have f8 : ∀ u : EW wr, u.w.cell? _ = _ := fun u => u.cell q8
                have g0 : ∀ u : EW wr, u.w.cell? _ = _ := fun u => u.cell a0
                have g1 : ∀ u : EW wr, u.w.cell? _ = _ := fun u => u.cell a1
                have g2 : ∀ u : EW wr, u.w.cell? _ = _ := fun u => u.cell a2
                have g3 : ∀ u : EW wr, u.w.cell? _ = _ := fun u => u.cell a3
                have g4 : ∀ u : EW wr, u.w.cell? _ = _ := fun u => u.cell a4
                have g5 : ∀ u : EW wr, u.w.cell? _ = _ := fun u => u.cell a5
                have g6 : ∀ u : EW wr, u.w.cell? _ = _ := fun u => u.cell a6
                have g7 : ∀ u : EW wr, u.w.cell? _ = _ := fun u => u.cell a7
                have g8 : ∀ u : EW wr, u.w.cell? _ = _ := fun u => u.cell a8
                have g9 : ∀ u : EW wr, u.w.cell? _ = _ := fun u => u.cell a9
                have g10 : ∀ u : EW wr, u.w.cell? _ = _ := fun u => u.cell a10
                have g11 : ∀ u : EW wr, u.w.cell? _ = _ := fun u => u.cell a11
                have g12 : ∀ u : EW wr, u.w.cell? _ = _ := fun u => u.cell a12
                have g13 : ∀ u : EW wr, u.w.cell? _ = _ := fun u => u.cell a13
                have g14 : ∀ u : EW wr, u.w.cell? _ = _ := fun u => u.cell a14
                clear a0 a1 a2 a3 a4 a6 a7 a8 a9 a10 a11 a12 a13 a14 q0 q1 q2 q3 q4 q5 q6 q7 q8
                go_wp2_with fail
                refine wp_region_ext (by kernel_rfl) (by kernel_rfl) ?_
                repeat (go_big_quiet_step ((go_at_call 22; exact ext_call (HM2.out _))))
                refine wpQuiet_nil ?_
                rintro w9 ⟨u9, rfl⟩
                go_wp2
                go_roundw
                case rel => exact ⟨q + 1, by omega, by go_num, HXI.out.trans u9.ext⟩
                case measure => simp [intOf]; omega
              · clear a0 a1 a2 a3 a4 a6 a7 a8 a9 a10 a11 a12 a13 a14
                go_wp2
                go_roundw
                case rel => exact ⟨j + 1, by omega, by go_num, HXO.out.trans HXI.out⟩
                case measure => simp [intOf]; omega
          · have e3 : decide ((j : Int) < (a : Int)) = false := decide_eq_false (by omega)
            by_cases hje : a < j
            · have e4 : decide ((a : Int) < (j : Int)) = true := decide_eq_true (by omega)
              obtain ⟨nb, no, rfl, hnc⟩ := HNC.out 0 (by rw [hln]; exact HCK.out _ _ hlt (.inl (by omega)))
              go_wp2_with fail
              go_loopw [12] (fun i wr2 => i = .int .i64 0 ∧ Ext wr wr2) (fun i _ => 0)
              case atStart => exact ⟨rfl, Ext.refl _⟩
              case round =>
                obtain ⟨rfl, hx⟩ := hrel
                have HXI := Lib.hid hx
                clear hx
                go_wp2
                go_roundw
                case rel => exact ⟨j + 1, by omega, by go_num, HXO.out.trans HXI.out⟩
                case measure => simp [intOf]; omega
            · have e4 : decide ((a : Int) < (j : Int)) = false := decide_eq_false (by omega)
              go_wp2_with fail
              go_loopw [12] (fun i wr2 => i = .int .i64 0 ∧ Ext wr wr2) (fun i _ => 0)
              case atStart => exact ⟨rfl, Ext.refl _⟩
              case round =>
                obtain ⟨rfl, hx⟩ := hrel
                have HXI := Lib.hid hx
                clear hx
                go_wp2
                go_roundw
                case rel => exact ⟨j + 1, by omega, by go_num, HXO.out.trans HXI.out⟩
                case measure => simp [intOf]; omega
      · go_wp2
        go_ret
        first | exact ⟨rfl, HX5.out.trans HXO.out⟩ | exact HX5.out.trans HXO.out

set_option maxRecDepth 100000 in
theorem lifted_ScopeFirst (os : Os) (started : os.Started) (H : Type) (enc : TypeId × Value → H) :
    ReturnsInHanded {} Try.checked os 5 .any (Rows.scopeFirstSpec.pre6 enc Try.prog Try.f5 Rows.scopeFirstRow.domain false) (Rows.scopeFirstSpec.post enc Try.prog Try.f5 false true false false) := by
  refine returnsInHanded_of_change_sized (C := Try.checked) own started (by kernel_rfl) Try.func5
    (ChangeSpec.witness6 (enc := enc) (C := Try.checked) false ⟨#[], #[.agg #[.string ByteArray.empty, .string ByteArray.empty, .bool false, .int .i64 0, .bool false, .int .i64 0, .bool false, .int .i64 0, .int .i64 0], .int .i64 0, .slice none 0 0], []⟩ 8 (by kernel_rfl) (by kernel_rfl) (by kernel_rfl) (by kernel_rfl)) ?_
  intro W base args ds gs before hval0 hW hcnd hsz0 _
  have hsz : (DataW.weightsEach Try.prog (Try.f5.params.toList ++ Rows.scopeFirstSpec.plain.varTypes Try.prog) (ds ++ gs)).all (· ≤ reachBytes) = true := hsz0
  clear hsz0
  have hval : ∀ (j : Nat) t v, Try.f5.params[j]? = some t → args[j]? = some v → Value.okWide Try.prog W .any base t v := hval0
  have hW' := hW
  obtain ⟨p, q, hA0, hV, rfl, hfz, hnd⟩ := hW
  have hA : DataW.TrodAll enc Try.prog W 0 (fun _ => true) true Try.f5.params.toList args.toList ds p := hA0
  rw [Try.params5] at hA hval hsz
  obtain ⟨v0, vs0, d0, ds0, p0, q0, hargs, rfl, rfl, h0, r0⟩ := trodAll_cons hA
  obtain ⟨v1, vs1, d1, ds1, p1, q1, rfl, rfl, rfl, h1, r1⟩ := trodAll_cons r0
  obtain ⟨v2, vs2, d2, ds2, p2, q2, rfl, rfl, rfl, h2, r2⟩ := trodAll_cons r1
  obtain ⟨rfl, rfl, rfl⟩ := trodAll_nil r2
  obtain rfl : args = #[v0, v1, v2] := by cases args; simp_all
  obtain ⟨rfl, rfl⟩ := trodVars_none hV
  have lt0 : ∀ x ∈ p0, x.block < W.heap.size := by obtain ⟨m, hm⟩ := h0; exact DataW.trod_lt m _ _ _ hm
  obtain ⟨x0, hx0⟩ := open_InSym (hval 0 25 v0 rfl rfl) h0 (light_each (j := 0) hsz rfl rfl)
  have lt1 : ∀ x ∈ p1, x.block < W.heap.size := by obtain ⟨m, hm⟩ := h1; exact DataW.trod_lt m _ _ _ hm
  obtain ⟨x1, hx1⟩ := open_InInt Try.underlying3 (hval 1 3 v1 rfl rfl) h1 (light_each (j := 1) hsz rfl rfl)
  have lt2 : ∀ x ∈ p2, x.block < W.heap.size := by obtain ⟨m, hm⟩ := h2; exact DataW.trod_lt m _ _ _ hm
  obtain ⟨x2, hx2⟩ := open_InImgs (hval 2 26 v2 rfl rfl) h2 (light_each (j := 2) hsz rfl rfl)
  clear hA0 hval0
  refine (walk_ScopeFirst v0 v1 v2 x0 x1 x2 W hx0 hx1 hx2).mono fun e W' ⟨he, bel⟩ => ?_
  subst he
  exact ⟨_, rfl, _, _, _, [], _, [], hW', trodAll_mk1 (shut_bool Try.underlying4 _), (trodAll_cons_mk (Below.trod laidOut (by kernel_rfl) (of_decide_eq_true (by kernel_rfl)) h0 bel lt0) (trodAll_cons_mk (Below.trod laidOut (by kernel_rfl) (of_decide_eq_true (by kernel_rfl)) h1 bel lt1) (trodAll_cons_mk (Below.trod laidOut (by kernel_rfl) (of_decide_eq_true (by kernel_rfl)) h2 bel lt2) trodAll_mk0))), rfl, bel.frame _, fun h => by cases h⟩

theorem over_ScopeFirst : Rows.scopeFirstRow.holds Try.pinned (OpenSpec.ofChange Rows.scopeFirstSpec) :=
  OpenClaim.holds_of_wide 5 Try.f5 rfl rfl rfl rfl rfl rfl rfl ⟨rfl, rfl, rfl, rfl, rfl⟩ rfl rfl rfl rfl rfl (by kernel_rfl) Try.func5 (by kernel_rfl)
    (of_decide_eq_true (by kernel_rfl)) (by unfold Func.isWrapper; first | (rw [if_pos (by decide +kernel)]; kernel_rfl) | (rw [if_neg (by decide +kernel)]; exact ⟨rfl, rfl⟩))
    (fun os started H enc _ => lifted_ScopeFirst os started H enc)

/-- the statement -/
theorem holds_ScopeFirst : Rows.ScopeFirstSaid := over_ScopeFirst
#print axioms holds_ScopeFirst

end Go.Proofs.Ytcjmngonpijeiaa
