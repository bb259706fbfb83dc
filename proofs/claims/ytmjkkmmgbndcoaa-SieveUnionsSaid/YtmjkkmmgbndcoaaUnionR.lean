/- The reference's Union: what it returns. -/
import Derived.Test.YtmjkkmmgbndcoaaUnion2
import Derived.Test.YtmjkkmmgbndcoaaSieve8
import Derived.Test.YtmjkkmmgbndcoaaSieve6
import Derived.StillTailTactics
import Derived.Deep.QuietTactic
import Derived.BigQuiet
namespace Go.Proofs.Ytmjkkmmgbndcoaa
open Go.RowKit Pl
set_option linter.unusedVariables false

/-- a union is returned, or none -/
def RetB (W : World) (r : Option (List Nat × Int)) (e : Ending) (w' : World) : Prop :=
  (r = none ∧ e = .returned (.tuple #[.agg #[.slice none 0 0, .int .i64 0], .bool false]) ∧ Ext W w') ∨
  ∃ ws sh A c, r = some (ws, sh) ∧ e = .returned (.tuple #[.agg #[.slice A ws.length c, .int .i64 sh], .bool true]) ∧ w'.ownsRow W.heap.size 53 1 (.slice A ws.length c) ws.length (u64s ws) ∧ Ext W w'

theorem mod_succ_bit (y j : Nat) : y % 2 ^ (j + 1) = y % 2 ^ j ||| (if hasB y j then 2 ^ j else 0) := by
  rw [hasB_bit]
  apply Nat.eq_of_testBit_eq
  intro i
  rw [Nat.testBit_mod_two_pow, Nat.testBit_or, Nat.testBit_mod_two_pow]
  cases hb : y.testBit j
  · simp only [Bool.false_eq_true, if_false, Nat.zero_testBit, Bool.or_false]
    by_cases hij : i < j
    · simp [hij]; omega
    · by_cases he : i = j
      · subst he; simp [hb]
      · have : ¬ i < j + 1 := by omega
        simp [hij, this]
  · simp only [if_true, Nat.testBit_two_pow]
    by_cases hij : i < j
    · have : i < j + 1 := by omega
      have hne : ¬ j = i := by omega
      simp [hij, this, hne]
    · by_cases he : i = j
      · subst he; simp [hb]
      · have : ¬ i < j + 1 := by omega
        have hne : ¬ j = i := by omega
        simp [hij, this, hne]

set_option maxHeartbeats 800000 in
theorem unionR_nil (A : Option Addr) (cap : Nat) (w : World) :
    Calls Try.prog 28 #[.slice A 0 cap] w fun e w' => e = .returned (.tuple #[.agg #[.slice none 0 0, .int .i64 0], .bool false]) ∧ Ext w w' := by
  go_enter Try.func28, Try.ntmps28
  go_wp2
  exact bodyPost_ret (v := .tuple #[.agg #[.slice none 0 0, .int .i64 0], .bool false]) (by simp [results, Try.results28, go_sem]) rfl ⟨rfl, Ext.alloc _ _⟩

set_option maxHeartbeats 800000 in
theorem unionR_bad (A : Option Addr) (cap : Nat) (f : Fl) (fs : List Fl) (w : World) (hA : RdF w A (f :: fs)) (hlen : (f :: fs).length * 32 ≤ 140737488351232) (hm : f.ws.length ≤ maxLen)
    (hr : rightB f.ws.length f.sh = false) :
    Calls Try.prog 28 #[.slice A (fs.length + 1) cap] w fun e w' => e = .returned (.tuple #[.agg #[.slice none 0 0, .int .i64 0], .bool false]) ∧ Ext w w' := by
  obtain ⟨b, off, rfl, h0, h1, hR⟩ := hA 0 f rfl
  simp only [Nat.zero_mul, Nat.add_zero] at h0 h1
  have HR := Lib.hid hr
  have hl32 : (fs.length + 1) * 32 ≤ 140737488351232 := hlen
  have hblt := cell_lt h0
  have hne : ((fs.length : Int) + 1 == 0) = false := by rw [beq_eq_false_iff_ne]; omega
  have HM := Lib.hid hm
  clear hr hA hR hlen hm
  go_enter Try.func28, Try.ntmps28
  go_wp2_with fail
  refine (refRight_any _ _ _ _ _ HM.out).mono ?_
  rintro e w1 ⟨rfl, hb1⟩
  rw [HR.out]
  have x1 : Ext _ w1 := hb1
  have k2 := x1.blk (Blk.new w 26 #[.slice none 0 0, .int .i64 0])
  have xx := (Ext.alloc w (.cells #[.slice none 0 0, .int .i64 0] 26)).trans x1
  have r0 : w1.cell? ⟨w.heap.size, 0, none⟩ = some (.slice none 0 0) := k2.cell 0 rfl
  have r1 : w1.cell? ⟨w.heap.size, 1, none⟩ = some (.int .i64 0) := k2.cell 1 rfl
  have g0 := k2.frozen 0
  have g1 := k2.frozen 1
  clear k2 x1 hb1
  go_wp2
  exact bodyPost_ret (v := .tuple #[.agg #[.slice none 0 0, .int .i64 0], .bool false]) (by simp [results, Try.results28, go_sem, r0, r1]) rfl ⟨rfl, (xx.set (Nat.le_refl _) _).set (Nat.le_refl _) _⟩

set_option maxHeartbeats 3200000 in
theorem unionR_walk (A : Option Addr) (cap : Nat) (f : Fl) (fs : List Fl) (w : World) (hA : RdF w A (f :: fs)) (hfit : ∀ g ∈ f :: fs, g.Fit) (hlen : (f :: fs).length * 32 ≤ 140737488351232)
    (hr : rightB f.ws.length f.sh = true) :
    Calls Try.prog 28 #[.slice A (fs.length + 1) cap] w (RetB w ((unionR f.sh f.ws (fs.map Fl.pair)).map fun ws => (ws, f.sh))) := by
  have hbd := rightB_bd hr
  obtain ⟨b, off, rfl, h0, h1, hR⟩ := hA 0 f rfl
  simp only [Nat.zero_mul, Nat.add_zero] at h0 h1
  have HR := Lib.hid hr
  have HA := Lib.hid hA
  have HF := Lib.hid hR
  have hl32 : (fs.length + 1) * 32 ≤ 140737488351232 := hlen
  have HFT := Lib.hid hfit
  clear hr hA hR hfit hlen
  have hblt := cell_lt h0
  have hne : ((fs.length : Int) + 1 == 0) = false := by rw [beq_eq_false_iff_ne]; omega
  go_enter Try.func28, Try.ntmps28
  go_wp2_with fail
  refine (refRight_any _ _ _ _ _ (by unfold maxLen; omega)).mono ?_
  rintro e w1 ⟨rfl, hb1⟩
  rw [HR.out]
  have x1 : Ext _ w1 := hb1
  have k2 := x1.blk (Blk.new w 26 #[.slice none 0 0, .int .i64 0])
  have xx := (Ext.alloc w (.cells #[.slice none 0 0, .int .i64 0] 26)).trans x1
  replace h0 := xx.cell h0
  replace h1 := xx.cell h1
  have hR1 := xx.rd HF.out
  have z1 := k2.lt
  clear x1 hb1
  have f0 := HFT.out f (by simp)
  have HA1 := Lib.hid (refAdd_any f.A f.cap f.sh f.ws none 0 [] w1 f0.1 (by simp) (by simp) f0.2.1 hR1 (Rd.nil _ _) (.inl rfl))
  clear hR1 f0
  go_wp2_with fail
  refine HA1.out.mono ?_
  rintro e w2 ⟨A2, c2, rfl, o2, hb2⟩
  have o2 : w2.ownsRow w1.heap.size 53 1 (.slice A2 f.ws.length c2) f.ws.length (u64s f.ws) := o2
  obtain ⟨g, c, hv, hgl, hgs, hnc, hcm⟩ := own_at o2 (by omega)
  simp only [Value.slice.injEq, true_and] at hv
  obtain ⟨rfl, rfl⟩ := hv
  have x2 : Ext w1 w2 := hb2
  have a2 := Ext.alloc w2 (.cells #[.slice (some ⟨g, 0, none⟩) f.ws.length c2, .int .i64 f.sh] 26)
  have k4 := Blk.new w2 26 #[.slice (some ⟨g, 0, none⟩) f.ws.length c2, .int .i64 f.sh]
  replace k2 := (x2.trans a2).blk k2
  replace o2 := a2.own o2
  replace xx := xx.trans (x2.trans a2)
  have n4 := own_ne o2 k4 (by decide)
  have n2 := own_ne o2 k2 (by decide)
  have z2 := x2.size
  clear h0 h1 x2 a2 hb2 HA1
  go_wp2_with fail
  generalize w2.alloc (.cells #[.slice (some ⟨g, 0, none⟩) f.ws.length c2, .int .i64 f.sh] 26) = w3 at *
  go_loopw [5] (fun i wr => ∃ (k : Nat) (acc : List Nat), k ≤ fs.length ∧ i = .int .i64 ((k : Int) + 1) ∧ acc.length = f.ws.length ∧ (∀ y ∈ acc, y < 18446744073709551616) ∧
      unionR f.sh f.ws (fs.map Fl.pair) = unionR f.sh acc ((fs.drop k).map Fl.pair) ∧ Blk wr w.heap.size 26 #[.slice none 0 0, .int .i64 0] ∧
      Blk wr w2.heap.size 26 #[.slice (some ⟨g, 0, none⟩) f.ws.length c2, .int .i64 f.sh] ∧ wr.ownsRow w1.heap.size 53 1 (.slice (some ⟨g, 0, none⟩) f.ws.length c2) f.ws.length (u64s acc) ∧ Ext w wr) (fun i _ => fs.length + 1 - (intOf i).toNat)
  case atStart => exact ⟨0, f.ws, Nat.zero_le _, rfl, rfl, (HFT.out f (by simp)).1, rfl, k2, k4, o2, xx⟩
  case round =>
    clear k2 k4 o2 xx
    obtain ⟨k, acc, hk, rfl, hacc, hlt64, hun, k2, k4, o4, xw⟩ := hrel
    have HUN := Lib.hid hun
    have HACC := Lib.hid hacc
    have H64 := Lib.hid hlt64
    clear hun hacc hlt64
    by_cases hlt : k < fs.length
    · have hfk : fs[k]? = some (fs[k]) := List.getElem?_eq_getElem hlt
      have hfit := HFT.out fs[k] (List.mem_cons_of_mem _ (List.getElem_mem hlt))
      obtain ⟨bT, oT, hAe, e0, e1, hRk⟩ := HA.out (k + 1) _ (by rw [List.getElem?_cons_succ]; exact hfk)
      simp only [Option.some.injEq, Addr.mk.injEq, and_true] at hAe
      obtain ⟨rfl, rfl⟩ := hAe
      have HD := Lib.hid (drop_map Fl.pair fs k _ hfk)
      generalize fs[k] = fk at *
      obtain ⟨Ak, ck, wk, sk⟩ := fk
      simp only at e0 e1 hRk
      have E0 := Lib.hid e0
      replace e0 := xw.cell e0
      replace e1 := xw.cell e1
      have HRk := Lib.hid hRk
      have HFk := Lib.hid hfit
      have d0 : wr.cell? ⟨w2.heap.size, 0, none⟩ = some (.slice (some ⟨g, 0, none⟩) f.ws.length c2) := k4.cell 0 rfl
      have d1 : wr.cell? ⟨w2.heap.size, 1, none⟩ = some (.int .i64 f.sh) := k4.cell 1 rfl
      have r0 : wr.cell? ⟨w.heap.size, 0, none⟩ = some (.slice none 0 0) := k2.cell 0 rfl
      have r1 : wr.cell? ⟨w.heap.size, 1, none⟩ = some (.int .i64 0) := k2.cell 1 rfl
      have g0 := k2.frozen 0
      have g1 := k2.frozen 1
      have hik : (k : Int) + 1 < (fs.length : Int) + 1 := by omega
      clear hfit hRk hfk
      by_cases hcl : wk.length = f.ws.length
      · have e2 : ((wk.length : Int) != (f.ws.length : Int)) = false := by rw [hcl]; simp
        have HCL := Lib.hid hcl
        clear hcl
        by_cases hcs : sk = f.sh
        · subst hcs
          have e3 : (f.sh != f.sh) = false := by simp
          have K2 := Lib.hid k2
          have K4 := Lib.hid k4
          have KO := Lib.hid o4
          clear k2 k4 o4
          go_wp2_with fail
          go_quiet (fail)
          go_wp2_with fail
          generalize hwx : World.drewN wr _ = wx
          have k2 : Blk wx w.heap.size 26 #[.slice none 0 0, .int .i64 0] := by rw [← hwx]; exact K2.out
          have k4 : Blk wx w2.heap.size 26 #[.slice (some ⟨g, 0, none⟩) f.ws.length c2, .int .i64 f.sh] := by rw [← hwx]; exact K4.out
          have o4 : wx.ownsRow w1.heap.size 53 1 (.slice (some ⟨g, 0, none⟩) f.ws.length c2) f.ws.length (u64s (rowj acc wk 0)) := by rw [← hwx, rowj_zero]; exact KO.out
          have xx : Ext w wx := by rw [← hwx]; exact xw.trans (Ext.drewN _ _)
          clear hwx K2 K4 KO e0 e1 d0 d1 r0 r1 g0 g1
          have hn1 : 1 ≤ f.ws.length ∧ f.ws.length ≤ 64 := by omega
          go_loopw [6] (fun i wi => ∃ (j : Nat), j ≤ f.ws.length ∧ i = .int .i64 j ∧ Blk wi w.heap.size 26 #[.slice none 0 0, .int .i64 0] ∧
              Blk wi w2.heap.size 26 #[.slice (some ⟨g, 0, none⟩) f.ws.length c2, .int .i64 f.sh] ∧ wi.ownsRow w1.heap.size 53 1 (.slice (some ⟨g, 0, none⟩) f.ws.length c2) f.ws.length (u64s (rowj acc wk j)) ∧ Ext w wi) (fun i _ => f.ws.length - (intOf i).toNat)
          case atStart => exact ⟨0, Nat.zero_le _, rfl, k2, k4, o4, xx⟩
          case round =>
            clear k2 k4 o4 xx
            obtain ⟨j, hj, rfl, k2, k4, o4, xx⟩ := hrel
            have d0 : wr.cell? ⟨w2.heap.size, 0, none⟩ = some (.slice (some ⟨g, 0, none⟩) f.ws.length c2) := k4.cell 0 rfl
            have hlw : wk.length = acc.length := by rw [HACC.out]; exact HCL.out
            have HLW := Lib.hid hlw
            by_cases hjl : j < f.ws.length
            · have hja : j < acc.length := by rw [HACC.out]; exact hjl
              have hjw : j < wk.length := by rw [HCL.out]; exact hjl
              obtain ⟨bK, oK, rfl, hbK, hcK⟩ := HRk.out.u64 hjw
              have HCK := Lib.hid hcK
              have HX := Lib.hid (H64.out _ (getD_mem (d := 0) hja))
              have HY := Lib.hid (HFk.out.1 _ (getD_mem (d := 0) hjw))
              have HS := Lib.hid (rowj_succ hlw hja)
              have HG := Lib.hid (rowj_get hlw hja)
              have HRL := Lib.hid (rowj_length hlw (show j ≤ acc.length by omega))
              clear hlw hja hcK
              generalize hYe : wk.getD j 0 = Y at *
              have o4' : wr.ownsRow w1.heap.size 53 1 (.slice (some ⟨g, 0, none⟩) f.ws.length c2) f.ws.length (u64s ((rowj acc wk j).set j (acc.getD j 0 ||| Y % 2 ^ 0))) := by
                have e : (rowj acc wk j).set j (acc.getD j 0 ||| Y % 2 ^ 0) = rowj acc wk j := by
                  rw [Nat.pow_zero, Nat.mod_one, Nat.or_zero, ← HG.out, List.getD_eq_getElem?_getD, List.getElem?_eq_getElem (by rw [HRL.out, HACC.out]; exact hjl)]
                  simp
                rw [e]; exact o4
              generalize hXe : acc.getD j 0 = X at *
              have hl : (rowj acc wk j).length = f.ws.length := by rw [HRL.out, HACC.out]
              have HL := Lib.hid hl
              have K2 := Lib.hid k2
              have K4 := Lib.hid k4
              have KO := Lib.hid o4'
              clear k2 k4 o4 o4' hYe hXe hl
              generalize rowj acc wk j = R at *
              go_wp2_with fail
              clear d0
              go_loopw [7] (fun i wi => ∃ (t : Nat), t ≤ 64 ∧ i = .int .u32 t ∧ Blk wi w.heap.size 26 #[.slice none 0 0, .int .i64 0] ∧
                Blk wi w2.heap.size 26 #[.slice (some ⟨g, 0, none⟩) f.ws.length c2, .int .i64 f.sh] ∧ wi.ownsRow w1.heap.size 53 1 (.slice (some ⟨g, 0, none⟩) f.ws.length c2) f.ws.length (u64s (R.set j (X ||| Y % 2 ^ t))) ∧ Ext w wi) (fun i _ => 64 - (intOf i).toNat)
              case atStart => exact ⟨0, Nat.zero_le _, rfl, K2.out, K4.out, KO.out, xx⟩
              case round =>
                clear K2 K4 KO xx
                obtain ⟨t, ht, rfl, k2, k4, o4, xx⟩ := hrel
                by_cases htl : t < 64
                · have e0 := xx.cell E0.out
                  have eK := xx.cell HCK.out
                  have d0 : wr.cell? ⟨w2.heap.size, 0, none⟩ = some (.slice (some ⟨g, 0, none⟩) f.ws.length c2) := k4.cell 0 rfl
                  have hdx := o4.cellAt j (by omega)
                  rw [u64s_get _ _ (by rw [List.length_set, HL.out]; exact hjl), List.getD_eq_getElem?_getD, List.getElem?_set_self (by rw [HL.out]; exact hjl), Option.getD_some] at hdx
                  have fx := o4.frozenAt j
                  have hMB := Lib.hid (mod_succ_bit Y t)
                  have hZ : X ||| Y % 2 ^ t < 18446744073709551616 := Nat.or_lt_two_pow (n := 64) HX.out (Nat.lt_of_le_of_lt (Nat.mod_le _ _) HY.out)
                  have HH := Lib.hid (refHas_any Y t)
                  have JO := Lib.hid o4
                  have J2 := Lib.hid k2
                  have J4 := Lib.hid k4
                  have HC := Lib.hid (refWith_any (X ||| Y % 2 ^ t) t)
                  have HN : Hid (X ||| Y % 2 ^ (t + 1) = (X ||| Y % 2 ^ t) ||| (if hasB Y t = true then 2 ^ t else 0)) := by
                    show _ = _
                    rw [hMB.out, Nat.or_assoc]
                  have htu : (t : Int) < 64 := by omega
                  clear o4 k2 k4 hMB
                  generalize X ||| Y % 2 ^ t = Z at *
                  go_wp2_with fail
                  refine (HH.out _ HY.out htl).mono ?_
                  rintro e w5 ⟨rfl, rfl⟩
                  cases hb : hasB Y t
                  · rw [hb, if_neg (by simp), Nat.or_zero] at HN
                    clear hb
                    go_wp2
                    go_roundw
                    case rel => exact ⟨t + 1, by omega, by go_num, J2.out, J4.out, by rw [HN.out]; exact JO.out, xx⟩
                    case measure => simp [intOf]; omega
                  · rw [hb, if_pos rfl] at HN
                    clear hb
                    go_wp2_with fail
                    refine wp_region_still_tail 11 (by kernel_rfl) (by kernel_rfl) ?_
                    simp only [List.take_succ_cons, List.take_zero, List.drop_succ_cons, List.drop_zero]
                    repeat still_step
                    still_call ((HC.out _ hZ htl).mono fun e w' h => ⟨h.1, h.2.symm⟩)
                    repeat still_step
                    refine wpStill_nil ?_
                    generalize Z ||| 2 ^ t = Z1 at *
                    go_wp2
                    go_roundw
                    case rel =>
                      refine ⟨t + 1, by omega, by go_num, (J2.out.far (p := ⟨g, j, none⟩) n2 _).drew, (J4.out.far (p := ⟨g, j, none⟩) n4 _).drew, ?_, (xx.set (by omega) _).trans (Ext.drew _)⟩
                      rw [HN.out]
                      have := (JO.out.stored j (.int .u64 Z1)).1.drew
                      rw [u64s_set, List.set_set] at this
                      exact this
                    case measure => simp [intOf]; omega
                · have HE : Hid (t = 64) := Lib.hid (by omega)
                  have JO := Lib.hid o4
                  have J2 := Lib.hid k2
                  have J4 := Lib.hid k4
                  have htu : ¬ ((t : Int) < 64) := by omega
                  clear o4 k2 k4
                  go_wp2
                  go_roundw
                  case rel =>
                    refine ⟨j + 1, by omega, by go_num, J2.out, J4.out, ?_, xx⟩
                    rw [HS.out]
                    have := JO.out
                    rw [HE.out, Nat.mod_eq_of_lt HY.out] at this
                    exact this
                  case measure => simp [intOf]; omega
            · have HE : Hid (j = f.ws.length) := Lib.hid (by omega)
              have JO := Lib.hid o4
              have J2 := Lib.hid k2
              have J4 := Lib.hid k4
              clear hlw o4 k2 k4
              go_wp2
              go_roundw
              case rel =>
                refine ⟨k + 1, orAll acc wk, by omega, by go_num, ?_, ?_, ?_, J2.out, J4.out, ?_, xx⟩
                · rw [orAll_length HLW.out, HACC.out]
                · exact orAll_lt H64.out HFk.out.1
                · rw [HUN.out, HD.out]
                  conv => lhs; unfold unionR
                  rw [if_pos ⟨HLW.out, rfl⟩]
                  rfl
                · have := JO.out
                  rw [HE.out, ← HACC.out, rowj_all HLW.out] at this
                  rw [← HACC.out]
                  exact this
              case measure => simp [intOf]; omega
        · have e3 : (sk != f.sh) = true := by rw [bne_iff_ne]; exact hcs
          have HU : Hid (unionR f.sh f.ws (fs.map Fl.pair) = none) := by
            show _ = _
            rw [HUN.out, HD.out]
            unfold unionR
            rw [if_neg]
            exact fun h => hcs h.2
          clear hcs k2 k4 o4
          go_wp2_with fail
          go_quiet (fail)
          go_wp2
          exact bodyPost_ret (v := .tuple #[.agg #[.slice none 0 0, .int .i64 0], .bool false]) (by simp [results, Try.results28, go_sem, r0, r1]) rfl
              (.inl ⟨by rw [HU.out]; rfl, rfl, (((xw.trans (Ext.drewN _ _)).set (Nat.le_refl _) _).set (Nat.le_refl _) _)⟩)
      · have e2 : ((wk.length : Int) != (f.ws.length : Int)) = true := by rw [bne_iff_ne]; omega
        have HU : Hid (unionR f.sh f.ws (fs.map Fl.pair) = none) := by
            show _ = _
            rw [HUN.out, HD.out]
            unfold unionR
            rw [if_neg]
            exact fun h => hcl (h.1.trans HACC.out)
        clear hcl k2 k4 o4
        go_wp2_with fail
        go_quiet (fail)
        go_wp2
        exact bodyPost_ret (v := .tuple #[.agg #[.slice none 0 0, .int .i64 0], .bool false]) (by simp [results, Try.results28, go_sem, r0, r1]) rfl
              (.inl ⟨by rw [HU.out]; rfl, rfl, (((xw.trans (Ext.drewN _ _)).set (Nat.le_refl _) _).set (Nat.le_refl _) _)⟩)
    · have r0 : wr.cell? ⟨w.heap.size, 0, none⟩ = some (.slice none 0 0) := k2.cell 0 rfl
      have r1 : wr.cell? ⟨w.heap.size, 1, none⟩ = some (.int .i64 0) := k2.cell 1 rfl
      have g0 := k2.frozen 0
      have g1 := k2.frozen 1
      have d0 : wr.cell? ⟨w2.heap.size, 0, none⟩ = some (.slice (some ⟨g, 0, none⟩) f.ws.length c2) := k4.cell 0 rfl
      have d1 : wr.cell? ⟨w2.heap.size, 1, none⟩ = some (.int .i64 f.sh) := k4.cell 1 rfl
      have KR := Lib.hid k2
      have KO := Lib.hid o4
      clear k2 k4 o4
      go_wp2
      have hU : unionR f.sh f.ws (fs.map Fl.pair) = some acc := by
        rw [HUN.out, List.drop_of_length_le (by omega)]; rfl
      exact bodyPost_ret (v := .tuple #[.agg #[.slice (some ⟨g, 0, none⟩) f.ws.length c2, .int .i64 f.sh], .bool true]) (by simp [results, Try.results28, go_sem, r0, r1]) rfl
        (.inr ⟨acc, f.sh, _, c2, by rw [hU]; rfl, by rw [HACC.out], by rw [HACC.out]; exact own_farB (own_farB (own_mono KO.out (by omega)) KR.out (by decide) _) (KR.out.set 0 _) (by decide) _, (xw.set (Nat.le_refl _) _).set (Nat.le_refl _) _⟩)

end Go.Proofs.Ytmjkkmmgbndcoaa
