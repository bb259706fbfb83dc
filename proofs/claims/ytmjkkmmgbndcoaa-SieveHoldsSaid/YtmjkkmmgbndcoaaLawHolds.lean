/- SieveHolds: what was put into a filter it does not lack, and putting it again changes nothing. No condition. -/
import Derived.Test.YtmjkkmmgbndcoaaOpen
import Derived.Test.YtmjkkmmgbndcoaaSieve5
import Derived.Test.YtmjkkmmgbndcoaaSieve7
import Derived.Test.YtmjkkmmgbndcoaaSieveQ
import Derived.Deep.RegionHeld3
import Derived.Deep.DeepCutAuto
namespace Go.Proofs.Ytmjkkmmgbndcoaa
open Go.ChangeShapes Go.WideShapes Go.ChangeAt Go.RowKit Pl
set_option linter.unusedVariables false

/-- what a region keeps: three cells, and all that was there -/
theorem three_next {W0 w w' : World} {a0 o0 a1 o1 a2 o2 : Nat} {v0 v1 v2 : Value} (h : w.cell? ⟨a0, o0, none⟩ = some v0 ∧ w.cell? ⟨a1, o1, none⟩ = some v1 ∧ w.cell? ⟨a2, o2, none⟩ = some v2 ∧ Hid (Ext W0 w)) (hb : Ext w w') :
    w'.cell? ⟨a0, o0, none⟩ = some v0 ∧ w'.cell? ⟨a1, o1, none⟩ = some v1 ∧ w'.cell? ⟨a2, o2, none⟩ = some v2 ∧ Hid (Ext W0 w') :=
  ⟨hb.cell h.1, hb.cell h.2.1, hb.cell h.2.2.1, Lib.hid (h.2.2.2.out.trans hb)⟩

theorem Ext.set {W0 w : World} (h : Ext W0 w) {g i : Nat} (hg : W0.heap.size ≤ g) (u : Value) : Ext W0 (w.setCell ⟨g, i, none⟩ u) := Below.setCell h.below hg u

theorem three_set {W0 w : World} {a0 o0 a1 o1 a2 o2 g i : Nat} {v0 v1 v2 u : Value} (h : w.cell? ⟨a0, o0, none⟩ = some v0 ∧ w.cell? ⟨a1, o1, none⟩ = some v1 ∧ w.cell? ⟨a2, o2, none⟩ = some v2 ∧ Hid (Ext W0 w))
    (h0 : a0 < W0.heap.size) (h1 : a1 < W0.heap.size) (h2 : a2 < W0.heap.size) (hg : W0.heap.size ≤ g) :
    (w.setCell ⟨g, i, none⟩ u).cell? ⟨a0, o0, none⟩ = some v0 ∧ (w.setCell ⟨g, i, none⟩ u).cell? ⟨a1, o1, none⟩ = some v1 ∧ (w.setCell ⟨g, i, none⟩ u).cell? ⟨a2, o2, none⟩ = some v2 ∧ Hid (Ext W0 (w.setCell ⟨g, i, none⟩ u)) := by
  have k : ∀ {a o : Nat} {v : Value}, w.cell? ⟨a, o, none⟩ = some v → a < W0.heap.size → (w.setCell ⟨g, i, none⟩ u).cell? ⟨a, o, none⟩ = some v := by
    intro a o v hv ha
    rw [World.cell?_setCell_other w ⟨g, i, none⟩ ⟨a, o, none⟩ u (fun e => by injection e; omega)]
    exact hv
  exact ⟨k h.1 h0, k h.2.1 h1, k h.2.2.1 h2, Lib.hid (h.2.2.2.out.set hg u)⟩

theorem three_swap {W0 w : World} {o0' o1' : Obj} {a0 o0 a1 o1 a2 o2 : Nat} {v0 v1 v2 : Value} (h : (w.alloc o0').cell? ⟨a0, o0, none⟩ = some v0 ∧ (w.alloc o0').cell? ⟨a1, o1, none⟩ = some v1 ∧ (w.alloc o0').cell? ⟨a2, o2, none⟩ = some v2 ∧ Hid (Ext W0 (w.alloc o0')))
    (h0 : a0 < w.heap.size) (h1 : a1 < w.heap.size) (h2 : a2 < w.heap.size) (hg : W0.heap.size ≤ w.heap.size) :
    (w.alloc o1').cell? ⟨a0, o0, none⟩ = some v0 ∧ (w.alloc o1').cell? ⟨a1, o1, none⟩ = some v1 ∧ (w.alloc o1').cell? ⟨a2, o2, none⟩ = some v2 ∧ Hid (Ext W0 (w.alloc o1')) := by
  have k : ∀ {a o : Nat} {v : Value}, (w.alloc o0').cell? ⟨a, o, none⟩ = some v → a < w.heap.size → (w.alloc o1').cell? ⟨a, o, none⟩ = some v := by
    intro a o v hv ha
    rw [World.cell?_alloc_lt _ _ _ ha] at hv
    rw [World.cell?_alloc_lt _ _ _ ha]
    exact hv
  have e : Ext W0 (w.alloc o0') := h.2.2.2.out
  refine ⟨k h.1 h0, k h.2.1 h1, k h.2.2.1 h2, Lib.hid (Ext.of ⟨e.below.os, e.below.tape, e.below.output, by simp; omega, fun i hi => ?_⟩)⟩
  rw [Below.heap_alloc _ _ _ (by omega), ← Below.heap_alloc w o0' i (by omega)]
  exact e.below.block i hi

theorem rd_one32 {w : World} {b : Nat} {x : Nat} (h : w.cell? ⟨b, 0, none⟩ = some (.int .u32 (x : Int))) : Rd w (some ⟨b, 0, none⟩) (u32s [x]) := by
  intro i hi
  have : i = 0 := by simp [u32s] at hi; omega
  subst this
  exact ⟨b, 0, rfl, h⟩

set_option maxHeartbeats 3200000 in
theorem holds_walk (p q : Nat) (hp : p < 256) (hq : q < 256) (H : Option Addr) (hcap : Nat) (hs : List Nat) (w : World)
    (hhs : ∀ x ∈ hs, x < 4294967296) (hlen : hs.length * 4 ≤ 140737488351232) (hH : Rd w H (u32s hs)) :
    Calls Try.prog 6 #[.int .u8 p, .int .u8 q, .slice H hs.length hcap] w fun e w' => e = .returned (.bool true) ∧ Below w.heap.size w w' := by
  have hm : hs.length ≤ maxLen := by unfold maxLen; omega
  have hM := Lib.hid hm
  have hp7 : p % 7 < 7 := Nat.mod_lt _ (by omega)
  have hr : rightB ((2 ^ (p % 7) : Nat) : Int) ((1 + q % 31 : Nat) : Int) = true := by
    have hw : ∀ m : Nat, m < 7 → wordsB ((2 ^ m : Nat) : Int) = true := by decide
    unfold rightB
    rw [hw _ hp7]
    simp; omega
  have hn64 : 2 ^ (p % 7) ≤ 64 := by
    have : ∀ m : Nat, m < 7 → 2 ^ m ≤ 64 := by decide
    exact this _ hp7
  have hn1 : 1 ≤ 2 ^ (p % 7) := Nat.one_le_two_pow
  have ht1 : ((p : Nat) : Int).tmod 7 = ((p % 7 : Nat) : Int) := by rw [Int.tmod_eq_emod_of_nonneg (by omega)]; rfl
  have ht2 : ((q : Nat) : Int).tmod 31 = ((q % 31 : Nat) : Int) := by rw [Int.tmod_eq_emod_of_nonneg (by omega)]; rfl
  have hw2 : IntKind.i64.wrap ((2 : Int) ^ (p % 7)) = ((2 ^ (p % 7) : Nat) : Int) := by
    rw [show ((2 : Int) ^ (p % 7)) = ((2 ^ (p % 7) : Nat) : Int) by simp, IntWalk.i64_in _ (by omega)]
  have hq31 : q % 31 < 31 := Nat.mod_lt _ (by omega)
  have HP := Lib.hid (putAll_length (1 + q % 31) hs (List.replicate (2 ^ (p % 7)) 0))
  have HM := Lib.hid (make_yes (2 ^ (p % 7)) (1 + q % 31) H hcap hs)
  have HR := Lib.hid hr
  have HH := Lib.hid hH
  have HHS := Lib.hid hhs
  clear hr hH hhs hm
  generalize p % 7 = p7 at *
  generalize q % 31 = q31 at *
  go_enter Try.func6, Try.ntmps6
  go_wp2_with fail
  refine (awake_any _).mono ?_
  rintro e w1 ⟨rfl, hb1⟩
  have x1 : Ext w w1 := hb1
  go_wp2_with fail
  rw [show ((2 : Int) ^ p7) = ((2 ^ p7 : Nat) : Int) by simp, show (1 + (q31 : Int)) = ((1 + q31 : Nat) : Int) by omega]
  generalize 2 ^ p7 = n at *
  generalize 1 + q31 = s at *
  refine (HM.out _ HHS.out hM.out (x1.rd HH.out) HR.out).mono ?_
  rintro e w2 ⟨gf, cf, rfl, of, hb2⟩
  have x2 : Ext w1 w2 := hb2
  rw [List.length_replicate] at HP
  have hbd := rightB_bd HR.out
  have HC : Hid (∀ h ∈ hs, Cov s (putAll s (List.replicate n 0) hs) h) := Lib.hid (fun h hm => Cov.mem hs (by rw [List.length_replicate]; omega) hm)
  have HL : Hid (∀ y ∈ putAll s (List.replicate n 0) hs, y < 18446744073709551616) := Lib.hid (putAll_lt s hs _ (fun x hx => by rw [List.eq_of_mem_replicate hx]; omega))
  generalize putAll s (List.replicate n 0) hs = F at *
  have kf := Blk.new w2 26 #[.slice (some ⟨gf, 0, none⟩) n cf, .int .i64 s]
  have xx := (x1.trans x2).trans (Ext.alloc w2 (.cells #[.slice (some ⟨gf, 0, none⟩) n cf, .int .i64 s] 26))
  have oF := (Ext.alloc w2 (.cells #[.slice (some ⟨gf, 0, none⟩) n cf, .int .i64 s] 26)).own of
  have z2 := (x1.trans x2).size
  clear ht1 ht2 hw2 hb2 x1 hb1 of x2
  go_wp2
  generalize w2.alloc (.cells #[.slice (some ⟨gf, 0, none⟩) n cf, .int .i64 s] 26) = w3 at *
  have RF := Lib.hid (Rd.of_own oF)
  clear oF HM
  go_loopw [10] (fun i wr => ∃ k : Nat, k ≤ hs.length ∧ i = .int .i64 k ∧ Ext w3 wr) (fun i _ => hs.length - (intOf i).toNat)
  case atStart => exact ⟨0, Nat.zero_le _, rfl, Ext.refl _⟩
  case round =>
    obtain ⟨k, hk, rfl, xr⟩ := hrel
    by_cases hlt : k < hs.length
    · obtain ⟨bH, oH, rfl, hbH, hcH⟩ := HH.out.u32 hlt
      have hh32 := HHS.out _ (getD_mem (d := 0) hlt)
      have hcov := HC.out _ (getD_mem (d := 0) hlt)
      generalize hs.getD k 0 = hh at *
      have cH := (xx.trans xr).cell hcH
      have kr := xr.blk kf
      have c0 : wr.cell? ⟨w2.heap.size, 0, none⟩ = some (.slice (some ⟨gf, 0, none⟩) n cf) := kr.cell 0 rfl
      have c1 : wr.cell? ⟨w2.heap.size, 1, none⟩ = some (.int .i64 s) := kr.cell 1 rfl
      have rr := xr.rd RF.out
      have L := Lib.hid (lacks_yes (some ⟨gf, 0, none⟩) cf s hh F)
      rw [hcov.lacks, HP.out] at L
      have AD := Lib.hid (add_yes (some ⟨gf, 0, none⟩) cf s F)
      rw [HP.out] at AD
      have HPS : Hid (putAll s F [hh] = F) := Lib.hid (by show put1 s F hh = F; exact hcov.put_same (by rw [HP.out]; omega))
      have RR := Lib.hid rr
      have KR := Lib.hid kr
      have z3 := xr.size
      clear hcH hcov rr kr kf
      have q0 : wr.drew.cell? ⟨w2.heap.size, 0, none⟩ = some (.slice (some ⟨gf, 0, none⟩) n cf) := c0
      have q1 : wr.drew.cell? ⟨w2.heap.size, 1, none⟩ = some (.int .i64 s) := c1
      have q2 : wr.drew.cell? ⟨bH, oH + k, none⟩ = some (.int .u32 hh) := cH
      have q3 : Hid (Ext wr wr.drew) := Lib.hid (Ext.drew _)
      have hi : (k : Int) < (hs.length : Int) := by omega
      go_wp2_with fail
      go_region_held3 (fun w' => w'.cell? ⟨w2.heap.size, 0, none⟩ = some (.slice (some ⟨gf, 0, none⟩) n cf) ∧ w'.cell? ⟨w2.heap.size, 1, none⟩ = some (.int .i64 s) ∧ w'.cell? ⟨bH, oH + k, none⟩ = some (.int .u32 hh) ∧ Hid (Ext wr w')) (first | exact ⟨q0, q1, q2, q3⟩ | exact three_next (by assumption) (by assumption))
        (first | (go_at_call 21; refine (L.out _ hh32 HL.out ?_ HR.out).mono ?_; (exact Ext.rd (Hid.out (And.right (And.right (And.right (by assumption))))) RR.out); rintro e w5 ⟨rfl, hb5⟩; (have x5 : Ext _ w5 := hb5)))
      have x5 : Ext wr w5 := Hid.out (And.right (And.right (And.right (by assumption))))
      have x6 := xr.trans x5
      have y0 : w5.cell? ⟨w2.heap.size, 0, none⟩ = some (.slice (some ⟨gf, 0, none⟩) n cf) := x5.cell c0
      have y1 : w5.cell? ⟨w2.heap.size, 1, none⟩ = some (.int .i64 s) := x5.cell c1
      have y2 : w5.cell? ⟨bH, oH + k, none⟩ = some (.int .u32 hh) := x5.cell cH
      have r5 := Lib.hid (x6.rd RF.out)
      have z5 := x5.size
      have lt0 := cell_lt y0
      have lt2 := cell_lt y2
      have k5 := x5.blk KR.out
      clear q0 q1 q2 q3 c0 c1 cH L KR RR hb5
      go_wp2_with fail
      have q0 : w5.drew.cell? ⟨w2.heap.size, 0, none⟩ = some (.slice (some ⟨gf, 0, none⟩) n cf) := y0
      have q1 : w5.drew.cell? ⟨w2.heap.size, 1, none⟩ = some (.int .i64 s) := y1
      have q2 : w5.drew.cell? ⟨bH, oH + k, none⟩ = some (.int .u32 hh) := y2
      have q3 : Hid (Ext w5 w5.drew) := Lib.hid (Ext.drew _)
      go_cut [11, 12] (fun s11 s12 wx => ∃ g11, s11 = .pointer (some ⟨g11, 0, none⟩) ∧ s12 = .int .i64 0 ∧ ∃ g c, wx.cell? ⟨g11, 0, none⟩ = some (.slice (some ⟨g, 0, none⟩) n c) ∧ wx.cell? ⟨g11, 1, none⟩ = some (.int .i64 s) ∧
        wx.ownsRow w5.heap.size 53 1 (.slice (some ⟨g, 0, none⟩) n c) n (u64s F) ∧ Ext w5 wx)
      case first =>
        go_region_held3 (fun w' => w'.cell? ⟨w2.heap.size, 0, none⟩ = some (.slice (some ⟨gf, 0, none⟩) n cf) ∧ w'.cell? ⟨w2.heap.size, 1, none⟩ = some (.int .i64 s) ∧ w'.cell? ⟨bH, oH + k, none⟩ = some (.int .u32 hh) ∧ Hid (Ext w5 w')) (first | exact ⟨q0, q1, q2, q3⟩ | exact three_next (by assumption) (by assumption) | exact three_next (by assumption) (Ext.alloc _ _) | exact three_swap (by assumption) (by omega) (by omega) (by omega) (by omega) | exact three_set (three_set (by assumption) (by omega) (by omega) (by omega) (by simp; omega)) (by omega) (by omega) (by omega) (by simp; omega) | exact three_set (three_set (by assumption) (by omega) (by omega) (by omega) (by omega)) (by omega) (by omega) (by omega) (by omega))
          (first | (go_at_call 18; refine (AD.out _ _ [hh] _ HL.out ?_ ?_ ?_ ?_ HR.out).mono ?_; (simp; omega); (simp [maxLen]); (exact Ext.rd (Hid.out (And.right (And.right (And.right (by assumption))))) r5.out); (exact rd_one32 (by simp)); rintro e w6 ⟨g, c, rfl, o6, hb6⟩; (have x7 : Ext _ w6 := hb6); (have z7 := Ext.size x7); (simp at z7); (have hc7 := bcell hb6); (have hf7 := bfroz hb6); (have lo := own_lt o6); (simp at lo)))
        all_goals
          have x8 := Hid.out (And.right (And.right (And.right (by assumption))))
          go_wp2_with fail
          go_meet
          refine ⟨_, rfl, rfl, g, c, ?_, ?_, ?_, x8⟩
          · first | exact cnew _ _ _ 0 rfl | (simp [go_sem, hc7]; done) | exact (World.cell?_setCell_other _ _ _ _ (by simp)).trans (World.cell?_setCell_same _ _ _ ((hc7 _ _ (by simp; omega)).trans (cold (cnew _ _ _ 0 rfl))))
          · first | exact cnew _ _ _ 1 rfl | (simp [go_sem, hc7]; done) | exact World.cell?_setCell_same _ _ _ ((World.cell?_setCell_other _ _ _ _ (by simp)).trans ((hc7 _ _ (by simp; omega)).trans (cold (cnew _ _ _ 1 rfl))))
          · rw [HPS.out] at o6
            first | exact Ext.own (Ext.alloc _ _) (own_mono o6 (by simp)) | exact own_far (own_far (own_mono o6 (by simp; omega)) (by simp; omega) _) (by simp; omega) _
      case rest =>
        obtain ⟨g11, rfl, rfl, g, c, k0, k1, o6, x7⟩ := hcut
        have u0 := x7.cell y0
        have u1 := x7.cell y1
        have hl : (k : Int) < (hs.length : Int) := by omega
        have HSm := Lib.hid (same_any (some ⟨gf, 0, none⟩) (some ⟨g, 0, none⟩) cf c F F s s wc (x7.rd r5.out) (Rd.of_own o6) (by rw [HP.out]; unfold maxLen; omega) (by rw [HP.out]; unfold maxLen; omega))
        rw [HP.out] at HSm
        have s1 : sameB (F, ((s : Nat) : Int)) (F, ((s : Nat) : Int)) = true := by unfold sameB; simp
        rw [s1] at HSm
        clear s1
        go_wp2_with fail
        refine HSm.out.mono ?_
        rintro e w8 ⟨rfl, hb8⟩
        have x8 : Ext wc w8 := hb8
        go_wp2
        go_roundw
        case rel => exact ⟨k + 1, by omega, by go_num, x6.trans (x7.trans x8)⟩
        case measure => simp [intOf]; omega
    · go_wp2
      go_ret
      exact ⟨rfl, xx.trans xr⟩

theorem walk_SieveHolds (v0 v1 v2 : Value) (x0 x1 : Nat) (x2 : List Nat) (w : World) (h0 : InU8 w v0 x0) (h1 : InU8 w v1 x1) (h2 : InU32s w v2 x2) :
    Calls Try.prog 6 #[v0, v1, v2] w fun e w' => e = .returned (.bool true) ∧ Below w.heap.size w w' := by
  obtain ⟨rfl, hx0⟩ := h0
  obtain ⟨rfl, hx1⟩ := h1
  obtain ⟨H, hcap, rfl, hR, hb, hm⟩ := h2
  exact holds_walk x0 x1 hx0 hx1 H hcap x2 w hb hm hR

set_option maxRecDepth 100000 in
theorem lifted_SieveHolds (os : Os) (started : os.Started) (H : Type) (enc : TypeId × Value → H) :
    ReturnsInHanded {} Try.checked os 6 .any (Rows.sieveHoldsSpec.pre6 enc Try.prog Try.f6 Rows.sieveHoldsRow.domain false) (Rows.sieveHoldsSpec.post enc Try.prog Try.f6 false true false false) := by
  refine returnsInHanded_of_change_sized (C := Try.checked) own started (by kernel_rfl) Try.func6
    (ChangeSpec.witness6 (enc := enc) (C := Try.checked) false ⟨#[], #[.int .u8 0, .int .u8 0, .slice none 0 0], []⟩ 8 (by kernel_rfl) (by kernel_rfl) (by kernel_rfl) (by kernel_rfl)) ?_
  intro W base args ds gs before hval0 hW hcnd hsz0 _
  have hsz : (DataW.weightsEach Try.prog (Try.f6.params.toList ++ Rows.sieveHoldsSpec.plain.varTypes Try.prog) (ds ++ gs)).all (· ≤ reachBytes) = true := hsz0
  clear hsz0
  have hval : ∀ (j : Nat) t v, Try.f6.params[j]? = some t → args[j]? = some v → Value.okWide Try.prog W .any base t v := hval0
  have hW' := hW
  obtain ⟨p, q, hA0, hV, rfl, hfz, hnd⟩ := hW
  have hA : DataW.TrodAll enc Try.prog W 0 (fun _ => true) true Try.f6.params.toList args.toList ds p := hA0
  rw [Try.params6] at hA hval hsz
  obtain ⟨v0, vs0, d0, ds0, p0, q0, hargs, rfl, rfl, h0, r0⟩ := trodAll_cons hA
  obtain ⟨v1, vs1, d1, ds1, p1, q1, rfl, rfl, rfl, h1, r1⟩ := trodAll_cons r0
  obtain ⟨v2, vs2, d2, ds2, p2, q2, rfl, rfl, rfl, h2, r2⟩ := trodAll_cons r1
  obtain ⟨rfl, rfl, rfl⟩ := trodAll_nil r2
  obtain rfl : args = #[v0, v1, v2] := by cases args; simp_all
  obtain ⟨rfl, rfl⟩ := trodVars_none hV
  have lt0 : ∀ x ∈ p0, x.block < W.heap.size := by obtain ⟨m, hm⟩ := h0; exact DataW.trod_lt m _ _ _ hm
  obtain ⟨x0, hx0⟩ := open_InU8 Try.underlying5 (hval 0 5 v0 rfl rfl) h0 (light_each (j := 0) hsz rfl rfl)
  have lt1 : ∀ x ∈ p1, x.block < W.heap.size := by obtain ⟨m, hm⟩ := h1; exact DataW.trod_lt m _ _ _ hm
  obtain ⟨x1, hx1⟩ := open_InU8 Try.underlying5 (hval 1 5 v1 rfl rfl) h1 (light_each (j := 1) hsz rfl rfl)
  have lt2 : ∀ x ∈ p2, x.block < W.heap.size := by obtain ⟨m, hm⟩ := h2; exact DataW.trod_lt m _ _ _ hm
  obtain ⟨x2, hx2⟩ := open_InU32s Try.underlying22 Try.underlying39 (by kernel_rfl) (by kernel_rfl) (hval 2 22 v2 rfl rfl) h2 (light_each (j := 2) hsz rfl rfl)
  clear hA0 hval0
  refine (walk_SieveHolds v0 v1 v2 x0 x1 x2 W hx0 hx1 hx2).mono fun e W' ⟨he, bel⟩ => ?_
  subst he
  exact ⟨_, rfl, _, _, _, [], _, [], hW', trodAll_mk1 (shut_bool Try.underlying4 _), (trodAll_cons_mk (Below.trod laidOut (by kernel_rfl) (of_decide_eq_true (by kernel_rfl)) h0 bel lt0) (trodAll_cons_mk (Below.trod laidOut (by kernel_rfl) (of_decide_eq_true (by kernel_rfl)) h1 bel lt1) (trodAll_cons_mk (Below.trod laidOut (by kernel_rfl) (of_decide_eq_true (by kernel_rfl)) h2 bel lt2) trodAll_mk0))), rfl, bel.frame _, fun h => by cases h⟩

theorem over_SieveHolds : Rows.sieveHoldsRow.holds Try.pinned (OpenSpec.ofChange Rows.sieveHoldsSpec) :=
  OpenClaim.holds_of_wide 6 Try.f6 rfl rfl rfl rfl rfl rfl rfl ⟨rfl, rfl, rfl, rfl, rfl⟩ rfl rfl rfl rfl rfl (by kernel_rfl) Try.func6 (by kernel_rfl)
    (of_decide_eq_true (by kernel_rfl)) (by unfold Func.isWrapper; first | (rw [if_pos (by decide +kernel)]; kernel_rfl) | (rw [if_neg (by decide +kernel)]; exact ⟨rfl, rfl⟩))
    (fun os started H enc _ => lifted_SieveHolds os started H enc)

/-- the statement -/
theorem holds_SieveHolds : Rows.SieveHoldsSaid := over_SieveHolds
#print axioms holds_SieveHolds

end Go.Proofs.Ytmjkkmmgbndcoaa
