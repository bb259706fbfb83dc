/- sieve.Union: what it returns. -/
import Derived.Test.YtmjkkmmgbndcoaaFilters
import Derived.Test.YtmjkkmmgbndcoaaApp
import Derived.Test.YtmjkkmmgbndcoaaSieve5
import Derived.Test.YtmjkkmmgbndcoaaSieve7
import Derived.Test.YtmjkkmmgbndcoaaSieve8
import Derived.Test.YtmjkkmmgbndcoaaSieveU
import Derived.Deep.RegionHeld3
import Derived.Deep.DeepCutAuto
namespace Go.Proofs.Ytmjkkmmgbndcoaa
open Go.RowKit Pl
set_option linter.unusedVariables false

/-- an append in a region that draws its order -/
theorem step_app_rd {P : Program} {w : World} {ops : Array Oper} {o : Oper} {a : Act} {K : Act → World → Prop} {Q : Exit → Act → World → Prop} {E : Prop} (hgd : o.guard = none) (s x : Operand) (t : TypeId)
    (ho : o.op = .call { callee := .builtin .append, args := #[s, x], argTypes := #[t, t] })
    (base : Nat) (e : TypeId) (i : TypeInfo) (z : Value) (bytes : Nat) (ht : P.underlying t = some (.slice e)) (hi : P.info? e = some i) (hz : i.zero = some z)
    (hsize : i.size = 1) (hby : i.bytes = bytes) (hzs : z.cells.size = 1)
    (v : Value) (n : Nat) (xs : List Value) (hs : a.eval s = v) (hown : w.ownsRow base e 1 v n xs)
    (A : Option Addr) (c : Nat) (news : List Value) (m : Nat) (hx : a.eval x = .slice A m c) (hm : news.length = m) (hr : Rd w A news) (h1 : ∀ u ∈ news, u.oneCell' = true)
    (h63 : n + m ≤ maxLen) (hbytes : (n + m) * bytes ≤ 140737488355328) (hbase : base ≤ w.heap.size)
    (h : ∀ v' w', w'.ownsRow base e 1 v' (n + m) (xs ++ news) → w.grownBy w' v.ownBlock → K (a.put o.dst v') w') :
    if Region.wanted o (yielded ops a.tmps) = true then Oper.wp P o a w K Q else E := by
  have hw : Region.wanted o (yielded ops a.tmps) = true := by simp [Region.wanted, hgd]
  rw [if_pos hw]
  exact wp_app_rd s x t ho base e i z bytes ht hi hz hsize hby hzs v n xs hs hown A c news m hx hm hr h1 h63 hbytes hbase h

theorem Ext.set {W0 w : World} (h : Ext W0 w) {g i : Nat} (hg : W0.heap.size ≤ g) (u : Value) : Ext W0 (w.setCell ⟨g, i, none⟩ u) := Below.setCell h.below hg u

theorem cell_far {w : World} {g i a o : Nat} {u v : Value} (hv : w.cell? ⟨a, o, none⟩ = some v) (h : a ≠ g) : (w.setCell ⟨g, i, none⟩ u).cell? ⟨a, o, none⟩ = some v := by
  rw [World.cell?_setCell_other w ⟨g, i, none⟩ ⟨a, o, none⟩ u (fun e => by injection e; omega)]
  exact hv

/-- what a region keeps: two cells, and all that was there -/
theorem two_next {W0 w w' : World} {a0 o0 a1 o1 : Nat} {v0 v1 : Value} (h : w.cell? ⟨a0, o0, none⟩ = some v0 ∧ w.cell? ⟨a1, o1, none⟩ = some v1 ∧ Hid (Ext W0 w)) (hb : Ext w w') :
    w'.cell? ⟨a0, o0, none⟩ = some v0 ∧ w'.cell? ⟨a1, o1, none⟩ = some v1 ∧ Hid (Ext W0 w') :=
  ⟨hb.cell h.1, hb.cell h.2.1, Lib.hid (h.2.2.out.trans hb)⟩

theorem two_set {W0 w : World} {a0 o0 a1 o1 g i : Nat} {v0 v1 u : Value} (h : w.cell? ⟨a0, o0, none⟩ = some v0 ∧ w.cell? ⟨a1, o1, none⟩ = some v1 ∧ Hid (Ext W0 w))
    (h0 : a0 < W0.heap.size) (h1 : a1 < W0.heap.size) (hg : W0.heap.size ≤ g) :
    (w.setCell ⟨g, i, none⟩ u).cell? ⟨a0, o0, none⟩ = some v0 ∧ (w.setCell ⟨g, i, none⟩ u).cell? ⟨a1, o1, none⟩ = some v1 ∧ Hid (Ext W0 (w.setCell ⟨g, i, none⟩ u)) :=
  ⟨cell_far h.1 (by omega), cell_far h.2.1 (by omega), Lib.hid (h.2.2.out.set hg u)⟩

theorem ext_swap {W0 w : World} {o0' o1' : Obj} (e : Ext W0 (w.alloc o0')) (hg : W0.heap.size ≤ w.heap.size) : Ext W0 (w.alloc o1') := by
  refine Ext.of ⟨e.below.os, e.below.tape, e.below.output, by simp; omega, fun i hi => ?_⟩
  rw [Below.heap_alloc _ _ _ (by omega), ← Below.heap_alloc w o0' i (by omega)]
  exact e.below.block i hi

theorem cell_swap {w : World} {o0' o1' : Obj} {a o : Nat} {v : Value} (hv : (w.alloc o0').cell? ⟨a, o, none⟩ = some v) (ha : a < w.heap.size) : (w.alloc o1').cell? ⟨a, o, none⟩ = some v := by
  rw [World.cell?_alloc_lt _ _ _ ha] at hv
  rw [World.cell?_alloc_lt _ _ _ ha]
  exact hv

theorem two_swap {W0 w : World} {o0' o1' : Obj} {a0 o0 a1 o1 : Nat} {v0 v1 : Value} (h : (w.alloc o0').cell? ⟨a0, o0, none⟩ = some v0 ∧ (w.alloc o0').cell? ⟨a1, o1, none⟩ = some v1 ∧ Hid (Ext W0 (w.alloc o0')))
    (h0 : a0 < w.heap.size) (h1 : a1 < w.heap.size) (hg : W0.heap.size ≤ w.heap.size) :
    (w.alloc o1').cell? ⟨a0, o0, none⟩ = some v0 ∧ (w.alloc o1').cell? ⟨a1, o1, none⟩ = some v1 ∧ Hid (Ext W0 (w.alloc o1')) :=
  ⟨cell_swap h.1 h0, cell_swap h.2.1 h1, Lib.hid (ext_swap h.2.2.out hg)⟩

/-- a union is returned, or the error -/
def RetU (W : World) (sh : Int) (r : Option (List Nat)) (e : Ending) (w' : World) : Prop :=
  (r = none ∧ e = .returned (.tuple #[.agg #[.slice none 0 0, .int .i64 0], .int .i64 20]) ∧ Ext W w') ∨ ∃ ws, r = some ws ∧ RetFilt W ws.length sh ws e w'

theorem drop_map {α β : Type} (g : α → β) (l : List α) (k : Nat) (a : α) (h : l[k]? = some a) : (l.drop k).map g = g a :: (l.drop (k + 1)).map g := by
  obtain ⟨hk, rfl⟩ := List.getElem?_eq_some_iff.1 h
  rw [List.drop_eq_getElem_cons hk, List.map_cons]

set_option maxHeartbeats 1600000 in
theorem union_walk (A : Option Addr) (cap : Nat) (f : Fl) (fs : List Fl) (w : World) (hA : RdF w A (f :: fs)) (hfit : ∀ g ∈ f :: fs, g.Fit) (hcap : (f :: fs).length ≤ cap) (hlen : (f :: fs).length * 32 ≤ 140737488351232)
    (hr : rightB f.ws.length f.sh = true) :
    Calls Try.prog 27 #[.slice A (fs.length + 1) cap] w (RetU w f.sh (unionR f.sh f.ws (fs.map Fl.pair))) := by
  have hbd := rightB_bd hr
  obtain ⟨b, off, rfl, h0, h1, hR⟩ := hA 0 f rfl
  simp only [Nat.zero_mul, Nat.add_zero] at h0 h1
  have HR := Lib.hid hr
  have HA := Lib.hid hA
  have HF := Lib.hid hR
  have hc1 : fs.length + 1 ≤ cap := hcap
  have hl32 : (fs.length + 1) * 32 ≤ 140737488351232 := hlen
  obtain ⟨i0, hi0, hz0, hz1, hz2⟩ := info_parts info_u64
  have HFT := Lib.hid hfit
  clear hr hA hR hfit hcap hlen
  go_enter Try.func27, Try.ntmps27
  have hblt := cell_lt h0
  have hne : ((fs.length : Int) + 1 == 0) = false := by rw [beq_eq_false_iff_ne]; omega
  go_wp2_with fail
  refine (right_yes _ _ _ _ _ HR.out).mono ?_
  rintro e w1 ⟨rfl, hb1⟩
  have x1 : Ext _ w1 := hb1
  have k2 := x1.blk (Blk.new w 26 #[.slice none 0 0, .int .i64 0])
  have xx := (Ext.alloc w (.cells #[.slice none 0 0, .int .i64 0] 26)).trans x1
  replace h0 := xx.cell h0
  replace h1 := xx.cell h1
  have hR1 := xx.rd HF.out
  have K2 := Lib.hid k2
  have HR1 := Lib.hid hR1
  have z1 := xx.size
  have hbl1 := cell_lt h0
  clear k2 hR1 x1 hb1
  go_wp2_with fail
  have q0 : w1.drew.cell? ⟨b, off, none⟩ = some (.slice f.A f.ws.length f.cap) := h0
  have q1 : w1.drew.cell? ⟨b, off + 1, none⟩ = some (.int .i64 f.sh) := h1
  have q3 : Hid (Ext w1 w1.drew) := Lib.hid (Ext.drew _)
  go_cut [4] (fun s4 wx => ∃ b4, s4 = .pointer (some ⟨b4, 0, none⟩) ∧ ∃ g c, Blk wx b4 26 #[.slice (some ⟨g, 0, none⟩) f.ws.length c, .int .i64 f.sh] ∧
    wx.ownsRow w1.heap.size 53 1 (.slice (some ⟨g, 0, none⟩) f.ws.length c) f.ws.length (u64s f.ws) ∧ w1.heap.size ≤ b4 ∧ Ext w1 wx)
  case first =>
    go_region_held3 (fun w' => w'.cell? ⟨b, off, none⟩ = some (.slice f.A f.ws.length f.cap) ∧ w'.cell? ⟨b, off + 1, none⟩ = some (.int .i64 f.sh) ∧ Hid (Ext w1 w')) (first | exact ⟨q0, q1, q3⟩ | exact two_next (by assumption) (by assumption) | exact two_next (by assumption) (Ext.alloc _ _) | exact two_swap (by assumption) (by omega) (by omega) (by omega) | exact two_set (two_set (by assumption) (by omega) (by omega) (by omega)) (by omega) (by omega) (by omega))
      (first | (refine step_app_rd rfl _ _ 24 rfl w1.heap.size 53 i0 (.int .u64 0) 8 Try.underlying24 hi0 hz0 hz1 hz2 rfl (.slice none 0 0) 0 [] rfl (World.ownsRow_nil _ _ _ _) f.A f.cap (u64s f.ws) f.ws.length rfl (u64s_length _) ?_ (u64s_one _) ?_ ?_ ?_ ?_; (exact Ext.rd (Hid.out (And.right (And.right (by assumption)))) HR1.out); (unfold maxLen; omega); omega; (exact Ext.size (Hid.out (And.right (And.right (by assumption))))); intro v5 w5 o5 g5; (obtain ⟨g5b, c5, rfl, hg5l, hg5u, _, _⟩ := own_at o5 (by omega)); (have x5 : Ext _ w5 := (Below.refl _ _).grown g5 (Nat.le_refl _) (by simp [Value.ownBlock])); (have z5 := Ext.size x5); (simp at z5); (have hc5 := bcell (Ext.below x5)); (have hf5 := bfroz (Ext.below x5))))
    · have x8 := Hid.out (And.right (And.right (by assumption)))
      go_wp2_with fail
      go_meet
      exact ⟨w5.heap.size, rfl, g5b, c5, Blk.new _ _ _, (Ext.alloc _ _).own (by simpa using o5), z5, x8⟩
    · have x8 := Hid.out (And.right (And.right (by assumption)))
      have k5 := x5.blk (Blk.new _ _ _)
      go_wp2_with fail
      go_meet
      exact ⟨w1.heap.size, rfl, g5b, c5, (k5.set 0 _).set 1 _, own_farB (own_farB (by simpa using o5) k5 (by decide) _) (k5.set 0 _) (by decide) _, Nat.le_refl _, x8⟩
  case rest =>
    obtain ⟨b4, rfl, g, c, k4, o4, hb4, x4⟩ := hcut
    have hT := HA.out.tail hc1
    simp only [Option.map_some, Addr.add_lit] at hT
    obtain ⟨T, hTe⟩ : ∃ T, (if cap = 1 then some (⟨b, off, none⟩ : Addr) else some ⟨b, off + 2, none⟩) = T := ⟨_, rfl⟩
    rw [hTe] at hT
    have HT := Lib.hid hT
    clear hT
    go_wp2_with fail
    clear hTe
    have k2 := x4.blk K2.out
    have xw := xx.trans x4
    have lo4 := own_lt o4
    have n4 := own_ne o4 k4 (by decide)
    have n2 := own_ne o4 k2 (by decide)
    have z4 : w.heap.size < w1.heap.size := K2.out.lt
    clear h0 h1 q0 q1 q3 K2 HR1 xx x4
    go_loopw [33] (fun i wr => ∃ (k : Nat) (acc : List Nat), k ≤ fs.length ∧ i = .int .i64 k ∧ acc.length = f.ws.length ∧ (∀ y ∈ acc, y < 18446744073709551616) ∧
        unionR f.sh f.ws (fs.map Fl.pair) = unionR f.sh acc ((fs.drop k).map Fl.pair) ∧ Blk wr w.heap.size 26 #[.slice none 0 0, .int .i64 0] ∧
        Blk wr b4 26 #[.slice (some ⟨g, 0, none⟩) f.ws.length c, .int .i64 f.sh] ∧ wr.ownsRow w1.heap.size 53 1 (.slice (some ⟨g, 0, none⟩) f.ws.length c) f.ws.length (u64s acc) ∧ Ext w wr) (fun i _ => fs.length - (intOf i).toNat)
    case atStart => exact ⟨0, f.ws, Nat.zero_le _, rfl, rfl, (HFT.out f (by simp)).1, rfl, k2, k4, o4, xw⟩
    case round =>
      clear k2 k4 o4 xw
      obtain ⟨k, acc, hk, rfl, hacc, hlt64, hun, k2, k4, o4, xw⟩ := hrel
      have HUN := Lib.hid hun
      have HACC := Lib.hid hacc
      have H64 := Lib.hid hlt64
      clear hun hacc hlt64
      by_cases hlt : k < fs.length
      · have hfk : fs[k]? = some (fs[k]) := List.getElem?_eq_getElem hlt
        have hfit := HFT.out fs[k] (List.mem_cons_of_mem _ (List.getElem_mem hlt))
        obtain ⟨bT, oT, rfl, e0, e1, hRk⟩ := HT.out k _ hfk
        have HD := Lib.hid (drop_map Fl.pair fs k _ hfk)
        generalize fs[k] = fk at *
        obtain ⟨Ak, ck, wk, sk⟩ := fk
        simp only at e0 e1 hRk
        have hTlt := cell_lt e0
        replace e0 := xw.cell e0
        replace e1 := xw.cell e1
        have HRk := Lib.hid hRk
        have HFk := Lib.hid hfit
        have d0 : wr.cell? ⟨b4, 0, none⟩ = some (.slice (some ⟨g, 0, none⟩) f.ws.length c) := k4.cell 0 rfl
        have d1 : wr.cell? ⟨b4, 1, none⟩ = some (.int .i64 f.sh) := k4.cell 1 rfl
        have r0 : wr.cell? ⟨w.heap.size, 0, none⟩ = some (.slice none 0 0) := k2.cell 0 rfl
        have r1 : wr.cell? ⟨w.heap.size, 1, none⟩ = some (.int .i64 0) := k2.cell 1 rfl
        have g0 := k2.frozen 0
        have g1 := k2.frozen 1
        have l4 := k4.lt
        have l2 := k2.lt
        have lT := cell_lt e0
        clear hfit hRk hfk
        by_cases hcond : wk.length = f.ws.length ∧ sk = f.sh
        · obtain ⟨hcl, rfl⟩ := hcond
          have e2 : ((wk.length : Int) != (f.ws.length : Int)) = false := by rw [hcl]; simp
          have e3 : (f.sh != f.sh) = false := by simp
          have HCL := Lib.hid hcl
          have KT := Lib.hid k4
          have KR := Lib.hid k2
          have KO := Lib.hid o4
          clear hcl k4 k2 o4
          go_wp2_with fail
          have k4 := KT.out.alloc (.cells #[.slice Ak wk.length ck, .int .i64 f.sh] 26)
          have k2 := KR.out.alloc (.cells #[.slice Ak wk.length ck, .int .i64 f.sh] 26)
          have o4 := KO.out.alloc (.cells #[.slice Ak wk.length ck, .int .i64 f.sh] 26)
          have xa := xw.trans (Ext.alloc wr (.cells #[.slice Ak wk.length ck, .int .i64 f.sh] 26))
          generalize wr.alloc (.cells #[.slice Ak wk.length ck, .int .i64 f.sh] 26) = wa at *
          clear e0 e1 d0 d1 r0 r1 g0 g1 KT KR KO l4 l2 lT
          have hn1 : 1 ≤ f.ws.length ∧ f.ws.length ≤ 64 := by omega
          go_loopw [55] (fun i wi => ∃ (j : Nat), j ≤ wk.length ∧ i = .int .i64 j ∧ Blk wi w.heap.size 26 #[.slice none 0 0, .int .i64 0] ∧
              Blk wi b4 26 #[.slice (some ⟨g, 0, none⟩) f.ws.length c, .int .i64 f.sh] ∧ wi.ownsRow w1.heap.size 53 1 (.slice (some ⟨g, 0, none⟩) f.ws.length c) f.ws.length (u64s (rowj acc wk j)) ∧ Ext w wi) (fun i _ => wk.length - (intOf i).toNat)
          case atStart => exact ⟨0, Nat.zero_le _, rfl, k2, k4, by rw [rowj_zero]; exact o4, xa⟩
          case round =>
            clear k2 k4 o4 xa
            obtain ⟨j, hj, rfl, k2, k4, o4, xa⟩ := hrel
            by_cases hjl : j < wk.length
            · obtain ⟨bK, oK, rfl, hbK, hcK⟩ := HRk.out.u64 hjl
              replace hcK := xa.cell hcK
              have d0 : wr.cell? ⟨b4, 0, none⟩ = some (.slice (some ⟨g, 0, none⟩) f.ws.length c) := k4.cell 0 rfl
              have hja : j < acc.length := by rw [HACC.out, ← HCL.out]; exact hjl
              have hlw : wk.length = acc.length := by rw [HACC.out]; exact HCL.out
              have hdx := o4.cellAt j (by have := HCL.out; omega)
              rw [u64s_get _ _ (by rw [rowj_length hlw (by omega)]; exact hja), rowj_get hlw hja] at hdx
              have fx := o4.frozenAt j
              have hX := H64.out _ (getD_mem (d := 0) hja)
              have hY := HFk.out.1 _ (getD_mem (d := 0) hjl)
              have hor := bits_or_u64_nat _ _ hX hY
              have HS := Lib.hid (rowj_succ hlw hja)
              have hjf : (j : Int) < (f.ws.length : Int) := by have := HCL.out; omega
              have hjk : (j : Int) < (wk.length : Int) := by omega
              have JO := Lib.hid o4
              have J2 := Lib.hid k2
              have J4 := Lib.hid k4
              clear hX hY hlw hja o4 k2 k4
              generalize acc.getD j 0 ||| wk.getD j 0 = Z at *
              generalize acc.getD j 0 = X at *
              generalize wk.getD j 0 = Y at *
              go_wp2
              go_roundw
              case rel =>
                refine ⟨j + 1, by omega, by go_num, J2.out.far (p := ⟨g, j, none⟩) n2 _, J4.out.far (p := ⟨g, j, none⟩) n4 _, ?_, xa.set (by omega) _⟩
                rw [HS.out, ← u64s_set]
                exact (JO.out.stored j _).1
              case measure => simp [intOf]; omega
            · have hlw : wk.length = acc.length := by rw [HACC.out]; exact HCL.out
              have hjk : ¬ ((j : Int) < (wk.length : Int)) := by omega
              have HE : Hid (j = wk.length) := Lib.hid (by omega)
              have JO := Lib.hid o4
              have J2 := Lib.hid k2
              have J4 := Lib.hid k4
              have HLW := Lib.hid hlw
              clear hlw o4 k2 k4
              go_wp2
              go_roundw
              case rel =>
                refine ⟨k + 1, orAll acc wk, by omega, by go_num, ?_, ?_, ?_, J2.out, J4.out, ?_, xa⟩
                · rw [orAll_length HLW.out, HACC.out]
                · exact orAll_lt H64.out HFk.out.1
                · rw [HUN.out, HD.out]
                  conv => lhs; unfold unionR
                  rw [if_pos ⟨HLW.out, rfl⟩]
                  rfl
                · have := JO.out
                  rw [HE.out, HLW.out, rowj_all HLW.out] at this
                  exact this
              case measure => simp [intOf]; omega
        · have HU : Hid (unionR f.sh f.ws (fs.map Fl.pair) = none) := by
            show _ = _
            rw [HUN.out, HD.out]
            unfold unionR
            rw [if_neg]
            rw [HACC.out]
            exact hcond
          have KR := Lib.hid k2
          by_cases hcl : wk.length = f.ws.length
          · have e2 : ((wk.length : Int) != (f.ws.length : Int)) = false := by rw [hcl]; simp
            have e3 : (sk != f.sh) = true := by rw [bne_iff_ne]; exact fun h => hcond ⟨hcl, h⟩
            clear hcl hcond k2 k4 o4
            have kz := ((KR.out.set 0 (.slice none 0 0)).set 1 (.int .i64 0)).alloc (.cells #[.slice Ak wk.length ck, .int .i64 sk] 26)
            have s0 := kz.cell 0 rfl
            have s1 := kz.cell 1 rfl
            have S0 := Lib.hid s0
            have S1 := Lib.hid s1
            clear kz s0 s1
            go_wp2
            exact bodyPost_ret (v := .tuple #[.agg #[.slice none 0 0, .int .i64 0], .int .i64 20]) (by simp [results, Try.results27, go_sem, S0.out, S1.out]) rfl
              (.inl ⟨HU.out, rfl, ((xw.set (Nat.le_refl _) _).set (Nat.le_refl _) _).trans (Ext.alloc _ _)⟩)
          · have e2 : ((wk.length : Int) != (f.ws.length : Int)) = true := by rw [bne_iff_ne]; omega
            clear hcl hcond k2 k4 o4
            have kz := ((KR.out.set 0 (.slice none 0 0)).set 1 (.int .i64 0)).alloc (.cells #[.slice Ak wk.length ck, .int .i64 sk] 26)
            have s0 := kz.cell 0 rfl
            have s1 := kz.cell 1 rfl
            have S0 := Lib.hid s0
            have S1 := Lib.hid s1
            clear kz s0 s1
            go_wp2
            exact bodyPost_ret (v := .tuple #[.agg #[.slice none 0 0, .int .i64 0], .int .i64 20]) (by simp [results, Try.results27, go_sem, S0.out, S1.out]) rfl
              (.inl ⟨HU.out, rfl, ((xw.set (Nat.le_refl _) _).set (Nat.le_refl _) _).trans (Ext.alloc _ _)⟩)
      · have r0 : wr.cell? ⟨w.heap.size, 0, none⟩ = some (.slice none 0 0) := k2.cell 0 rfl
        have r1 : wr.cell? ⟨w.heap.size, 1, none⟩ = some (.int .i64 0) := k2.cell 1 rfl
        have g0 := k2.frozen 0
        have g1 := k2.frozen 1
        have d0 : wr.cell? ⟨b4, 0, none⟩ = some (.slice (some ⟨g, 0, none⟩) f.ws.length c) := k4.cell 0 rfl
        have d1 : wr.cell? ⟨b4, 1, none⟩ = some (.int .i64 f.sh) := k4.cell 1 rfl
        have KR := Lib.hid k2
        have KO := Lib.hid o4
        clear k2 k4 o4
        go_wp2
        have hU : unionR f.sh f.ws (fs.map Fl.pair) = some acc := by
          rw [HUN.out, List.drop_of_length_le (by omega)]; rfl
        exact bodyPost_ret (v := .tuple #[.agg #[.slice (some ⟨g, 0, none⟩) f.ws.length c, .int .i64 f.sh], .int .i64 0]) (by simp [results, Try.results27, go_sem, r0, r1]) rfl
          (.inr ⟨acc, hU, g, c, by rw [HACC.out], by rw [HACC.out]; exact own_farB (own_farB (own_mono KO.out (by omega)) KR.out (by decide) _) (KR.out.set 0 _) (by decide) _, (xw.set (Nat.le_refl _) _).set (Nat.le_refl _) _⟩)

end Go.Proofs.Ytmjkkmmgbndcoaa
