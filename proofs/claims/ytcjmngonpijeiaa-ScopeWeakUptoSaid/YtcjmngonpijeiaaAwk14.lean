/- clevislaw14.awake: the walk. -/
import Derived.Test.YtcjmngonpijeiaaAw14
import Derived.Test.YtcjmngonpijeiaaOps14
import Derived.Test.YtcjmngonpijeiaaLook
import Derived.Test.YtcjmngonpijeiaaBind
namespace Go.Proofs.Ytcjmngonpijeiaa
set_option maxRecDepth 100000
open Go Go.RowKit Pl
set_option linter.unusedVariables false

/-- a variable that holds an image of the example -/
def VI (s : Sym) (v : Value) (u : World) : Prop := ∃ b A c t, v = .pointer (some ⟨b, 0, none⟩) ∧ Blk u b 60 (imOf A c [s] t).vals.toArray ∧ ImK u (imOf A c [s] t)

theorem exF_fit : ∀ s ∈ [exF], s.Fit := by
  intro s hs
  rw [List.mem_singleton.1 hs]
  exact ⟨by decide, by decide, by unfold i64B exF symD; decide, by unfold i64B exF symD; decide, by unfold i64B exF symD; decide, by unfold i64B exF symD; decide⟩
theorem exG_fit : ∀ s ∈ [exG], s.Fit := by
  intro s hs
  rw [List.mem_singleton.1 hs]
  exact ⟨by decide, by decide, by unfold i64B exG; decide, by unfold i64B exG; decide, by unfold i64B exG; decide, by unfold i64B exG; decide⟩
theorem rdy1 {w : World} {g : Nat} {s : Sym} (h : Blk w g 25 (Sym.vals s).toArray) : RdY w (some ⟨g, 0, none⟩) [s] := by
  intro i d hd
  match i, hd with
  | 0, hd =>
    simp only [List.getElem?_cons_zero, Option.some.injEq] at hd
    subst hd
    refine ⟨g, 0, Sym.vals s, rfl, rfl, rfl, fun j hj => ?_⟩
    have e0 : 0 + 0 * 9 + j = j := by omega
    rw [e0]
    have := cell_of_row w g j _ _ (0, 0) h
    rw [this]
    simp
  | i + 1, hd => simp at hd

theorem wp_region_stabL {P : Program} {id : Nat} {Q : Exit → Act → World → Prop} {a : Act} {w : World} {l : List Oper} (n : Nat) (J : Act → World → (Nat → Bool) → Act → World → Prop)
    (hm : P.follows .mixedOrders = true) (hB : stabB l.toArray n = true) (hg : (l.all fun o => o.guard.isNone) = true)
    (h0 : J a w (fun _ => false) a { w with drawn := w.drawn + 1 })
    (hstep : ∀ (i : Nat) (o : Oper) (done : Nat → Bool) (a' : Act) (u : World), i < n → l[i]? = some o → J a w done a' u → (∀ e ∈ o.after, Region.binds .any e = true → done e.on = true) →
      Oper.wp P o a' u (fun a' u' => J a w (fun j => if j = i then true else done j) a' u') Q)
    (hend : ∀ (done : Nat → Bool) (a' : Act) (u : World), J a w done a' u → (∀ i, i < n → done i = true) → wpList P l.toArray Q (l.drop n) a' u) :
    (Code.region id l.toArray true).wp P Q a w := by
  refine wp_region_stab n (J a w) hm hB h0 (fun i done a' u hi hJ _ hdep => ?_) hend
  have hn : n < l.toArray.size := by
    simp only [stabB, Bool.and_eq_true, decide_eq_true_eq] at hB
    exact hB.1.1.1.1
  have hil : i < l.length := by simp at hn; omega
  have ho : l[i]? = some l[i] := List.getElem?_eq_getElem hil
  have ho2 : l.toArray[i]? = some l[i] := by simp [ho]
  unfold wpOp
  rw [ho2]
  have hw : Region.wanted l[i] (yielded l.toArray a'.tmps) = true := by
    have := List.all_eq_true.1 hg _ (List.getElem_mem hil)
    simp only [Option.isNone_iff_eq_none] at this
    simp [Region.wanted, this]
  show if Region.wanted l[i] (yielded l.toArray a'.tmps) = true then _ else _
  rw [if_pos hw]
  exact .inl (hstep i _ done a' u hi ho hJ (hdep _ ho2))

theorem rdI2 {w : World} {g : Nat} {m1 m2 : Im} (h : Blk w g 60 (m1.vals ++ m2.vals).toArray) : RdI w (some ⟨g, 0, none⟩) [m1, m2] := by
  intro i d hd
  have key : ∀ j, w.cell? ⟨g, j, none⟩ = (m1.vals ++ m2.vals)[j]? := fun j => by
    have := cell_of_row w g j _ _ (0, 0) h
    rw [this]; simp
  have l1 : m1.vals.length = 15 := rfl
  match i, hd with
  | 0, hd =>
    simp only [List.getElem?_cons_zero, Option.some.injEq] at hd
    subst hd
    refine ⟨g, 0, m1.vals, rfl, rfl, rfl, fun j hj => ?_⟩
    rw [show 0 + 0 * 15 + j = j by omega, key, List.getElem?_append_left (by omega)]
  | 1, hd =>
    simp only [List.getElem?_cons_succ, List.getElem?_cons_zero, Option.some.injEq] at hd
    subst hd
    refine ⟨g, 0, m2.vals, rfl, rfl, rfl, fun j hj => ?_⟩
    rw [show 0 + 1 * 15 + j = 15 + j by omega, key, List.getElem?_append_right (by omega)]
    rw [l1, show 15 + j - 15 = j by omega]
  | i + 2, hd => simp at hd
theorem imsIn2 {w : World} {g : Nat} {m1 m2 : Im} (h : Blk w g 60 (m1.vals ++ m2.vals).toArray) (h1 : m1.In w) (h2 : m2.In w) : ImsIn w (some ⟨g, 0, none⟩) [m1, m2] :=
  ⟨rdI2 h, fun m hm => by
    simp only [List.mem_cons, List.not_mem_nil, or_false] at hm
    rcases hm with rfl | rfl
    · exact h1
    · exact h2, by simp⟩

theorem exF_seen : seenI [exF] = [0] := by decide
theorem exF_bks : bksI [exF] (cntN (seenI [exF]).length) (seenI [exF]) = [[0]] := by decide
theorem exF_facts (t : Tb) (h1 : t.bs.map Bk.is = bksI [exF] (cntN (seenI [exF]).length) (seenI [exF])) (h2 : t.ws = wordsI [exF] (seenI [exF])) (h3 : t.sh = 6) :
    t.bs.length = 1 ∧ findP t (symR ⟨#[102]⟩) [exF] = (0, 1) ∧ findP t (refS exF) [exF] = (0, 1) := by
  rw [exF_bks] at h1
  obtain ⟨BA, bc, bs, WA, wc, ws, sh⟩ := t
  simp only at h1 h2 h3
  subst h2 h3
  match bs, h1 with
  | [⟨A, c, is⟩], h1 =>
    simp only [List.map_cons, List.map_nil, List.cons.injEq, and_true] at h1
    subst h1
    exact ⟨rfl, by kernel_rfl, by kernel_rfl⟩
theorem exG_bks : (bksI [exG] (cntN (seenI [exG]).length) (seenI [exG])).length = 1 := by decide
theorem symR_fit : (symR ⟨#[102]⟩).Fit := ⟨by decide, by decide, by unfold i64B symR; decide, by unfold i64B symR; decide, by unfold i64B symR; decide, by unfold i64B symR; decide⟩

/-- what the examples come to -/
theorem ex14 (m1 m2 m3 : Im) (l1 : m1.l = [exF]) (l2 : m2.l = [exF]) (l3 : m3.l = [exG])
    (f1 : findP m1.t (symR ⟨#[102]⟩) [exF] = (0, 1)) (g1 : findP m1.t (refS exF) [exF] = (0, 1)) (f2 : findP m2.t (symR ⟨#[102]⟩) [exF] = (0, 1)) :
    lookF (symR ⟨#[102]⟩) (-1) [m1, m2] = (0, 0, true) ∧ lookN (symR ⟨#[102]⟩) (-1) [m1, m2] = [1, 0] ∧ lookF (symR ⟨#[102]⟩) 0 [m1, m2] = (1, 0, true) ∧
    bindP 1 0 false [m1, m2] = ((0, 0, true), 0) ∧ bindP 1 0 false [m1, m3] = ((1, 0, true), 0) := by
  have i0 : ∀ m, findI (symR ⟨#[102]⟩) [m1, m] 0 = (0, 1) := fun m => by
    show findP m1.t _ m1.l = _
    rw [l1]; exact f1
  have i1 : findI (symR ⟨#[102]⟩) [m1, m2] 1 = (0, 1) := by
    show findP m2.t _ m2.l = _
    rw [l2]; exact f2
  have j0 : findI (refS exF) [m1, m2] 0 = (0, 1) := by
    show findP m1.t _ m1.l = _
    rw [l1]; exact g1
  have h0 := look_hit (r := symR ⟨#[102]⟩) (skip := -1) (ims := [m1, m2]) (k := 0) (by simp) (fun j hj => absurd hj (by omega)) (by unfold hitB; rw [i0]; rfl)
  have h1 := look_hit (r := symR ⟨#[102]⟩) (skip := 0) (ims := [m1, m2]) (k := 1) (by simp) (fun j hj => by
    have : j = 0 := by omega
    subst this; rfl) (by unfold hitB; rw [i1]; rfl)
  have h2 := look_hit (r := refS exF) (skip := -1) (ims := [m1, m2]) (k := 0) (by simp) (fun j hj => absurd hj (by omega)) (by unfold hitB; rw [j0]; rfl)
  refine ⟨by rw [h0.1, i0]; rfl, ?_, by rw [h1.1, i1]; rfl, ?_, ?_⟩
  · rw [h0.2]
    unfold cntK
    show [cnt1 _ _ _ _ 0, cnt1 _ _ _ _ 1] = _
    unfold cnt1
    rw [i0]
    rfl
  · unfold bindP
    rw [if_neg (by show ¬ ((1 : Int) < 0 ∨ (2 : Int) ≤ 1 ∨ (0 : Int) < 0 ∨ ((m2.l.length : Nat) : Int) ≤ 0); rw [l2]; simp)]
    show bindS (m2.l.getD 0 sym0) 1 0 false [m1, m2] = _
    rw [l2]
    show bindS exF 1 0 false [m1, m2] = _
    unfold bindS
    rw [show ownB exF = false from rfl]
    simp only [Bool.false_and, Bool.false_eq_true, if_false]
    rw [h2.1, j0]
    rfl
  · unfold bindP
    rw [if_neg (by show ¬ ((1 : Int) < 0 ∨ (2 : Int) ≤ 1 ∨ (0 : Int) < 0 ∨ ((m3.l.length : Nat) : Int) ≤ 0); rw [l3]; simp)]
    show bindS (m3.l.getD 0 sym0) 1 0 false [m1, m3] = _
    rw [l3]
    show bindS exG 1 0 false [m1, m3] = _
    unfold bindS
    rw [show ownB exG = true from rfl]
    rfl

set_option maxRecDepth 100000 in
set_option maxHeartbeats 6400000 in
theorem awake14_any (w : World) : Calls Try.prog 12 #[] w fun e w' => e = .returned (.bool true) ∧ Ext w w' := by
  go_enter Try.func12, Try.ntmps12
  go_wp2_with fail
  have hbx := box2 w #[.string ⟨#[102]⟩, .string ⟨#[]⟩, .bool false, .int .i64 1, .bool false, .int .i64 0, .bool true, .int .i64 0, .int .i64 0] #[.string ⟨#[102]⟩, .string ⟨#[]⟩, .bool false, .int .i64 1, .bool false, .int .i64 1, .bool true, .int .i64 0, .int .i64 0] 25 25
  obtain ⟨hb1, hb2, hxb⟩ := hbx
  generalize (w.alloc (.cells #[.string ⟨#[102]⟩, .string ⟨#[]⟩, .bool false, .int .i64 1, .bool false, .int .i64 0, .bool true, .int .i64 0, .int .i64 0] 25)).alloc (.cells #[.string ⟨#[102]⟩, .string ⟨#[]⟩, .bool false, .int .i64 1, .bool false, .int .i64 1, .bool true, .int .i64 0, .int .i64 0] 25) = w1 at *
  have HX1 := Lib.hid hxb
  have HB1 := Lib.hid hb1
  have HB2 := Lib.hid hb2
  clear hb1 hb2 hxb
  generalize w.heap.size + 1 = g2 at *
  generalize w.heap.size = g1 at *
  go_cut [3, 4, 5] (fun s3 s4 s5 wx => Ext w1 wx ∧ VI exF s3 wx ∧ VI exF s4 wx ∧ VI exG s5 wx)
  case first =>
    refine wp_region_stabL 12 JJ (by kernel_rfl) (by kernel_rfl) (by kernel_rfl) ?_ ?_ ?_
    · exact ⟨fun _ => undef, ⟨by kernel_rfl, Ext.drew w1, fun i h => absurd h (by simp), fun i j _ _ _ _ _ h => absurd h (by simp)⟩⟩
    · intro i o done a u hi ho hJ hdep
      obtain ⟨V, hV⟩ := hJ
      have HV := Lib.hid hV
      clear hV
      have s1 : a.tmps[1]?.getD undef = .pointer (some ⟨g1, 0, none⟩) := by rw [HV.out.act]; kernel_rfl
      have s2 : a.tmps[2]?.getD undef = .pointer (some ⟨g2, 0, none⟩) := by rw [HV.out.act]; kernel_rfl
      have e0 : a.tmps[17]?.getD undef = V 0 := by rw [HV.out.act]; kernel_rfl
      have e1 : a.tmps[18]?.getD undef = V 1 := by rw [HV.out.act]; kernel_rfl
      have e2 : a.tmps[19]?.getD undef = V 2 := by rw [HV.out.act]; kernel_rfl
      have e3 : a.tmps[20]?.getD undef = V 3 := by rw [HV.out.act]; kernel_rfl
      have e4 : a.tmps[21]?.getD undef = V 4 := by rw [HV.out.act]; kernel_rfl
      have e5 : a.tmps[22]?.getD undef = V 5 := by rw [HV.out.act]; kernel_rfl
      have e6 : a.tmps[23]?.getD undef = V 6 := by rw [HV.out.act]; kernel_rfl
      have e7 : a.tmps[24]?.getD undef = V 7 := by rw [HV.out.act]; kernel_rfl
      have e8 : a.tmps[25]?.getD undef = V 8 := by rw [HV.out.act]; kernel_rfl
      rcases (by omega : i = 0 ∨ i = 1 ∨ i = 2 ∨ i = 3 ∨ i = 4 ∨ i = 5 ∨ i = 6 ∨ i = 7 ∨ i = 8 ∨ i = 9 ∨ i = 10 ∨ i = 11) with rfl | rfl | rfl | rfl | rfl | rfl | rfl | rfl | rfl | rfl | rfl | rfl
      · injection ho with ho
        subst ho
        refine op_load s1 (HV.out.x.blk HB1.out) ?_
        exact HV.out.step (i := 0) (by rw [HV.out.act]; kernel_rfl) (Ext.refl _) rfl (fun h => by omega)
      · injection ho with ho
        subst ho
        have hv : V 0 = .agg (Sym.vals exF).toArray := HV.out.r 0 (hdep ⟨0, .data⟩ (by simp) rfl)
        refine op_build (e0.trans hv) ?_
        exact HV.out.step (i := 1) (by rw [HV.out.act]; kernel_rfl) (Ext.alloc _ _) ⟨_, rfl, Blk.new _ _ _⟩ (fun h => by omega)
      · injection ho with ho
        subst ho
        obtain ⟨g, hv, hg⟩ : PS exF (V 1) u := HV.out.r 1 (hdep ⟨1, .data⟩ (by simp) rfl)
        refine op_made (e1.trans hv) (made_any _ _ [exF] u (rdy1 hg) exF_fit (by simp)) ?_
        rintro e w' ⟨t, rfl, a1, a2, a3, a4, a5, a6⟩
        refine ⟨_, rfl, ?_⟩
        exact HV.out.step (i := 2) (by rw [HV.out.act]; kernel_rfl) a2 ⟨some ⟨g, 0, none⟩, 1, t, rfl, ⟨⟨(rdy1 hg).ext a2, exF_fit, by simp [imOf], by simp [imOf], by simp [imOf, maxLen], a1⟩, a3, a4, a5, a6, g, _, rfl, a2.blk hg⟩⟩ (fun h => by omega)
      · injection ho with ho
        subst ho
        refine op_load s1 (HV.out.x.blk HB1.out) ?_
        exact HV.out.step (i := 3) (by rw [HV.out.act]; kernel_rfl) (Ext.refl _) rfl (fun h => by omega)
      · injection ho with ho
        subst ho
        have hv : V 3 = .agg (Sym.vals exF).toArray := HV.out.r 3 (hdep ⟨3, .data⟩ (by simp) rfl)
        refine op_build (e3.trans hv) ?_
        exact HV.out.step (i := 4) (by rw [HV.out.act]; kernel_rfl) (Ext.alloc _ _) ⟨_, rfl, Blk.new _ _ _⟩ (fun h => by omega)
      · injection ho with ho
        subst ho
        obtain ⟨g, hv, hg⟩ : PS exF (V 4) u := HV.out.r 4 (hdep ⟨4, .data⟩ (by simp) rfl)
        refine op_made (e4.trans hv) (made_any _ _ [exF] u (rdy1 hg) exF_fit (by simp)) ?_
        rintro e w' ⟨t, rfl, a1, a2, a3, a4, a5, a6⟩
        refine ⟨_, rfl, ?_⟩
        exact HV.out.step (i := 5) (by rw [HV.out.act]; kernel_rfl) a2 ⟨some ⟨g, 0, none⟩, 1, t, rfl, ⟨⟨(rdy1 hg).ext a2, exF_fit, by simp [imOf], by simp [imOf], by simp [imOf, maxLen], a1⟩, a3, a4, a5, a6, g, _, rfl, a2.blk hg⟩⟩ (fun h => by omega)
      · injection ho with ho
        subst ho
        refine op_load s2 (HV.out.x.blk HB2.out) ?_
        exact HV.out.step (i := 6) (by rw [HV.out.act]; kernel_rfl) (Ext.refl _) rfl (fun h => by omega)
      · injection ho with ho
        subst ho
        have hv : V 6 = .agg (Sym.vals exG).toArray := HV.out.r 6 (hdep ⟨6, .data⟩ (by simp) rfl)
        refine op_build (e6.trans hv) ?_
        exact HV.out.step (i := 7) (by rw [HV.out.act]; kernel_rfl) (Ext.alloc _ _) ⟨_, rfl, Blk.new _ _ _⟩ (fun h => by omega)
      · injection ho with ho
        subst ho
        obtain ⟨g, hv, hg⟩ : PS exG (V 7) u := HV.out.r 7 (hdep ⟨7, .data⟩ (by simp) rfl)
        refine op_made (e7.trans hv) (made_any _ _ [exG] u (rdy1 hg) exG_fit (by simp)) ?_
        rintro e w' ⟨t, rfl, a1, a2, a3, a4, a5, a6⟩
        refine ⟨_, rfl, ?_⟩
        exact HV.out.step (i := 8) (by rw [HV.out.act]; kernel_rfl) a2 ⟨some ⟨g, 0, none⟩, 1, t, rfl, ⟨⟨(rdy1 hg).ext a2, exG_fit, by simp [imOf], by simp [imOf], by simp [imOf, maxLen], a1⟩, a3, a4, a5, a6, g, _, rfl, a2.blk hg⟩⟩ (fun h => by omega)
      · injection ho with ho
        subst ho
        refine op_alloc ?_
        exact HV.out.step (i := 9) (by rw [HV.out.act]; kernel_rfl) (Ext.alloc _ _) ⟨_, rfl, Blk.new _ _ _, HV.out.x.size⟩ (fun _ _ j h1 h2 h3 h4 => HV.out.fresh h1 h2 h4)
      · injection ho with ho
        subst ho
        refine op_alloc ?_
        exact HV.out.step (i := 10) (by rw [HV.out.act]; kernel_rfl) (Ext.alloc _ _) ⟨_, rfl, Blk.new _ _ _, HV.out.x.size⟩ (fun _ _ j h1 h2 h3 h4 => HV.out.fresh h1 h2 h4)
      · injection ho with ho
        subst ho
        refine op_alloc ?_
        exact HV.out.step (i := 11) (by rw [HV.out.act]; kernel_rfl) (Ext.alloc _ _) ⟨_, rfl, Blk.new _ _ _, HV.out.x.size⟩ (fun _ _ j h1 h2 h3 h4 => HV.out.fresh h1 h2 h4)
    · intro done a u hJ hall
      obtain ⟨V, hV⟩ := hJ
      obtain ⟨A1, c1, t1, r1, i1⟩ : PI exF (V 2) u := hV.r 2 (hall 2 (by omega))
      obtain ⟨A2, c2, t2, r2, i2⟩ : PI exF (V 5) u := hV.r 5 (hall 5 (by omega))
      obtain ⟨A3, c3, t3, r3, i3⟩ : PI exG (V 8) u := hV.r 8 (hall 8 (by omega))
      obtain ⟨b1, q1, k1, l1⟩ : PV w1 (V 9) u := hV.r 9 (hall 9 (by omega))
      obtain ⟨b2, q2, k2, l2⟩ : PV w1 (V 10) u := hV.r 10 (hall 10 (by omega))
      obtain ⟨b3, q3, k3, l3⟩ : PV w1 (V 11) u := hV.r 11 (hall 11 (by omega))
      have n12 : b1 ≠ b2 := fun e => hV.d 9 10 (by omega) (by omega) (by omega) (by omega) (by omega) (hall 9 (by omega)) (hall 10 (by omega)) (by rw [q1, q2, e])
      have n13 : b1 ≠ b3 := fun e => hV.d 9 11 (by omega) (by omega) (by omega) (by omega) (by omega) (hall 9 (by omega)) (hall 11 (by omega)) (by rw [q1, q3, e])
      have n23 : b2 ≠ b3 := fun e => hV.d 10 11 (by omega) (by omega) (by omega) (by omega) (by omega) (hall 10 (by omega)) (hall 11 (by omega)) (by rw [q2, q3, e])
      have hx := hV.x
      have HV := Lib.hid hV
      clear hV
      have s3 : a.tmps[3]?.getD undef = V 9 := by rw [HV.out.act]; kernel_rfl
      have s4 : a.tmps[4]?.getD undef = V 10 := by rw [HV.out.act]; kernel_rfl
      have s5 : a.tmps[5]?.getD undef = V 11 := by rw [HV.out.act]; kernel_rfl
      have s19 : a.tmps[19]?.getD undef = V 2 := by rw [HV.out.act]; kernel_rfl
      have s22 : a.tmps[22]?.getD undef = V 5 := by rw [HV.out.act]; kernel_rfl
      have s25 : a.tmps[25]?.getD undef = V 8 := by rw [HV.out.act]; kernel_rfl
      simp only [List.drop_succ_cons, List.drop_zero]
      refine wpList_step (fun K1 hK1 => ?_)
      rw [if_pos (by simp [Region.wanted])]
      refine op_store (s3.trans q1) (s19.trans r1) k1 (fun u1 hk1 hc1 => hK1 _ _ ?_)
      refine wpList_step (fun K2 hK2 => ?_)
      rw [if_pos (by simp [Region.wanted])]
      refine op_store (a := a.put none undef) (s4.trans q2) (s22.trans r2) (hc1.blk k2 (fun e => n12 e.symm)) (fun u2 hk2 hc2 => hK2 _ _ ?_)
      refine wpList_step (fun K3 hK3 => ?_)
      rw [if_pos (by simp [Region.wanted])]
      refine op_store (a := (a.put none undef).put none undef) (s5.trans q3) (s25.trans r3) (hc2.blk (hc1.blk k3 (fun e => n13 e.symm)) (fun e => n23 e.symm)) (fun u3 hk3 hc3 => hK3 _ _ ?_)
      have hC : Chg (fun k => k = b1 ∨ k = b2 ∨ k = b3) u u3 := ((hc1.mono (fun k h => .inl h)).trans (hc2.mono (S' := fun k => k = b1 ∨ k = b2 ∨ k = b3) (fun k h => .inr (.inl h))) (fun i h => .inl h)).trans (hc3.mono (S' := fun k => k = b1 ∨ k = b2 ∨ k = b3) (fun k h => .inr (.inr h))) (fun i h => .inl h)
      have hS : ∀ b, (b = b1 ∨ b = b2 ∨ b = b3) → ∃ cs, Blk u b 60 cs := fun b h => by
        rcases h with rfl | rfl | rfl
        · exact ⟨_, k1⟩
        · exact ⟨_, k2⟩
        · exact ⟨_, k3⟩
      have hX : Ext w1 u3 := hC.ext hx (fun k h => by rcases h with rfl | rfl | rfl <;> assumption)
      have G1 : VI exF (V 9) u3 := ⟨b1, A1, c1, t1, q1, hc3.blk (hc2.blk hk1 n12) n13, i1.chg hC hS⟩
      have G2 : VI exF (V 10) u3 := ⟨b2, A2, c2, t2, q2, hc3.blk hk2 n23, i2.chg hC hS⟩
      have G3 : VI exG (V 11) u3 := ⟨b3, A3, c3, t3, q3, hk3, i3.chg hC hS⟩
      have ha := HV.out.act
      subst ha
      clear HV s3 s4 s5 s19 s22 s25 hS hC hc1 hc2 hc3 hk1 hk2 hk3 k1 k2 k3 i1 i2 i3 r1 r2 r3 q1 q2 q3 n12 n13 n23 hall
      refine wpList_nil ?_
      simp only [chain]
      go_simp
      go_wp2_with fail
      go_meet
      exact ⟨hX, G1, G2, G3⟩
  case rest =>
    obtain ⟨hx, ⟨ba, A1, c1, ⟨B1, bc1, bs1, W1, wc1, ws1, sh1⟩, rfl, ka, ia⟩, ⟨bb, A2, c2, ⟨B2, bc2, bs2, W2, wc2, ws2, sh2⟩, rfl, kb, ib⟩, ⟨bd, A3, c3, ⟨B3, bc3, bs3, W3, wc3, ws3, sh3⟩, rfl, kd, id⟩⟩ := hcut
    have fa := exF_facts ⟨B1, bc1, bs1, W1, wc1, ws1, sh1⟩ ia.bs ia.ws ia.sh
    have fb := exF_facts ⟨B2, bc2, bs2, W2, wc2, ws2, sh2⟩ ib.bs ib.ws ib.sh
    have HBD : Hid (bs1.length < 4294967296 ∧ bs2.length < 4294967296 ∧ bs3.length < 4294967296) := Lib.hid (by
      refine ⟨?_, ?_, ?_⟩
      · have := fa.1; simp only at this; omega
      · have := fb.1; simp only at this; omega
      · have := congrArg List.length id.bs
        simp only [List.length_map] at this
        have h2 := exG_bks
        simp only [imOf] at this
        rw [h2] at this
        omega)
    obtain ⟨x1, x2, x3, x4, x5⟩ := ex14 (imOf A1 c1 [exF] ⟨B1, bc1, bs1, W1, wc1, ws1, sh1⟩) (imOf A2 c2 [exF] ⟨B2, bc2, bs2, W2, wc2, ws2, sh2⟩) (imOf A3 c3 [exG] ⟨B3, bc3, bs3, W3, wc3, ws3, sh3⟩) rfl rfl rfl fa.2.1 fa.2.2 fb.2.1
    have HX0 := Lib.hid hx
    have KA := Lib.hid ka
    have KB := Lib.hid kb
    have KD := Lib.hid kd
    have IA := Lib.hid ia
    have IB := Lib.hid ib
    have ID := Lib.hid id
    have HHB : Hid (∀ m, m ∈ [(imOf A1 c1 [exF] ⟨B1, bc1, bs1, W1, wc1, ws1, sh1⟩), (imOf A2 c2 [exF] ⟨B2, bc2, bs2, W2, wc2, ws2, sh2⟩)] → m.t.bs.length < 4294967296) := Lib.hid (fun m hm => by
      simp only [List.mem_cons, List.not_mem_nil, or_false] at hm
      rcases hm with rfl | rfl
      · exact HBD.out.1
      · exact HBD.out.2.1)
    have HHD : Hid (∀ m, m ∈ [(imOf A1 c1 [exF] ⟨B1, bc1, bs1, W1, wc1, ws1, sh1⟩), (imOf A3 c3 [exG] ⟨B3, bc3, bs3, W3, wc3, ws3, sh3⟩)] → m.t.bs.length < 4294967296) := Lib.hid (fun m hm => by
      simp only [List.mem_cons, List.not_mem_nil, or_false] at hm
      rcases hm with rfl | rfl
      · exact HBD.out.1
      · exact HBD.out.2.2)
    have HLA : Hid (∀ w' g, Ext wc w' → Blk w' g 60 #[.string ⟨#[]⟩, .int .i64 0, .slice none 0 0, .slice none 0 0, .slice none 0 0, .slice A1 1 c1, .slice B1 bs1.length bc1, .slice W1 ws1.length wc1, .int .i64 sh1, .slice none 0 0, .slice none 0 0, .slice none 0 0, .slice none 0 0, .slice none 0 0, .int .i64 0, .string ⟨#[]⟩, .int .i64 0, .slice none 0 0, .slice none 0 0, .slice none 0 0, .slice A2 1 c2, .slice B2 bs2.length bc2, .slice W2 ws2.length wc2, .int .i64 sh2, .slice none 0 0, .slice none 0 0, .slice none 0 0, .slice none 0 0, .slice none 0 0, .int .i64 0] → Calls Try.prog 13 #[.agg #[.string ⟨#[102]⟩, .string ⟨#[]⟩, .bool false, .int .i64 0, .bool false, .int .i64 0, .bool false, .int .i64 0, .int .i64 0], .int .i64 (-1), .slice (some ⟨g, 0, none⟩) 2 2] w' fun e w2 => ∃ v, e = .returned (.tuple #[.agg #[.int .i64 0, .int .i64 0, .bool true], v]) ∧ w2.ownsRow w'.heap.size 3 1 v 2 [.int .i64 1, .int .i64 0] ∧ Ext w' w2) := Lib.hid (fun w' g hx hk => by
      refine (look_any (symR ⟨#[102]⟩) (-1) (some ⟨g, 0, none⟩) 2 [(imOf A1 c1 [exF] ⟨B1, bc1, bs1, W1, wc1, ws1, sh1⟩), (imOf A2 c2 [exF] ⟨B2, bc2, bs2, W2, wc2, ws2, sh2⟩)] w' symR_fit (imsIn2 hk (IA.out.inn.ext hx) (IB.out.inn.ext hx)) HHB.out).mono ?_
      rintro e w2 ⟨v, h1, h2, h3⟩
      rw [x1] at h1
      rw [x2] at h2
      exact ⟨v, h1, h2, h3⟩)
    have HLB : Hid (∀ w' g, Ext wc w' → Blk w' g 60 #[.string ⟨#[]⟩, .int .i64 0, .slice none 0 0, .slice none 0 0, .slice none 0 0, .slice A1 1 c1, .slice B1 bs1.length bc1, .slice W1 ws1.length wc1, .int .i64 sh1, .slice none 0 0, .slice none 0 0, .slice none 0 0, .slice none 0 0, .slice none 0 0, .int .i64 0, .string ⟨#[]⟩, .int .i64 0, .slice none 0 0, .slice none 0 0, .slice none 0 0, .slice A2 1 c2, .slice B2 bs2.length bc2, .slice W2 ws2.length wc2, .int .i64 sh2, .slice none 0 0, .slice none 0 0, .slice none 0 0, .slice none 0 0, .slice none 0 0, .int .i64 0] → Calls Try.prog 13 #[.agg #[.string ⟨#[102]⟩, .string ⟨#[]⟩, .bool false, .int .i64 0, .bool false, .int .i64 0, .bool false, .int .i64 0, .int .i64 0], .int .i64 0, .slice (some ⟨g, 0, none⟩) 2 2] w' fun e w2 => ∃ v, e = .returned (.tuple #[.agg #[.int .i64 1, .int .i64 0, .bool true], v]) ∧ Ext w' w2) := Lib.hid (fun w' g hx hk => by
      refine (look_any (symR ⟨#[102]⟩) 0 (some ⟨g, 0, none⟩) 2 [(imOf A1 c1 [exF] ⟨B1, bc1, bs1, W1, wc1, ws1, sh1⟩), (imOf A2 c2 [exF] ⟨B2, bc2, bs2, W2, wc2, ws2, sh2⟩)] w' symR_fit (imsIn2 hk (IA.out.inn.ext hx) (IB.out.inn.ext hx)) HHB.out).mono ?_
      rintro e w2 ⟨v, h1, h2, h3⟩
      rw [x3] at h1
      exact ⟨v, h1, h3⟩)
    have HBA : Hid (∀ w' g, Ext wc w' → Blk w' g 60 #[.string ⟨#[]⟩, .int .i64 0, .slice none 0 0, .slice none 0 0, .slice none 0 0, .slice A1 1 c1, .slice B1 bs1.length bc1, .slice W1 ws1.length wc1, .int .i64 sh1, .slice none 0 0, .slice none 0 0, .slice none 0 0, .slice none 0 0, .slice none 0 0, .int .i64 0, .string ⟨#[]⟩, .int .i64 0, .slice none 0 0, .slice none 0 0, .slice none 0 0, .slice A2 1 c2, .slice B2 bs2.length bc2, .slice W2 ws2.length wc2, .int .i64 sh2, .slice none 0 0, .slice none 0 0, .slice none 0 0, .slice none 0 0, .slice none 0 0, .int .i64 0] → Calls Try.prog 17 #[.int .i64 1, .int .i64 0, .bool false, .slice (some ⟨g, 0, none⟩) 2 2] w' fun e w2 => e = .returned (.tuple #[.agg #[.int .i64 0, .int .i64 0, .bool true], .int .i64 0]) ∧ Ext w' w2) := Lib.hid (fun w' g hx hk => by
      refine (bind_any 1 0 false (some ⟨g, 0, none⟩) 2 [(imOf A1 c1 [exF] ⟨B1, bc1, bs1, W1, wc1, ws1, sh1⟩), (imOf A2 c2 [exF] ⟨B2, bc2, bs2, W2, wc2, ws2, sh2⟩)] w' (imsIn2 hk (IA.out.inn.ext hx) (IB.out.inn.ext hx)) HHB.out).mono ?_
      rintro e w2 ⟨h1, h3⟩
      rw [x4] at h1
      exact ⟨h1, h3⟩)
    have HBB : Hid (∀ w' g, Ext wc w' → Blk w' g 60 #[.string ⟨#[]⟩, .int .i64 0, .slice none 0 0, .slice none 0 0, .slice none 0 0, .slice A1 1 c1, .slice B1 bs1.length bc1, .slice W1 ws1.length wc1, .int .i64 sh1, .slice none 0 0, .slice none 0 0, .slice none 0 0, .slice none 0 0, .slice none 0 0, .int .i64 0, .string ⟨#[]⟩, .int .i64 0, .slice none 0 0, .slice none 0 0, .slice none 0 0, .slice A3 1 c3, .slice B3 bs3.length bc3, .slice W3 ws3.length wc3, .int .i64 sh3, .slice none 0 0, .slice none 0 0, .slice none 0 0, .slice none 0 0, .slice none 0 0, .int .i64 0] → Calls Try.prog 17 #[.int .i64 1, .int .i64 0, .bool false, .slice (some ⟨g, 0, none⟩) 2 2] w' fun e w2 => e = .returned (.tuple #[.agg #[.int .i64 1, .int .i64 0, .bool true], .int .i64 0]) ∧ Ext w' w2) := Lib.hid (fun w' g hx hk => by
      refine (bind_any 1 0 false (some ⟨g, 0, none⟩) 2 [(imOf A1 c1 [exF] ⟨B1, bc1, bs1, W1, wc1, ws1, sh1⟩), (imOf A3 c3 [exG] ⟨B3, bc3, bs3, W3, wc3, ws3, sh3⟩)] w' (imsIn2 hk (IA.out.inn.ext hx) (ID.out.inn.ext hx)) HHD.out).mono ?_
      rintro e w2 ⟨h1, h3⟩
      rw [x5] at h1
      exact ⟨h1, h3⟩)
    clear hx ka kb kd ia ib id fa fb x1 x2 x3 x4 x5
    have a0 : wc.cell? ⟨ba, 0, none⟩ = some (.string ⟨#[]⟩) := KA.out.cell 0 rfl
    have a1 : wc.cell? ⟨ba, 1, none⟩ = some (.int .i64 0) := KA.out.cell 1 rfl
    have a2 : wc.cell? ⟨ba, 2, none⟩ = some (.slice none 0 0) := KA.out.cell 2 rfl
    have a3 : wc.cell? ⟨ba, 3, none⟩ = some (.slice none 0 0) := KA.out.cell 3 rfl
    have a4 : wc.cell? ⟨ba, 4, none⟩ = some (.slice none 0 0) := KA.out.cell 4 rfl
    have a5 : wc.cell? ⟨ba, 5, none⟩ = some (.slice A1 1 c1) := KA.out.cell 5 rfl
    have a6 : wc.cell? ⟨ba, 6, none⟩ = some (.slice B1 bs1.length bc1) := KA.out.cell 6 rfl
    have a7 : wc.cell? ⟨ba, 7, none⟩ = some (.slice W1 ws1.length wc1) := KA.out.cell 7 rfl
    have a8 : wc.cell? ⟨ba, 8, none⟩ = some (.int .i64 sh1) := KA.out.cell 8 rfl
    have a9 : wc.cell? ⟨ba, 9, none⟩ = some (.slice none 0 0) := KA.out.cell 9 rfl
    have a10 : wc.cell? ⟨ba, 10, none⟩ = some (.slice none 0 0) := KA.out.cell 10 rfl
    have a11 : wc.cell? ⟨ba, 11, none⟩ = some (.slice none 0 0) := KA.out.cell 11 rfl
    have a12 : wc.cell? ⟨ba, 12, none⟩ = some (.slice none 0 0) := KA.out.cell 12 rfl
    have a13 : wc.cell? ⟨ba, 13, none⟩ = some (.slice none 0 0) := KA.out.cell 13 rfl
    have a14 : wc.cell? ⟨ba, 14, none⟩ = some (.int .i64 0) := KA.out.cell 14 rfl
    have al : ba < wc.heap.size := KA.out.lt
    have b0 : wc.cell? ⟨bb, 0, none⟩ = some (.string ⟨#[]⟩) := KB.out.cell 0 rfl
    have b1 : wc.cell? ⟨bb, 1, none⟩ = some (.int .i64 0) := KB.out.cell 1 rfl
    have b2 : wc.cell? ⟨bb, 2, none⟩ = some (.slice none 0 0) := KB.out.cell 2 rfl
    have b3 : wc.cell? ⟨bb, 3, none⟩ = some (.slice none 0 0) := KB.out.cell 3 rfl
    have b4 : wc.cell? ⟨bb, 4, none⟩ = some (.slice none 0 0) := KB.out.cell 4 rfl
    have b5 : wc.cell? ⟨bb, 5, none⟩ = some (.slice A2 1 c2) := KB.out.cell 5 rfl
    have b6 : wc.cell? ⟨bb, 6, none⟩ = some (.slice B2 bs2.length bc2) := KB.out.cell 6 rfl
    have b7 : wc.cell? ⟨bb, 7, none⟩ = some (.slice W2 ws2.length wc2) := KB.out.cell 7 rfl
    have b8 : wc.cell? ⟨bb, 8, none⟩ = some (.int .i64 sh2) := KB.out.cell 8 rfl
    have b9 : wc.cell? ⟨bb, 9, none⟩ = some (.slice none 0 0) := KB.out.cell 9 rfl
    have b10 : wc.cell? ⟨bb, 10, none⟩ = some (.slice none 0 0) := KB.out.cell 10 rfl
    have b11 : wc.cell? ⟨bb, 11, none⟩ = some (.slice none 0 0) := KB.out.cell 11 rfl
    have b12 : wc.cell? ⟨bb, 12, none⟩ = some (.slice none 0 0) := KB.out.cell 12 rfl
    have b13 : wc.cell? ⟨bb, 13, none⟩ = some (.slice none 0 0) := KB.out.cell 13 rfl
    have b14 : wc.cell? ⟨bb, 14, none⟩ = some (.int .i64 0) := KB.out.cell 14 rfl
    have bl : bb < wc.heap.size := KB.out.lt
    go_wp2_with fail
    refine (HLA.out _ _ (Ext.alloc _ _) (Blk.new _ _ _)).mono ?_
    rintro e w5 ⟨v, rfl, ho, hx5⟩
    have HX5 := Lib.hid ((Ext.alloc wc _).trans hx5)
    obtain ⟨ng, nc, rfl, hng⟩ := own_at ho (by omega)
    have HO := Lib.hid ho
    clear a0 a1 a2 a3 a4 a5 a6 a7 a8 a9 a10 a11 a12 a13 a14 al b0 b1 b2 b3 b4 b5 b6 b7 b8 b9 b10 b11 b12 b13 b14 bl
    clear ho hx5 hng
    have KA5 := Lib.hid (HX5.out.blk KA.out)
    have KB5 := Lib.hid (HX5.out.blk KB.out)
    have a0 : w5.cell? ⟨ba, 0, none⟩ = some (.string ⟨#[]⟩) := KA5.out.cell 0 rfl
    have a1 : w5.cell? ⟨ba, 1, none⟩ = some (.int .i64 0) := KA5.out.cell 1 rfl
    have a2 : w5.cell? ⟨ba, 2, none⟩ = some (.slice none 0 0) := KA5.out.cell 2 rfl
    have a3 : w5.cell? ⟨ba, 3, none⟩ = some (.slice none 0 0) := KA5.out.cell 3 rfl
    have a4 : w5.cell? ⟨ba, 4, none⟩ = some (.slice none 0 0) := KA5.out.cell 4 rfl
    have a5 : w5.cell? ⟨ba, 5, none⟩ = some (.slice A1 1 c1) := KA5.out.cell 5 rfl
    have a6 : w5.cell? ⟨ba, 6, none⟩ = some (.slice B1 bs1.length bc1) := KA5.out.cell 6 rfl
    have a7 : w5.cell? ⟨ba, 7, none⟩ = some (.slice W1 ws1.length wc1) := KA5.out.cell 7 rfl
    have a8 : w5.cell? ⟨ba, 8, none⟩ = some (.int .i64 sh1) := KA5.out.cell 8 rfl
    have a9 : w5.cell? ⟨ba, 9, none⟩ = some (.slice none 0 0) := KA5.out.cell 9 rfl
    have a10 : w5.cell? ⟨ba, 10, none⟩ = some (.slice none 0 0) := KA5.out.cell 10 rfl
    have a11 : w5.cell? ⟨ba, 11, none⟩ = some (.slice none 0 0) := KA5.out.cell 11 rfl
    have a12 : w5.cell? ⟨ba, 12, none⟩ = some (.slice none 0 0) := KA5.out.cell 12 rfl
    have a13 : w5.cell? ⟨ba, 13, none⟩ = some (.slice none 0 0) := KA5.out.cell 13 rfl
    have a14 : w5.cell? ⟨ba, 14, none⟩ = some (.int .i64 0) := KA5.out.cell 14 rfl
    have al : ba < w5.heap.size := KA5.out.lt
    have b0 : w5.cell? ⟨bb, 0, none⟩ = some (.string ⟨#[]⟩) := KB5.out.cell 0 rfl
    have b1 : w5.cell? ⟨bb, 1, none⟩ = some (.int .i64 0) := KB5.out.cell 1 rfl
    have b2 : w5.cell? ⟨bb, 2, none⟩ = some (.slice none 0 0) := KB5.out.cell 2 rfl
    have b3 : w5.cell? ⟨bb, 3, none⟩ = some (.slice none 0 0) := KB5.out.cell 3 rfl
    have b4 : w5.cell? ⟨bb, 4, none⟩ = some (.slice none 0 0) := KB5.out.cell 4 rfl
    have b5 : w5.cell? ⟨bb, 5, none⟩ = some (.slice A2 1 c2) := KB5.out.cell 5 rfl
    have b6 : w5.cell? ⟨bb, 6, none⟩ = some (.slice B2 bs2.length bc2) := KB5.out.cell 6 rfl
    have b7 : w5.cell? ⟨bb, 7, none⟩ = some (.slice W2 ws2.length wc2) := KB5.out.cell 7 rfl
    have b8 : w5.cell? ⟨bb, 8, none⟩ = some (.int .i64 sh2) := KB5.out.cell 8 rfl
    have b9 : w5.cell? ⟨bb, 9, none⟩ = some (.slice none 0 0) := KB5.out.cell 9 rfl
    have b10 : w5.cell? ⟨bb, 10, none⟩ = some (.slice none 0 0) := KB5.out.cell 10 rfl
    have b11 : w5.cell? ⟨bb, 11, none⟩ = some (.slice none 0 0) := KB5.out.cell 11 rfl
    have b12 : w5.cell? ⟨bb, 12, none⟩ = some (.slice none 0 0) := KB5.out.cell 12 rfl
    have b13 : w5.cell? ⟨bb, 13, none⟩ = some (.slice none 0 0) := KB5.out.cell 13 rfl
    have b14 : w5.cell? ⟨bb, 14, none⟩ = some (.int .i64 0) := KB5.out.cell 14 rfl
    have bl : bb < w5.heap.size := KB5.out.lt
    go_wp2_with fail
    have HTw5 := Lib.hid HX5.out
    have hbx := box2 w5 #[.int .i64 0, .int .i64 0, .bool true] #[.string ⟨#[]⟩, .int .i64 0, .slice none 0 0, .slice none 0 0, .slice none 0 0, .slice A1 1 c1, .slice B1 bs1.length bc1, .slice W1 ws1.length wc1, .int .i64 sh1, .slice none 0 0, .slice none 0 0, .slice none 0 0, .slice none 0 0, .slice none 0 0, .int .i64 0, .string ⟨#[]⟩, .int .i64 0, .slice none 0 0, .slice none 0 0, .slice none 0 0, .slice A2 1 c2, .slice B2 bs2.length bc2, .slice W2 ws2.length wc2, .int .i64 sh2, .slice none 0 0, .slice none 0 0, .slice none 0 0, .slice none 0 0, .slice none 0 0, .int .i64 0] 29 60
    obtain ⟨hb1, hb2, hxb⟩ := hbx
    clear a0 a1 a2 a3 a4 a5 a6 a7 a8 a9 a10 a11 a12 a13 a14 al b0 b1 b2 b3 b4 b5 b6 b7 b8 b9 b10 b11 b12 b13 b14 bl
    generalize (w5.alloc (.cells #[.int .i64 0, .int .i64 0, .bool true] 29)).alloc (.cells #[.string ⟨#[]⟩, .int .i64 0, .slice none 0 0, .slice none 0 0, .slice none 0 0, .slice A1 1 c1, .slice B1 bs1.length bc1, .slice W1 ws1.length wc1, .int .i64 sh1, .slice none 0 0, .slice none 0 0, .slice none 0 0, .slice none 0 0, .slice none 0 0, .int .i64 0, .string ⟨#[]⟩, .int .i64 0, .slice none 0 0, .slice none 0 0, .slice none 0 0, .slice A2 1 c2, .slice B2 bs2.length bc2, .slice W2 ws2.length wc2, .int .i64 sh2, .slice none 0 0, .slice none 0 0, .slice none 0 0, .slice none 0 0, .slice none 0 0, .int .i64 0] 60) = w6 at *
    generalize w5.heap.size + 1 = gi at *
    generalize w5.heap.size = f6 at *
    refine (HLB.out _ _ (HTw5.out.trans hxb) hb2).mono ?_
    rintro e w7 ⟨v2, rfl, hx9⟩
    have HXSw7 := Lib.hid (hxb.trans hx9)
    have HTw7 := Lib.hid (HTw5.out.trans HXSw7.out)
    have Kf6 := Lib.hid (hx9.blk hb1)
    clear hb1 hb2 hxb hx9
    have KA7 := Lib.hid (HTw7.out.blk KA.out)
    have KB7 := Lib.hid (HTw7.out.blk KB.out)
    have a0 : w7.cell? ⟨ba, 0, none⟩ = some (.string ⟨#[]⟩) := KA7.out.cell 0 rfl
    have a1 : w7.cell? ⟨ba, 1, none⟩ = some (.int .i64 0) := KA7.out.cell 1 rfl
    have a2 : w7.cell? ⟨ba, 2, none⟩ = some (.slice none 0 0) := KA7.out.cell 2 rfl
    have a3 : w7.cell? ⟨ba, 3, none⟩ = some (.slice none 0 0) := KA7.out.cell 3 rfl
    have a4 : w7.cell? ⟨ba, 4, none⟩ = some (.slice none 0 0) := KA7.out.cell 4 rfl
    have a5 : w7.cell? ⟨ba, 5, none⟩ = some (.slice A1 1 c1) := KA7.out.cell 5 rfl
    have a6 : w7.cell? ⟨ba, 6, none⟩ = some (.slice B1 bs1.length bc1) := KA7.out.cell 6 rfl
    have a7 : w7.cell? ⟨ba, 7, none⟩ = some (.slice W1 ws1.length wc1) := KA7.out.cell 7 rfl
    have a8 : w7.cell? ⟨ba, 8, none⟩ = some (.int .i64 sh1) := KA7.out.cell 8 rfl
    have a9 : w7.cell? ⟨ba, 9, none⟩ = some (.slice none 0 0) := KA7.out.cell 9 rfl
    have a10 : w7.cell? ⟨ba, 10, none⟩ = some (.slice none 0 0) := KA7.out.cell 10 rfl
    have a11 : w7.cell? ⟨ba, 11, none⟩ = some (.slice none 0 0) := KA7.out.cell 11 rfl
    have a12 : w7.cell? ⟨ba, 12, none⟩ = some (.slice none 0 0) := KA7.out.cell 12 rfl
    have a13 : w7.cell? ⟨ba, 13, none⟩ = some (.slice none 0 0) := KA7.out.cell 13 rfl
    have a14 : w7.cell? ⟨ba, 14, none⟩ = some (.int .i64 0) := KA7.out.cell 14 rfl
    have al : ba < w7.heap.size := KA7.out.lt
    have b0 : w7.cell? ⟨bb, 0, none⟩ = some (.string ⟨#[]⟩) := KB7.out.cell 0 rfl
    have b1 : w7.cell? ⟨bb, 1, none⟩ = some (.int .i64 0) := KB7.out.cell 1 rfl
    have b2 : w7.cell? ⟨bb, 2, none⟩ = some (.slice none 0 0) := KB7.out.cell 2 rfl
    have b3 : w7.cell? ⟨bb, 3, none⟩ = some (.slice none 0 0) := KB7.out.cell 3 rfl
    have b4 : w7.cell? ⟨bb, 4, none⟩ = some (.slice none 0 0) := KB7.out.cell 4 rfl
    have b5 : w7.cell? ⟨bb, 5, none⟩ = some (.slice A2 1 c2) := KB7.out.cell 5 rfl
    have b6 : w7.cell? ⟨bb, 6, none⟩ = some (.slice B2 bs2.length bc2) := KB7.out.cell 6 rfl
    have b7 : w7.cell? ⟨bb, 7, none⟩ = some (.slice W2 ws2.length wc2) := KB7.out.cell 7 rfl
    have b8 : w7.cell? ⟨bb, 8, none⟩ = some (.int .i64 sh2) := KB7.out.cell 8 rfl
    have b9 : w7.cell? ⟨bb, 9, none⟩ = some (.slice none 0 0) := KB7.out.cell 9 rfl
    have b10 : w7.cell? ⟨bb, 10, none⟩ = some (.slice none 0 0) := KB7.out.cell 10 rfl
    have b11 : w7.cell? ⟨bb, 11, none⟩ = some (.slice none 0 0) := KB7.out.cell 11 rfl
    have b12 : w7.cell? ⟨bb, 12, none⟩ = some (.slice none 0 0) := KB7.out.cell 12 rfl
    have b13 : w7.cell? ⟨bb, 13, none⟩ = some (.slice none 0 0) := KB7.out.cell 13 rfl
    have b14 : w7.cell? ⟨bb, 14, none⟩ = some (.int .i64 0) := KB7.out.cell 14 rfl
    have bl : bb < w7.heap.size := KB7.out.lt
    go_wp2_with fail
    have hbx := box2 w7 #[.int .i64 1, .int .i64 0, .bool true] #[.string ⟨#[]⟩, .int .i64 0, .slice none 0 0, .slice none 0 0, .slice none 0 0, .slice A1 1 c1, .slice B1 bs1.length bc1, .slice W1 ws1.length wc1, .int .i64 sh1, .slice none 0 0, .slice none 0 0, .slice none 0 0, .slice none 0 0, .slice none 0 0, .int .i64 0, .string ⟨#[]⟩, .int .i64 0, .slice none 0 0, .slice none 0 0, .slice none 0 0, .slice A2 1 c2, .slice B2 bs2.length bc2, .slice W2 ws2.length wc2, .int .i64 sh2, .slice none 0 0, .slice none 0 0, .slice none 0 0, .slice none 0 0, .slice none 0 0, .int .i64 0] 29 60
    obtain ⟨hb1, hb2, hxb⟩ := hbx
    clear a0 a1 a2 a3 a4 a5 a6 a7 a8 a9 a10 a11 a12 a13 a14 al b0 b1 b2 b3 b4 b5 b6 b7 b8 b9 b10 b11 b12 b13 b14 bl
    generalize (w7.alloc (.cells #[.int .i64 1, .int .i64 0, .bool true] 29)).alloc (.cells #[.string ⟨#[]⟩, .int .i64 0, .slice none 0 0, .slice none 0 0, .slice none 0 0, .slice A1 1 c1, .slice B1 bs1.length bc1, .slice W1 ws1.length wc1, .int .i64 sh1, .slice none 0 0, .slice none 0 0, .slice none 0 0, .slice none 0 0, .slice none 0 0, .int .i64 0, .string ⟨#[]⟩, .int .i64 0, .slice none 0 0, .slice none 0 0, .slice none 0 0, .slice A2 1 c2, .slice B2 bs2.length bc2, .slice W2 ws2.length wc2, .int .i64 sh2, .slice none 0 0, .slice none 0 0, .slice none 0 0, .slice none 0 0, .slice none 0 0, .int .i64 0] 60) = w8 at *
    generalize w7.heap.size + 1 = gi at *
    generalize w7.heap.size = f8 at *
    refine (HBA.out _ _ (HTw7.out.trans hxb) hb2).mono ?_
    rintro e w9 ⟨rfl, hx9⟩
    have HXSw9 := Lib.hid (hxb.trans hx9)
    have HTw9 := Lib.hid (HTw7.out.trans HXSw9.out)
    have Kf8 := Lib.hid (hx9.blk hb1)
    clear hb1 hb2 hxb hx9
    have KA9 := Lib.hid (HTw9.out.blk KA.out)
    have KD9 := Lib.hid (HTw9.out.blk KD.out)
    have a0 : w9.cell? ⟨ba, 0, none⟩ = some (.string ⟨#[]⟩) := KA9.out.cell 0 rfl
    have a1 : w9.cell? ⟨ba, 1, none⟩ = some (.int .i64 0) := KA9.out.cell 1 rfl
    have a2 : w9.cell? ⟨ba, 2, none⟩ = some (.slice none 0 0) := KA9.out.cell 2 rfl
    have a3 : w9.cell? ⟨ba, 3, none⟩ = some (.slice none 0 0) := KA9.out.cell 3 rfl
    have a4 : w9.cell? ⟨ba, 4, none⟩ = some (.slice none 0 0) := KA9.out.cell 4 rfl
    have a5 : w9.cell? ⟨ba, 5, none⟩ = some (.slice A1 1 c1) := KA9.out.cell 5 rfl
    have a6 : w9.cell? ⟨ba, 6, none⟩ = some (.slice B1 bs1.length bc1) := KA9.out.cell 6 rfl
    have a7 : w9.cell? ⟨ba, 7, none⟩ = some (.slice W1 ws1.length wc1) := KA9.out.cell 7 rfl
    have a8 : w9.cell? ⟨ba, 8, none⟩ = some (.int .i64 sh1) := KA9.out.cell 8 rfl
    have a9 : w9.cell? ⟨ba, 9, none⟩ = some (.slice none 0 0) := KA9.out.cell 9 rfl
    have a10 : w9.cell? ⟨ba, 10, none⟩ = some (.slice none 0 0) := KA9.out.cell 10 rfl
    have a11 : w9.cell? ⟨ba, 11, none⟩ = some (.slice none 0 0) := KA9.out.cell 11 rfl
    have a12 : w9.cell? ⟨ba, 12, none⟩ = some (.slice none 0 0) := KA9.out.cell 12 rfl
    have a13 : w9.cell? ⟨ba, 13, none⟩ = some (.slice none 0 0) := KA9.out.cell 13 rfl
    have a14 : w9.cell? ⟨ba, 14, none⟩ = some (.int .i64 0) := KA9.out.cell 14 rfl
    have al : ba < w9.heap.size := KA9.out.lt
    have b0 : w9.cell? ⟨bd, 0, none⟩ = some (.string ⟨#[]⟩) := KD9.out.cell 0 rfl
    have b1 : w9.cell? ⟨bd, 1, none⟩ = some (.int .i64 0) := KD9.out.cell 1 rfl
    have b2 : w9.cell? ⟨bd, 2, none⟩ = some (.slice none 0 0) := KD9.out.cell 2 rfl
    have b3 : w9.cell? ⟨bd, 3, none⟩ = some (.slice none 0 0) := KD9.out.cell 3 rfl
    have b4 : w9.cell? ⟨bd, 4, none⟩ = some (.slice none 0 0) := KD9.out.cell 4 rfl
    have b5 : w9.cell? ⟨bd, 5, none⟩ = some (.slice A3 1 c3) := KD9.out.cell 5 rfl
    have b6 : w9.cell? ⟨bd, 6, none⟩ = some (.slice B3 bs3.length bc3) := KD9.out.cell 6 rfl
    have b7 : w9.cell? ⟨bd, 7, none⟩ = some (.slice W3 ws3.length wc3) := KD9.out.cell 7 rfl
    have b8 : w9.cell? ⟨bd, 8, none⟩ = some (.int .i64 sh3) := KD9.out.cell 8 rfl
    have b9 : w9.cell? ⟨bd, 9, none⟩ = some (.slice none 0 0) := KD9.out.cell 9 rfl
    have b10 : w9.cell? ⟨bd, 10, none⟩ = some (.slice none 0 0) := KD9.out.cell 10 rfl
    have b11 : w9.cell? ⟨bd, 11, none⟩ = some (.slice none 0 0) := KD9.out.cell 11 rfl
    have b12 : w9.cell? ⟨bd, 12, none⟩ = some (.slice none 0 0) := KD9.out.cell 12 rfl
    have b13 : w9.cell? ⟨bd, 13, none⟩ = some (.slice none 0 0) := KD9.out.cell 13 rfl
    have b14 : w9.cell? ⟨bd, 14, none⟩ = some (.int .i64 0) := KD9.out.cell 14 rfl
    have bl : bd < w9.heap.size := KD9.out.lt
    go_wp2_with fail
    have hbx := box2 w9 #[.int .i64 0, .int .i64 0, .bool true] #[.string ⟨#[]⟩, .int .i64 0, .slice none 0 0, .slice none 0 0, .slice none 0 0, .slice A1 1 c1, .slice B1 bs1.length bc1, .slice W1 ws1.length wc1, .int .i64 sh1, .slice none 0 0, .slice none 0 0, .slice none 0 0, .slice none 0 0, .slice none 0 0, .int .i64 0, .string ⟨#[]⟩, .int .i64 0, .slice none 0 0, .slice none 0 0, .slice none 0 0, .slice A3 1 c3, .slice B3 bs3.length bc3, .slice W3 ws3.length wc3, .int .i64 sh3, .slice none 0 0, .slice none 0 0, .slice none 0 0, .slice none 0 0, .slice none 0 0, .int .i64 0] 29 60
    obtain ⟨hb1, hb2, hxb⟩ := hbx
    clear a0 a1 a2 a3 a4 a5 a6 a7 a8 a9 a10 a11 a12 a13 a14 al b0 b1 b2 b3 b4 b5 b6 b7 b8 b9 b10 b11 b12 b13 b14 bl
    generalize (w9.alloc (.cells #[.int .i64 0, .int .i64 0, .bool true] 29)).alloc (.cells #[.string ⟨#[]⟩, .int .i64 0, .slice none 0 0, .slice none 0 0, .slice none 0 0, .slice A1 1 c1, .slice B1 bs1.length bc1, .slice W1 ws1.length wc1, .int .i64 sh1, .slice none 0 0, .slice none 0 0, .slice none 0 0, .slice none 0 0, .slice none 0 0, .int .i64 0, .string ⟨#[]⟩, .int .i64 0, .slice none 0 0, .slice none 0 0, .slice none 0 0, .slice A3 1 c3, .slice B3 bs3.length bc3, .slice W3 ws3.length wc3, .int .i64 sh3, .slice none 0 0, .slice none 0 0, .slice none 0 0, .slice none 0 0, .slice none 0 0, .int .i64 0] 60) = w10 at *
    generalize w9.heap.size + 1 = gi at *
    generalize w9.heap.size = f10 at *
    refine (HBB.out _ _ (HTw9.out.trans hxb) hb2).mono ?_
    rintro e w11 ⟨rfl, hx9⟩
    have HXSw11 := Lib.hid (hxb.trans hx9)
    have HTw11 := Lib.hid (HTw9.out.trans HXSw11.out)
    have Kf10 := Lib.hid (hx9.blk hb1)
    clear hb1 hb2 hxb hx9
    have K6 := Lib.hid ((HXSw9.out.trans HXSw11.out).blk Kf6.out)
    have K8 := Lib.hid (HXSw11.out.blk Kf8.out)
    have HO2 := Lib.hid ((HXSw7.out.trans (HXSw9.out.trans HXSw11.out)).own HO.out)
    have n0 : w11.cell? ⟨ng, 0, none⟩ = some (.int .i64 1) := HO2.out.cellAt 0 (by omega)
    have n1 : w11.cell? ⟨ng, 1, none⟩ = some (.int .i64 0) := HO2.out.cellAt 1 (by omega)
    have nl : ng < w11.heap.size := (HO2.out.lt ng rfl).2
    have r0 : w11.cell? ⟨f6, 0, none⟩ = some (.int .i64 0) := K6.out.cell 0 rfl
    have r1 : w11.cell? ⟨f6, 1, none⟩ = some (.int .i64 0) := K6.out.cell 1 rfl
    have r2 : w11.cell? ⟨f6, 2, none⟩ = some (.bool true) := K6.out.cell 2 rfl
    have rl : f6 < w11.heap.size := K6.out.lt
    have s0 : w11.cell? ⟨f8, 0, none⟩ = some (.int .i64 1) := K8.out.cell 0 rfl
    have sl : f8 < w11.heap.size := K8.out.lt
    have t0 : w11.cell? ⟨f10, 0, none⟩ = some (.int .i64 0) := Kf10.out.cell 0 rfl
    have tl : f10 < w11.heap.size := Kf10.out.lt
    go_wp2
    go_ret
    first | exact ⟨rfl, HX1.out.trans (HX0.out.trans (HTw11.out.trans (Ext.alloc _ _)))⟩ | exact ⟨retv rfl, HX1.out.trans (HX0.out.trans (HTw11.out.trans (Ext.alloc _ _)))⟩ | exact HX1.out.trans (HX0.out.trans (HTw11.out.trans (Ext.alloc _ _)))

end Go.Proofs.Ytcjmngonpijeiaa
