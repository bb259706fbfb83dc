/- scope.Bind, and scope.Own. -/
import Derived.Test.YtcjmngonpijeiaaLook
namespace Go.Proofs.Ytcjmngonpijeiaa
set_option maxRecDepth 100000
open Go.RowKit Pl
set_option linter.unusedVariables false

def ownB (s : Sym) : Bool := s.defd && (s.vis != 0)
/-- what a symbol asks for -/
def refS (s : Sym) : Sym := ⟨s.name, s.ver, false, s.kind, false, 0, false, 0, 0⟩
theorem refS_fit {s : Sym} (h : s.Fit) : (refS s).Fit := ⟨h.name, h.ver, h.kind, by unfold refS i64B; simp, by unfold refS i64B; simp, by unfold refS i64B; simp⟩
/-- what symbol k of image i means -/
def bindS (s : Sym) (i k : Int) (copied : Bool) (ims : List Im) : (Int × Int × Bool) × Int :=
  if ownB s && !copied then ((i, k, true), 0) else
  if (lookF (refS s) (if copied then i else -1) ims).2.2 then (lookF (refS s) (if copied then i else -1) ims, 0) else if s.weak then ((0, 0, false), 0) else ((0, 0, false), 141)
def bindP (i k : Int) (copied : Bool) (ims : List Im) : (Int × Int × Bool) × Int :=
  if i < 0 ∨ (ims.length : Int) ≤ i ∨ k < 0 ∨ ((ims.getD i.toNat im0).l.length : Int) ≤ k then ((0, 0, false), 140) else bindS ((ims.getD i.toNat im0).l.getD k.toNat sym0) i k copied ims
def BdP (i k : Int) (copied : Bool) (ims : List Im) (w : World) (e : Ending) (w' : World) : Prop :=
  e = .returned (.tuple #[.agg #[.int .i64 (bindP i k copied ims).1.1, .int .i64 (bindP i k copied ims).1.2.1, .bool (bindP i k copied ims).1.2.2], .int .i64 (bindP i k copied ims).2]) ∧ Ext w w'
theorem BdP.mk {i k : Int} {copied : Bool} {ims : List Im} {w w' : World} {a b c : Int} {d : Bool} (h : bindP i k copied ims = ((a, b, d), c)) (hx : Ext w w') : BdP i k copied ims w (.returned (.tuple #[.agg #[.int .i64 a, .int .i64 b, .bool d], .int .i64 c])) w' := ⟨by rw [h], hx⟩

set_option maxRecDepth 100000 in
theorem own_any (s : Sym) (w : World) : Calls Try.prog 19 #[.agg s.vals.toArray] w fun e w' => e = .returned (.bool (ownB s)) ∧ Ext w w' := by
  have HO : Hid (ownB s = (s.defd && (s.vis != 0))) := Lib.hid rfl
  generalize ownB s = ob at *
  obtain ⟨name, ver, old, kind, weak, vis, defd, val, size⟩ := s
  simp only [Sym.vals]
  go_enter Try.func19, Try.ntmps19
  cases defd
  · have HN : Hid (ob = false) := Lib.hid (by rw [HO.out]; rfl)
    go_wp2
    go_ret
    exact ⟨retv (by rw [HN.out]; rfl), Ext.alloc _ _⟩
  · have HN : Hid (ob = (vis != 0)) := Lib.hid (by rw [HO.out, Bool.true_and])
    go_wp2
    go_ret
    exact ⟨retv (by rw [HN.out]; rfl), Ext.alloc _ _⟩

set_option maxRecDepth 100000 in
set_option maxHeartbeats 6400000 in
theorem bind_any (i k : Int) (copied : Bool) (A : Option Addr) (c : Nat) (ims : List Im) (w : World) (h : ImsIn w A ims) (hb : ∀ m ∈ ims, m.t.bs.length < 4294967296) :
    Calls Try.prog 17 #[.int .i64 i, .int .i64 k, .bool copied, .slice A ims.length c] w (BdP i k copied ims w) := by
  have HH := Lib.hid h
  have hil := h.len
  have HMK := Lib.hid (fun (w' : World) (a b c : Int) (d : Bool) => BdP.mk (i := i) (k := k) (copied := copied) (ims := ims) (w := w) (w' := w') (a := a) (b := b) (c := c) (d := d))
  have HBP : Hid (bindP i k copied ims = if i < 0 ∨ (ims.length : Int) ≤ i ∨ k < 0 ∨ ((ims.getD i.toNat im0).l.length : Int) ≤ k then ((0, 0, false), 140) else bindS ((ims.getD i.toNat im0).l.getD k.toNat sym0) i k copied ims) := Lib.hid rfl
  have HBS : Hid (∀ s, bindS s i k copied ims = if ownB s && !copied then ((i, k, true), 0) else
    if (lookF (refS s) (if copied then i else -1) ims).2.2 then (lookF (refS s) (if copied then i else -1) ims, 0) else if s.weak then ((0, 0, false), 0) else ((0, 0, false), 141)) := Lib.hid (fun s => rfl)
  have HLK := Lib.hid (fun s skip w' (hs : Sym.Fit s) (hx : Ext w w') => look_any (refS s) skip A c ims w' (refS_fit hs) (h.ext hx) hb)
  clear h hb
  generalize BdP i k copied ims w = PP at *
  generalize bindP i k copied ims = bp at *
  go_enter Try.func17, Try.ntmps17
  by_cases hi0 : i < 0
  · have HE : Hid (bp = ((0, 0, false), 140)) := Lib.hid (by rw [HBP.out, if_pos (.inl hi0)])
    go_wp2
    exact bodyPost_ret (v := .tuple #[.agg #[.int .i64 0, .int .i64 0, .bool false], .int .i64 140]) (by simp [results, Try.results17, go_sem]) rfl (HMK.out _ _ _ _ _ HE.out (Ext.of (by first | exact Ext.alloc _ _ | exact (((Ext.alloc _ _).below.setCell (Nat.le_refl _) _).setCell (Nat.le_refl _) _).setCell (Nat.le_refl _) _)))
  by_cases hi1 : (ims.length : Int) ≤ i
  · have HE : Hid (bp = ((0, 0, false), 140)) := Lib.hid (by rw [HBP.out, if_pos (.inr (.inl hi1))])
    go_wp2
    exact bodyPost_ret (v := .tuple #[.agg #[.int .i64 0, .int .i64 0, .bool false], .int .i64 140]) (by simp [results, Try.results17, go_sem]) rfl (HMK.out _ _ _ _ _ HE.out (Ext.of (by first | exact Ext.alloc _ _ | exact (((Ext.alloc _ _).below.setCell (Nat.le_refl _) _).setCell (Nat.le_refl _) _).setCell (Nat.le_refl _) _)))
  by_cases hk0 : k < 0
  · have HE : Hid (bp = ((0, 0, false), 140)) := Lib.hid (by rw [HBP.out, if_pos (.inr (.inr (.inl hk0)))])
    go_wp2
    exact bodyPost_ret (v := .tuple #[.agg #[.int .i64 0, .int .i64 0, .bool false], .int .i64 140]) (by simp [results, Try.results17, go_sem]) rfl (HMK.out _ _ _ _ _ HE.out (Ext.of (by first | exact Ext.alloc _ _ | exact (((Ext.alloc _ _).below.setCell (Nat.le_refl _) _).setCell (Nat.le_refl _) _).setCell (Nat.le_refl _) _)))
  obtain ⟨a, rfl⟩ : ∃ a : Nat, i = a := ⟨i.toNat, by omega⟩
  obtain ⟨b, rfl⟩ : ∃ b : Nat, k = b := ⟨k.toNat, by omega⟩
  have hlt : a < ims.length := by omega
  rw [Int.toNat_natCast, Int.toNat_natCast] at HBP
  obtain ⟨yb, yo, rfl, hyb, hy⟩ := HH.out.rd.at hlt
  have HGD : Hid (ims.getD a im0 = ims[a]) := Lib.hid (by rw [List.getD_eq_getElem?_getD, List.getElem?_eq_getElem hlt]; rfl)
  rw [HGD.out] at HBP
  have HIN := Lib.hid (HH.out.each _ (List.getElem_mem hlt))
  clear HGD
  generalize ims[a] = m at *
  obtain ⟨d0, d1, d2, d3, d4, SA, sc, l, ⟨BA, bc, bs, WA, wc, ws, sh⟩, d9, d10, d11, d12, d13, d14⟩ := m
  obtain ⟨a0, a1, a2, a3, a4, a5, a6, a7, a8, a9, a10, a11, a12, a13, a14⟩ := hy
  simp only at a5 HBP
  clear a0 a1 a2 a3 a4 a6 a7 a8 a9 a10 a11 a12 a13 a14
  by_cases hk1 : (l.length : Int) ≤ b
  · have HE : Hid (bp = ((0, 0, false), 140)) := Lib.hid (by rw [HBP.out, if_pos (.inr (.inr (.inr hk1)))])
    go_wp2
    exact bodyPost_ret (v := .tuple #[.agg #[.int .i64 0, .int .i64 0, .bool false], .int .i64 140]) (by simp [results, Try.results17, go_sem]) rfl (HMK.out _ _ _ _ _ HE.out (Ext.of (by first | exact Ext.alloc _ _ | exact (((Ext.alloc _ _).below.setCell (Nat.le_refl _) _).setCell (Nat.le_refl _) _).setCell (Nat.le_refl _) _)))
  have hkl : b < l.length := by omega
  have HSS : Hid (bp = bindS l[b] a b copied ims) := Lib.hid (by
    rw [HBP.out, if_neg (by omega), List.getD_eq_getElem?_getD, List.getElem?_eq_getElem hkl]; rfl)
  have hrd := HIN.out.rd
  simp only at hrd
  obtain ⟨zb, zo, rfl, hzb, hz⟩ := hrd.nine hkl
  have hsf := HIN.out.fit _ (List.getElem_mem hkl)
  clear hrd
  have HB1 := Lib.hid (HBS.out l[b])
  rw [← HSS.out] at HB1
  have HOW := Lib.hid (fun w' => own_any l[b] w')
  obtain ⟨skip, hskip⟩ : ∃ skip : Int, (if copied = true then (a : Int) else -1) = skip := ⟨_, rfl⟩
  rw [hskip] at HB1
  have HSK := Lib.hid hskip
  clear hskip
  have HLK2 : Hid (∀ w', Ext w w' → Calls Try.prog 13 #[.agg (refS l[b]).vals.toArray, .int .i64 skip, .slice (some ⟨yb, yo, none⟩) ims.length c] w' fun e w2 =>
      ∃ v, e = .returned (.tuple #[.agg #[.int .i64 (lookF (refS l[b]) skip ims).1, .int .i64 (lookF (refS l[b]) skip ims).2.1, .bool (lookF (refS l[b]) skip ims).2.2], v]) ∧ Ext w' w2) :=
    Lib.hid (fun w' hx => (HLK.out l[b] skip w' hsf hx).mono (fun e w2 ⟨v, h1, _, h3⟩ => ⟨v, h1, h3⟩))
  have HNF : Hid ((lookF (refS l[b]) skip ims).2.2 = false → lookF (refS l[b]) skip ims = (0, 0, false)) := Lib.hid (by
    unfold lookF
    cases lookI (refS l[b]) skip ims with
    | none => intro _; rfl
    | some k => intro h; cases h)
  clear HBS HLK HSS HBP hsf
  generalize l[b] = s at *
  generalize lookF (refS s) skip ims = lf at *
  obtain ⟨fi, fk, fb⟩ := lf
  generalize ownB s = ob at *
  simp only at HB1 HLK2 HNF
  obtain ⟨name, ver, old, kind, weak, vis, defd, val, size⟩ := s
  obtain ⟨s0, s1, s2, s3, s4, s5, s6, s7, s8⟩ := hz
  simp only at s0 s1 s2 s3 s4 s5 s6 s7 s8
  simp only [Sym.vals, refS] at HOW HLK2
  go_wp2_with fail
  have hbx := box2 w #[.int .i64 0, .int .i64 0, .bool false] #[.string name, .string ver, .bool old, .int .i64 kind, .bool weak, .int .i64 vis, .bool defd, .int .i64 val, .int .i64 size] 29 25
  obtain ⟨hb1, hb2, hxb⟩ := hbx
  generalize (w.alloc (.cells #[.int .i64 0, .int .i64 0, .bool false] 29)).alloc (.cells #[.string name, .string ver, .bool old, .int .i64 kind, .bool weak, .int .i64 vis, .bool defd, .int .i64 val, .int .i64 size] 25) = w1 at *
  generalize w.heap.size + 1 = sb at *
  refine (HOW.out _).mono ?_
  rintro e w2 ⟨rfl, hx2⟩
  have HX2 := Lib.hid (hxb.trans hx2)
  have HK1 := Lib.hid (hx2.blk hb1)
  have HK2 := Lib.hid (hx2.blk hb2)
  clear hb1 hb2 hxb hx2 s0 s1 s2 s3 s4 s5 s6 s7 s8 a5 hyb hzb
  by_cases hoc : (ob && !copied) = true
  · have HE : Hid (bp = (((a : Int), (b : Int), true), 0)) := Lib.hid (by rw [HB1.out, if_pos hoc])
    have h1 : ob = true := by cases ob <;> simp_all
    have h2 : copied = false := by cases copied <;> simp_all
    subst h1 h2
    have r0 : w2.cell? ⟨w.heap.size, 0, none⟩ = some (.int .i64 0) := HK1.out.cell 0 rfl
    have r1 : w2.cell? ⟨w.heap.size, 1, none⟩ = some (.int .i64 0) := HK1.out.cell 1 rfl
    have r2 : w2.cell? ⟨w.heap.size, 2, none⟩ = some (.bool false) := HK1.out.cell 2 rfl
    have z0 := HK1.out.frozen 0
    have z1 := HK1.out.frozen 1
    have z2 := HK1.out.frozen 2
    have HFIN : Hid (PP (.returned (.tuple #[.agg #[.int .i64 (a : Int), .int .i64 (b : Int), .bool true], .int .i64 0])) (((w2.setCell ⟨w.heap.size, 0, none⟩ (.int .i64 (a : Int))).setCell ⟨w.heap.size, 1, none⟩ (.int .i64 (b : Int))).setCell ⟨w.heap.size, 2, none⟩ (.bool true))) := Lib.hid (HMK.out _ _ _ _ _ HE.out
      (Ext.of (((HX2.out.below.setCell (Nat.le_refl _) _).setCell (Nat.le_refl _) _).setCell (Nat.le_refl _) _)))
    go_wp2
    exact bodyPost_ret (v := .tuple #[.agg #[.int .i64 (a : Int), .int .i64 (b : Int), .bool true], .int .i64 0]) (by simp [results, Try.results17, go_sem, r0, r1, r2]) rfl HFIN.out
  have HB2 := Lib.hid HB1.out
  rw [if_neg hoc] at HB2
  clear HB1
  have q0 : w2.cell? ⟨sb, 0, none⟩ = some (.string name) := HK2.out.cell 0 rfl
  have q1 : w2.cell? ⟨sb, 1, none⟩ = some (.string ver) := HK2.out.cell 1 rfl
  have q3 : w2.cell? ⟨sb, 3, none⟩ = some (.int .i64 kind) := HK2.out.cell 3 rfl
  have hgo : ∀ (hcase : (ob = false ∧ copied = false ∧ skip = -1) ∨ (copied = true ∧ skip = a)), True := fun _ => trivial
  have hcs : (copied = true ∧ skip = a) ∨ (copied = false ∧ ob = false ∧ skip = -1) := by
    cases hcp : copied with
    | true => left; refine ⟨rfl, ?_⟩; rw [← HSK.out, if_pos hcp]
    | false =>
      right
      refine ⟨rfl, ?_, ?_⟩
      · cases hob : ob with
        | false => rfl
        | true => exact absurd (by rw [hob, hcp]; rfl) hoc
      · rw [← HSK.out, if_neg (by rw [hcp]; simp)]
  clear hgo hoc HSK
  rcases hcs with ⟨rfl, rfl⟩ | ⟨rfl, rfl, rfl⟩
  · cases ob
    all_goals
      go_wp2_with fail
      refine (HLK2.out _ (HX2.out.trans (Ext.alloc _ _))).mono ?_
      rintro e w4 ⟨v, rfl, hx4⟩
      have hx24 := (Ext.alloc w2 _).trans hx4
      have HX4 := Lib.hid (HX2.out.trans hx24)
      have HK3 := Lib.hid (hx24.blk HK1.out)
      have HK4 := Lib.hid (hx24.blk HK2.out)
      clear hx4 hx24 q0 q1 q3
      have q4 : w4.cell? ⟨sb, 4, none⟩ = some (.bool weak) := HK4.out.cell 4 rfl
      have hsl : sb < w4.heap.size := HK4.out.lt
      have hrl : w.heap.size < w4.heap.size := HK3.out.lt
      have r0 : w4.cell? ⟨w.heap.size, 0, none⟩ = some (.int .i64 0) := HK3.out.cell 0 rfl
      have r1 : w4.cell? ⟨w.heap.size, 1, none⟩ = some (.int .i64 0) := HK3.out.cell 1 rfl
      have r2 : w4.cell? ⟨w.heap.size, 2, none⟩ = some (.bool false) := HK3.out.cell 2 rfl
      have z0 := HK3.out.frozen 0
      have z1 := HK3.out.frozen 1
      have z2 := HK3.out.frozen 2
      cases fb
      · have hnf := HNF.out rfl
        simp only [Prod.mk.injEq, and_true] at hnf
        obtain ⟨rfl, rfl⟩ := hnf
        cases weak
        · have HE : Hid (bp = ((0, 0, false), 141)) := Lib.hid (by rw [HB2.out]; rfl)
          have HFIN : Hid (PP (.returned (.tuple #[.agg #[.int .i64 0, .int .i64 0, .bool false], .int .i64 141])) ((((w4.setCell ⟨w.heap.size, 0, none⟩ (.int .i64 0)).setCell ⟨w.heap.size, 1, none⟩ (.int .i64 0)).setCell ⟨w.heap.size, 2, none⟩ (.bool false)).alloc (.cells #[.int .i64 0, .int .i64 0, .bool false] 29))) := Lib.hid (HMK.out _ _ _ _ _ HE.out
            ((Ext.of (((HX4.out.below.setCell (Nat.le_refl _) _).setCell (Nat.le_refl _) _).setCell (Nat.le_refl _) _)).trans (Ext.alloc _ _)))
          have HKF := Lib.hid (((((HK3.out.set 0 (.int .i64 0)).set 1 (.int .i64 0)).set 2 (.bool false))).alloc (.cells #[.int .i64 0, .int .i64 0, .bool false] 29))
          go_wp2
          generalize ((((w4.setCell ⟨w.heap.size, 0, none⟩ (.int .i64 0)).setCell ⟨w.heap.size, 1, none⟩ (.int .i64 0)).setCell ⟨w.heap.size, 2, none⟩ (.bool false)).alloc (.cells #[.int .i64 0, .int .i64 0, .bool false] 29)) = wf at *
          have g0 : wf.cell? ⟨w.heap.size, 0, none⟩ = some (.int .i64 0) := HKF.out.cell 0 rfl
          have g1 : wf.cell? ⟨w.heap.size, 1, none⟩ = some (.int .i64 0) := HKF.out.cell 1 rfl
          have g2 : wf.cell? ⟨w.heap.size, 2, none⟩ = some (.bool false) := HKF.out.cell 2 rfl
          exact bodyPost_ret (v := .tuple #[.agg #[.int .i64 0, .int .i64 0, .bool false], .int .i64 141]) (by simp [results, Try.results17, go_sem, g0, g1, g2]) rfl HFIN.out
        · have HE : Hid (bp = ((0, 0, false), 0)) := Lib.hid (by rw [HB2.out]; rfl)
          have HFIN : Hid (PP (.returned (.tuple #[.agg #[.int .i64 0, .int .i64 0, .bool false], .int .i64 0])) ((((w4.setCell ⟨w.heap.size, 0, none⟩ (.int .i64 0)).setCell ⟨w.heap.size, 1, none⟩ (.int .i64 0)).setCell ⟨w.heap.size, 2, none⟩ (.bool false)).alloc (.cells #[.int .i64 0, .int .i64 0, .bool false] 29))) := Lib.hid (HMK.out _ _ _ _ _ HE.out
            ((Ext.of (((HX4.out.below.setCell (Nat.le_refl _) _).setCell (Nat.le_refl _) _).setCell (Nat.le_refl _) _)).trans (Ext.alloc _ _)))
          have HKF := Lib.hid (((((HK3.out.set 0 (.int .i64 0)).set 1 (.int .i64 0)).set 2 (.bool false))).alloc (.cells #[.int .i64 0, .int .i64 0, .bool false] 29))
          go_wp2
          generalize ((((w4.setCell ⟨w.heap.size, 0, none⟩ (.int .i64 0)).setCell ⟨w.heap.size, 1, none⟩ (.int .i64 0)).setCell ⟨w.heap.size, 2, none⟩ (.bool false)).alloc (.cells #[.int .i64 0, .int .i64 0, .bool false] 29)) = wf at *
          have g0 : wf.cell? ⟨w.heap.size, 0, none⟩ = some (.int .i64 0) := HKF.out.cell 0 rfl
          have g1 : wf.cell? ⟨w.heap.size, 1, none⟩ = some (.int .i64 0) := HKF.out.cell 1 rfl
          have g2 : wf.cell? ⟨w.heap.size, 2, none⟩ = some (.bool false) := HKF.out.cell 2 rfl
          exact bodyPost_ret (v := .tuple #[.agg #[.int .i64 0, .int .i64 0, .bool false], .int .i64 0]) (by simp [results, Try.results17, go_sem, g0, g1, g2]) rfl HFIN.out
      · have HE : Hid (bp = ((fi, fk, true), 0)) := Lib.hid (by rw [HB2.out]; rfl)
        have HFIN : Hid (PP (.returned (.tuple #[.agg #[.int .i64 fi, .int .i64 fk, .bool true], .int .i64 0])) ((((w4.setCell ⟨w.heap.size, 0, none⟩ (.int .i64 fi)).setCell ⟨w.heap.size, 1, none⟩ (.int .i64 fk)).setCell ⟨w.heap.size, 2, none⟩ (.bool true)).alloc (.cells #[.int .i64 fi, .int .i64 fk, .bool true] 29))) := Lib.hid (HMK.out _ _ _ _ _ HE.out
          ((Ext.of (((HX4.out.below.setCell (Nat.le_refl _) _).setCell (Nat.le_refl _) _).setCell (Nat.le_refl _) _)).trans (Ext.alloc _ _)))
        have HKF := Lib.hid (((((HK3.out.set 0 (.int .i64 fi)).set 1 (.int .i64 fk)).set 2 (.bool true))).alloc (.cells #[.int .i64 fi, .int .i64 fk, .bool true] 29))
        go_wp2
        generalize ((((w4.setCell ⟨w.heap.size, 0, none⟩ (.int .i64 fi)).setCell ⟨w.heap.size, 1, none⟩ (.int .i64 fk)).setCell ⟨w.heap.size, 2, none⟩ (.bool true)).alloc (.cells #[.int .i64 fi, .int .i64 fk, .bool true] 29)) = wf at *
        have g0 : wf.cell? ⟨w.heap.size, 0, none⟩ = some (.int .i64 fi) := HKF.out.cell 0 rfl
        have g1 : wf.cell? ⟨w.heap.size, 1, none⟩ = some (.int .i64 fk) := HKF.out.cell 1 rfl
        have g2 : wf.cell? ⟨w.heap.size, 2, none⟩ = some (.bool true) := HKF.out.cell 2 rfl
        exact bodyPost_ret (v := .tuple #[.agg #[.int .i64 fi, .int .i64 fk, .bool true], .int .i64 0]) (by simp [results, Try.results17, go_sem, g0, g1, g2]) rfl HFIN.out
  · skip
    go_wp2_with fail
    refine (HLK2.out _ (HX2.out.trans (Ext.alloc _ _))).mono ?_
    rintro e w4 ⟨v, rfl, hx4⟩
    have hx24 := (Ext.alloc w2 _).trans hx4
    have HX4 := Lib.hid (HX2.out.trans hx24)
    have HK3 := Lib.hid (hx24.blk HK1.out)
    have HK4 := Lib.hid (hx24.blk HK2.out)
    clear hx4 hx24 q0 q1 q3
    have q4 : w4.cell? ⟨sb, 4, none⟩ = some (.bool weak) := HK4.out.cell 4 rfl
    have hsl : sb < w4.heap.size := HK4.out.lt
    have hrl : w.heap.size < w4.heap.size := HK3.out.lt
    have r0 : w4.cell? ⟨w.heap.size, 0, none⟩ = some (.int .i64 0) := HK3.out.cell 0 rfl
    have r1 : w4.cell? ⟨w.heap.size, 1, none⟩ = some (.int .i64 0) := HK3.out.cell 1 rfl
    have r2 : w4.cell? ⟨w.heap.size, 2, none⟩ = some (.bool false) := HK3.out.cell 2 rfl
    have z0 := HK3.out.frozen 0
    have z1 := HK3.out.frozen 1
    have z2 := HK3.out.frozen 2
    cases fb
    · have hnf := HNF.out rfl
      simp only [Prod.mk.injEq, and_true] at hnf
      obtain ⟨rfl, rfl⟩ := hnf
      cases weak
      · have HE : Hid (bp = ((0, 0, false), 141)) := Lib.hid (by rw [HB2.out]; rfl)
        have HFIN : Hid (PP (.returned (.tuple #[.agg #[.int .i64 0, .int .i64 0, .bool false], .int .i64 141])) ((((w4.setCell ⟨w.heap.size, 0, none⟩ (.int .i64 0)).setCell ⟨w.heap.size, 1, none⟩ (.int .i64 0)).setCell ⟨w.heap.size, 2, none⟩ (.bool false)).alloc (.cells #[.int .i64 0, .int .i64 0, .bool false] 29))) := Lib.hid (HMK.out _ _ _ _ _ HE.out
          ((Ext.of (((HX4.out.below.setCell (Nat.le_refl _) _).setCell (Nat.le_refl _) _).setCell (Nat.le_refl _) _)).trans (Ext.alloc _ _)))
        have HKF := Lib.hid (((((HK3.out.set 0 (.int .i64 0)).set 1 (.int .i64 0)).set 2 (.bool false))).alloc (.cells #[.int .i64 0, .int .i64 0, .bool false] 29))
        go_wp2
        generalize ((((w4.setCell ⟨w.heap.size, 0, none⟩ (.int .i64 0)).setCell ⟨w.heap.size, 1, none⟩ (.int .i64 0)).setCell ⟨w.heap.size, 2, none⟩ (.bool false)).alloc (.cells #[.int .i64 0, .int .i64 0, .bool false] 29)) = wf at *
        have g0 : wf.cell? ⟨w.heap.size, 0, none⟩ = some (.int .i64 0) := HKF.out.cell 0 rfl
        have g1 : wf.cell? ⟨w.heap.size, 1, none⟩ = some (.int .i64 0) := HKF.out.cell 1 rfl
        have g2 : wf.cell? ⟨w.heap.size, 2, none⟩ = some (.bool false) := HKF.out.cell 2 rfl
        exact bodyPost_ret (v := .tuple #[.agg #[.int .i64 0, .int .i64 0, .bool false], .int .i64 141]) (by simp [results, Try.results17, go_sem, g0, g1, g2]) rfl HFIN.out
      · have HE : Hid (bp = ((0, 0, false), 0)) := Lib.hid (by rw [HB2.out]; rfl)
        have HFIN : Hid (PP (.returned (.tuple #[.agg #[.int .i64 0, .int .i64 0, .bool false], .int .i64 0])) ((((w4.setCell ⟨w.heap.size, 0, none⟩ (.int .i64 0)).setCell ⟨w.heap.size, 1, none⟩ (.int .i64 0)).setCell ⟨w.heap.size, 2, none⟩ (.bool false)).alloc (.cells #[.int .i64 0, .int .i64 0, .bool false] 29))) := Lib.hid (HMK.out _ _ _ _ _ HE.out
          ((Ext.of (((HX4.out.below.setCell (Nat.le_refl _) _).setCell (Nat.le_refl _) _).setCell (Nat.le_refl _) _)).trans (Ext.alloc _ _)))
        have HKF := Lib.hid (((((HK3.out.set 0 (.int .i64 0)).set 1 (.int .i64 0)).set 2 (.bool false))).alloc (.cells #[.int .i64 0, .int .i64 0, .bool false] 29))
        go_wp2
        generalize ((((w4.setCell ⟨w.heap.size, 0, none⟩ (.int .i64 0)).setCell ⟨w.heap.size, 1, none⟩ (.int .i64 0)).setCell ⟨w.heap.size, 2, none⟩ (.bool false)).alloc (.cells #[.int .i64 0, .int .i64 0, .bool false] 29)) = wf at *
        have g0 : wf.cell? ⟨w.heap.size, 0, none⟩ = some (.int .i64 0) := HKF.out.cell 0 rfl
        have g1 : wf.cell? ⟨w.heap.size, 1, none⟩ = some (.int .i64 0) := HKF.out.cell 1 rfl
        have g2 : wf.cell? ⟨w.heap.size, 2, none⟩ = some (.bool false) := HKF.out.cell 2 rfl
        exact bodyPost_ret (v := .tuple #[.agg #[.int .i64 0, .int .i64 0, .bool false], .int .i64 0]) (by simp [results, Try.results17, go_sem, g0, g1, g2]) rfl HFIN.out
    · have HE : Hid (bp = ((fi, fk, true), 0)) := Lib.hid (by rw [HB2.out]; rfl)
      have HFIN : Hid (PP (.returned (.tuple #[.agg #[.int .i64 fi, .int .i64 fk, .bool true], .int .i64 0])) ((((w4.setCell ⟨w.heap.size, 0, none⟩ (.int .i64 fi)).setCell ⟨w.heap.size, 1, none⟩ (.int .i64 fk)).setCell ⟨w.heap.size, 2, none⟩ (.bool true)).alloc (.cells #[.int .i64 fi, .int .i64 fk, .bool true] 29))) := Lib.hid (HMK.out _ _ _ _ _ HE.out
        ((Ext.of (((HX4.out.below.setCell (Nat.le_refl _) _).setCell (Nat.le_refl _) _).setCell (Nat.le_refl _) _)).trans (Ext.alloc _ _)))
      have HKF := Lib.hid (((((HK3.out.set 0 (.int .i64 fi)).set 1 (.int .i64 fk)).set 2 (.bool true))).alloc (.cells #[.int .i64 fi, .int .i64 fk, .bool true] 29))
      go_wp2
      generalize ((((w4.setCell ⟨w.heap.size, 0, none⟩ (.int .i64 fi)).setCell ⟨w.heap.size, 1, none⟩ (.int .i64 fk)).setCell ⟨w.heap.size, 2, none⟩ (.bool true)).alloc (.cells #[.int .i64 fi, .int .i64 fk, .bool true] 29)) = wf at *
      have g0 : wf.cell? ⟨w.heap.size, 0, none⟩ = some (.int .i64 fi) := HKF.out.cell 0 rfl
      have g1 : wf.cell? ⟨w.heap.size, 1, none⟩ = some (.int .i64 fk) := HKF.out.cell 1 rfl
      have g2 : wf.cell? ⟨w.heap.size, 2, none⟩ = some (.bool true) := HKF.out.cell 2 rfl
      exact bodyPost_ret (v := .tuple #[.agg #[.int .i64 fi, .int .i64 fk, .bool true], .int .i64 0]) (by simp [results, Try.results17, go_sem, g0, g1, g2]) rfl HFIN.out

end Go.Proofs.Ytcjmngonpijeiaa
