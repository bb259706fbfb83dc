/- scope.Linear, and the document's: without tables. -/
import Derived.Test.YtcjmngonpijeiaaLookP
import Derived.Test.YtcjmngonpijeiaaFirst
import Derived.Test.YtcjmngonpijeiaaLawLook
import Derived.Test.YtcjmngonpijeiaaExtR
namespace Go.Proofs.Ytcjmngonpijeiaa
set_option maxRecDepth 100000
open Go.RowKit Pl
set_option linter.unusedVariables false

theorem firstP_hit {r : Sym} {l : List Sym} {j : Nat} (hj : j < l.length) (hn : ∀ q, q < j → matchB r (l.getD q sym0) (verB l) = false) (hm : matchB r (l.getD j sym0) (verB l) = true) : firstP r l = j := by
  unfold firstP
  rw [find_range hj hn hm]
theorem firstP_none {r : Sym} {l : List Sym} (hn : ∀ q, q < l.length → matchB r (l.getD q sym0) (verB l) = false) : firstP r l = -1 := by
  unfold firstP
  rw [find_none hn]

def linH (r : Sym) (skip : Int) (ims : List Im) (i : Nat) : Bool := decide ((i : Int) ≠ skip) && decide (0 ≤ firstP r (ims.getD i im0).l)
def linF (r : Sym) (skip : Int) (ims : List Im) : Int × Int × Bool := match (List.range ims.length).find? (linH r skip ims) with | some k => ((k : Int), firstP r (ims.getD k im0).l, true) | none => (0, 0, false)
theorem lin_hit {r : Sym} {skip : Int} {ims : List Im} {k : Nat} (hk : k < ims.length) (hn : ∀ j, j < k → linH r skip ims j = false) (hp : linH r skip ims k = true) : linF r skip ims = ((k : Int), firstP r (ims.getD k im0).l, true) := by
  unfold linF
  rw [find_range hk hn hp]
theorem lin_none {r : Sym} {skip : Int} {ims : List Im} (hn : ∀ j, j < ims.length → linH r skip ims j = false) : linF r skip ims = (0, 0, false) := by
  unfold linF
  rw [find_none hn]

def LnP (r : Sym) (skip : Int) (ims : List Im) (w : World) (e : Ending) (w' : World) : Prop :=
  e = .returned (.agg #[.int .i64 (linF r skip ims).1, .int .i64 (linF r skip ims).2.1, .bool (linF r skip ims).2.2]) ∧ Ext w w'
theorem LnP.mk {r : Sym} {skip : Int} {ims : List Im} {w w' : World} {i k : Int} {b : Bool} (h1 : linF r skip ims = (i, k, b)) (hx : Ext w w') : LnP r skip ims w (.returned (.agg #[.int .i64 i, .int .i64 k, .bool b])) w' := ⟨by rw [h1], hx⟩

set_option maxRecDepth 100000 in
set_option maxHeartbeats 6400000 in
theorem linear_any (r : Sym) (skip : Int) (A : Option Addr) (c : Nat) (ims : List Im) (w : World) (h : ImsIn w A ims) :
    Calls Try.prog 26 #[.agg r.vals.toArray, .int .i64 skip, .slice A ims.length c] w (LnP r skip ims w) := by
  have HH := Lib.hid h
  have hil := h.len
  clear h
  have HMT := Lib.hid (fun d ver w' => match_any r d ver w')
  have HFH := Lib.hid (fun l j => firstP_hit (r := r) (l := l) (j := j))
  have HFN := Lib.hid (fun l => firstP_none (r := r) (l := l))
  have HLH := Lib.hid (fun k => lin_hit (r := r) (skip := skip) (ims := ims) (k := k))
  have HLN := Lib.hid (lin_none (r := r) (skip := skip) (ims := ims))
  have HMK := Lib.hid (fun (w' : World) (i k : Int) (b : Bool) => LnP.mk (r := r) (skip := skip) (ims := ims) (w := w) (w' := w') (i := i) (k := k) (b := b))
  have HHB := Lib.hid (fun i => show linH r skip ims i = (decide ((i : Int) ≠ skip) && decide (0 ≤ firstP r (ims.getD i im0).l)) from rfl)
  generalize LnP r skip ims w = PP at *
  generalize linF r skip ims = lf at *
  generalize linH r skip ims = hit at *
  generalize firstP r = fp at *
  generalize matchB r = mb at *
  obtain ⟨rname, rver, rold, rkind, rweak, rvis, rdefd, rval, rsize⟩ := r
  simp only [Sym.vals] at HMT ⊢
  go_enter Try.func26, Try.ntmps26
  go_wp2_with fail
  have hbx := box2 w #[.string rname, .string rver, .bool rold, .int .i64 rkind, .bool rweak, .int .i64 rvis, .bool rdefd, .int .i64 rval, .int .i64 rsize] #[.int .i64 0, .int .i64 0, .bool false] 25 29
  obtain ⟨hb1, hb2, hxb⟩ := hbx
  generalize (w.alloc (.cells #[.string rname, .string rver, .bool rold, .int .i64 rkind, .bool rweak, .int .i64 rvis, .bool rdefd, .int .i64 rval, .int .i64 rsize] 25)).alloc (.cells #[.int .i64 0, .int .i64 0, .bool false] 29) = w1 at *
  have hrl : w.heap.size ≤ w.heap.size + 1 := Nat.le_succ _
  generalize w.heap.size + 1 = rb at *
  have HRL := Lib.hid hrl
  have HX1 := Lib.hid hxb
  have HB1 := Lib.hid hb1
  have HB2 := Lib.hid hb2
  clear hrl hb1 hb2 hxb
  go_loopw [14] (fun i wr => ∃ k : Nat, k ≤ ims.length ∧ i = .int .i64 k ∧ (∀ j, j < k → hit j = false) ∧ Ext w1 wr) (fun i _ => ims.length - (intOf i).toNat)
  case atStart => exact ⟨0, Nat.zero_le _, rfl, fun j hj => absurd hj (by omega), Ext.refl _⟩
  case round =>
    obtain ⟨k, hk, rfl, hn, hx⟩ := hrel
    have HN := Lib.hid hn
    have HX := Lib.hid hx
    clear hn hx
    by_cases hlt : k < ims.length
    · obtain ⟨yb, yo, rfl, hyb, hy⟩ := HH.out.rd.at hlt
      have hgd : ims.getD k im0 = ims[k] := by rw [List.getD_eq_getElem?_getD, List.getElem?_eq_getElem hlt]; rfl
      have hHK := HHB.out k
      rw [hgd] at hHK
      have HXW := Lib.hid (HX1.out.trans HX.out)
      have HIN := Lib.hid ((HH.out.each _ (List.getElem_mem hlt)).ext HXW.out)
      have hI := hy.ext HXW.out
      have HNEXT : Hid (hit k = false → ∀ j, j < k + 1 → hit j = false) := Lib.hid (fun h j hj => by
        rcases Nat.lt_or_ge j k with h1 | h1
        · exact HN.out j h1
        · have : j = k := by omega
          subst this; exact h)
      have HHK := Lib.hid hHK
      have HLK := Lib.hid (HLH.out k hlt HN.out)
      have HGD := Lib.hid hgd
      clear hHK hgd hy
      rw [HGD.out] at HLK
      clear HGD
      generalize ims[k] = m at *
      obtain ⟨d0, d1, d2, d3, d4, SA, sc, l, ⟨BA, bc, bs, WA, wc, ws, sh⟩, d9, d10, d11, d12, d13, d14⟩ := m
      obtain ⟨a0, a1, a2, a3, a4, a5, a6, a7, a8, a9, a10, a11, a12, a13, a14⟩ := hI
      simp only at a0 a1 a2 a3 a4 a5 a6 a7 a8 a9 a10 a11 a12 a13 a14 HHK HLK
      by_cases hsk : (k : Int) = skip
      · have heq : ((k : Int) == skip) = true := by rw [hsk]; exact beq_self_eq_true _
        have HNK : Hid (hit k = false) := Lib.hid (by rw [HHK.out, decide_eq_false (by simp [hsk])]; rfl)
        clear hsk
        go_wp2
        go_roundw
        case rel => exact ⟨k + 1, by omega, by go_num, HNEXT.out HNK.out, HX.out.trans (Ext.alloc _ _)⟩
        case measure => simp [intOf]; omega
      · have heq : ((k : Int) == skip) = false := beq_eq_false_iff_ne.2 hsk
        have HHK3 : Hid (hit k = decide (0 ≤ fp l)) := Lib.hid (by rw [HHK.out, decide_eq_true hsk, Bool.true_and])
        have hll := HIN.out.len
        simp only at hll
        clear hsk
        go_wp2_with fail
        have hbm := Blk.new wr 60 #[.string d0, .int .i64 d1, .slice d2.A d2.n d2.c, .slice d3.A d3.n d3.c, .slice d4.A d4.n d4.c, .slice SA l.length sc, .slice BA bs.length bc, .slice WA ws.length wc, .int .i64 sh, .slice d9.A d9.n d9.c, .slice d10.A d10.n d10.c, .slice d11.A d11.n d11.c, .slice d12.A d12.n d12.c, .slice d13.A d13.n d13.c, .int .i64 d14]
        have hxm := Ext.alloc wr (.cells #[.string d0, .int .i64 d1, .slice d2.A d2.n d2.c, .slice d3.A d3.n d3.c, .slice d4.A d4.n d4.c, .slice SA l.length sc, .slice BA bs.length bc, .slice WA ws.length wc, .int .i64 sh, .slice d9.A d9.n d9.c, .slice d10.A d10.n d10.c, .slice d11.A d11.n d11.c, .slice d12.A d12.n d12.c, .slice d13.A d13.n d13.c, .int .i64 d14] 60)
        generalize wr.alloc (.cells #[.string d0, .int .i64 d1, .slice d2.A d2.n d2.c, .slice d3.A d3.n d3.c, .slice d4.A d4.n d4.c, .slice SA l.length sc, .slice BA bs.length bc, .slice WA ws.length wc, .int .i64 sh, .slice d9.A d9.n d9.c, .slice d10.A d10.n d10.c, .slice d11.A d11.n d11.c, .slice d12.A d12.n d12.c, .slice d13.A d13.n d13.c, .int .i64 d14] 60) = w2 at *
        generalize wr.heap.size = mbk at *
        refine (versioned_any SA sc l w2 (HIN.out.rd.ext hxm) hll).mono ?_
        rintro e w3 ⟨rfl, hx3⟩
        have HX3 := Lib.hid (hxm.trans hx3)
        have hm5 : w3.cell? ⟨mbk, 5, none⟩ = some (.slice SA l.length sc) := hx3.cell (hbm.cell 5 rfl)
        have HFH2 := Lib.hid (HFH.out l)
        have HFN2 := Lib.hid (HFN.out l)
        clear a0 a1 a2 a3 a4 a5 a6 a7 a8 a9 a10 a11 a12 a13 a14 hbm hxm hx3
        generalize verB l = ver at *
        go_wp2_with fail
        clear hm5
        go_loopw [28] (fun i wr => ∃ j : Nat, j ≤ l.length ∧ i = .int .i64 j ∧ (∀ q, q < j → mb (l.getD q sym0) ver = false) ∧ Ext w3 wr) (fun i _ => l.length - (intOf i).toNat)
        case atStart => exact ⟨0, Nat.zero_le _, rfl, fun j hj => absurd hj (by omega), Ext.refl _⟩
        case round =>
          obtain ⟨j, hj, rfl, hn, hx⟩ := hrel
          have HNJ := Lib.hid hn
          have HXJ := Lib.hid hx
          clear hn hx
          by_cases hjl : j < l.length
          · obtain ⟨sb, so, rfl, hsb, hs⟩ := HIN.out.rd.nine hjl
            have hgj : l.getD j sym0 = l[j] := by rw [List.getD_eq_getElem?_getD, List.getElem?_eq_getElem hjl]; rfl
            obtain ⟨s0, s1, s2, s3, s4, s5, s6, s7, s8⟩ := hs.ext (HX3.out.trans HXJ.out)
            have HNX : Hid (mb (l.getD j sym0) ver = false → ∀ q, q < j + 1 → mb (l.getD q sym0) ver = false) := Lib.hid (fun h q hq => by
              rcases Nat.lt_or_ge q j with h1 | h1
              · exact HNJ.out q h1
              · have : q = j := by omega
                subst this; exact h)
            have HHIT := Lib.hid (HFH2.out j hjl HNJ.out)
            rw [hgj] at HNX HHIT
            clear hs hgj
            have HMJ := Lib.hid (fun w' => HMT.out l[j] ver w')
            generalize l[j] = s at *
            obtain ⟨name, ver2, old, kind, weak, vis, defd, val, size⟩ := s
            simp only at s0 s1 s2 s3 s4 s5 s6 s7 s8
            simp only at HMJ
            have hbr := (HX.out.trans (HX3.out.trans HXJ.out)).blk HB1.out
            have hbl := hbr.lt
            obtain ⟨q0, q1, q2, q3, q4, q5, q6, q7, q8⟩ := hbr.nine
            clear hbr
            go_wp2_with fail
            refine (HMJ.out _).mono ?_
            rintro e w6 ⟨rfl, hx6⟩
            have HX6 := Lib.hid ((Ext.alloc _ _).trans hx6)
            clear s0 s1 s2 s3 s4 s5 s6 s7 s8 q0 q1 q2 q3 q4 q5 q6 q7 q8 hbl hx6 hsb
            cases hmm : mb ⟨name, ver2, old, kind, weak, vis, defd, val, size⟩ ver
            · have HM := Lib.hid (HNX.out hmm)
              clear hmm
              go_wp2
              go_roundw
              case rel => exact ⟨j + 1, by omega, by go_num, HM.out, HXJ.out.trans HX6.out⟩
              case measure => simp [intOf]; omega
            · have hfp := HHIT.out hmm
              have HKT : Hid (hit k = true) := Lib.hid (by rw [HHK3.out, hfp, decide_eq_true (by omega)])
              have e1 := HLK.out HKT.out
              rw [hfp] at e1
              have HE1 := Lib.hid e1
              clear hmm hfp e1
              have HXF := Lib.hid (HX.out.trans (HX3.out.trans (HXJ.out.trans HX6.out)))
              have hkr := HXF.out.blk HB2.out
              have r0 : w6.cell? ⟨rb, 0, none⟩ = some (.int .i64 0) := hkr.cell 0 rfl
              have r1 : w6.cell? ⟨rb, 1, none⟩ = some (.int .i64 0) := hkr.cell 1 rfl
              have r2 : w6.cell? ⟨rb, 2, none⟩ = some (.bool false) := hkr.cell 2 rfl
              have z0 := hkr.frozen 0
              have z1 := hkr.frozen 1
              have z2 := hkr.frozen 2
              have HFIN : Hid (PP (.returned (.agg #[.int .i64 (k : Int), .int .i64 (j : Int), .bool true])) (((w6.setCell ⟨rb, 0, none⟩ (.int .i64 (k : Int))).setCell ⟨rb, 1, none⟩ (.int .i64 (j : Int))).setCell ⟨rb, 2, none⟩ (.bool true))) := Lib.hid (by
                refine HMK.out _ _ _ _ HE1.out ?_
                exact Ext.of ((((HX1.out.trans HXF.out).below.setCell HRL.out _).setCell HRL.out _).setCell HRL.out _))
              clear hkr
              go_wp2
              exact bodyPost_ret (v := .agg #[.int .i64 (k : Int), .int .i64 (j : Int), .bool true]) (by simp [results, Try.results26, go_sem, r0, r1, r2]) rfl HFIN.out
          · have HFM : Hid (fp l = -1) := Lib.hid (HFN2.out (fun q hq => HNJ.out q (by omega)))
            have HNK : Hid (hit k = false) := Lib.hid (by rw [HHK3.out, HFM.out]; rfl)
            go_wp2
            go_roundw
            case rel => exact ⟨k + 1, by omega, by go_num, HNEXT.out HNK.out, HX.out.trans (HX3.out.trans HXJ.out)⟩
            case measure => simp [intOf]; omega
    · have hke : k = ims.length := by omega
      subst hke
      have HE1 := Lib.hid (HLN.out HN.out)
      have hkr := HX.out.blk HB2.out
      have r0 : wr.cell? ⟨rb, 0, none⟩ = some (.int .i64 0) := hkr.cell 0 rfl
      have r1 : wr.cell? ⟨rb, 1, none⟩ = some (.int .i64 0) := hkr.cell 1 rfl
      have r2 : wr.cell? ⟨rb, 2, none⟩ = some (.bool false) := hkr.cell 2 rfl
      have z0 := hkr.frozen 0
      have z1 := hkr.frozen 1
      have z2 := hkr.frozen 2
      have HFIN : Hid (PP (.returned (.agg #[.int .i64 0, .int .i64 0, .bool false])) (((wr.setCell ⟨rb, 0, none⟩ (.int .i64 0)).setCell ⟨rb, 1, none⟩ (.int .i64 0)).setCell ⟨rb, 2, none⟩ (.bool false))) := Lib.hid (by
        refine HMK.out _ _ _ _ HE1.out ?_
        exact Ext.of ((((HX1.out.trans HX.out).below.setCell HRL.out _).setCell HRL.out _).setCell HRL.out _))
      clear hkr
      go_wp2
      exact bodyPost_ret (v := .agg #[.int .i64 0, .int .i64 0, .bool false]) (by simp [results, Try.results26, go_sem, r0, r1, r2]) rfl HFIN.out

end Go.Proofs.Ytcjmngonpijeiaa
