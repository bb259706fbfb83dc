/- A piece is read as it was written. -/
import Derived.Test.YtjgghahjcmdnmaaPut
import Derived.Test.YtjgghahjcmdnmaaStr
import Derived.Deep.RegionHeld3
namespace Go.Proofs.Ytjgghahjcmdnmaa
open Go.RowKit Pl
set_option linter.unusedVariables false

def numSame (size : Int) : WS → List Int → Bool × WS
  | st, [] => (true, st)
  | st, n :: r => if (rnum size st).1 = n then numSame size (rnum size st).2 r else (false, (rnum size st).2)
def textSame : WS → List ByteArray → Bool × WS
  | st, [] => (true, st)
  | st, s :: r => if (⟨(rpart 2 4096 st).1.toArray⟩ : ByteArray) = s then textSame (rpart 2 4096 st).2 r else (false, (rpart 2 4096 st).2)
def psame (st : WS) (p : Pc) : Bool × WS :=
  if p.kind = 0 then numSame p.size st p.ns else if p.kind = 1 then textSame st p.ss
  else if p.kind = 2 then (decide ((rpart 4 1048576 st).1 = p.bs), (rpart 4 1048576 st).2)
  else if p.kind = 3 then (decide ((rraw p.bs.length st).1 = p.bs), (rraw p.bs.length st).2) else (true, st)

theorem drop_cons (l : List Int) {k : Nat} (h : k < l.length) : l.drop k = l.getD k 0 :: l.drop (k + 1) := by
  rw [List.getD_eq_getElem?_getD, List.getElem?_eq_getElem h]
  exact List.drop_eq_getElem_cons h

theorem numSame_step (size : Int) (st s1 : WS) (ns : List Int) (m : Int) (k : Nat) (h : numSame size st ns = numSame size s1 (ns.drop k)) (hd : ns.drop k = m :: ns.drop (k + 1)) :
    ((rnum size s1).1 = m → numSame size st ns = numSame size (rnum size s1).2 (ns.drop (k + 1))) ∧ ((rnum size s1).1 ≠ m → numSame size st ns = (false, (rnum size s1).2)) := by
  rw [h, hd]
  constructor
  · intro hm; simp [numSame, hm]
  · intro hm; simp [numSame, hm]

theorem same_num (q : Nat) (st : WS) (A : Option Addr) (cap : Nat) (p : Pc) (w : World) (h : Rst w q st A cap) (hp : p.In w) (k0 : p.kind = 0) (hq : ∀ b o, p.NA = some ⟨b, o, none⟩ → 0 < p.ns.length → b ≠ q) :
    Calls Try.prog 34 #[.pointer (some ⟨q, 0, none⟩), .agg p.vals.toArray] w fun r w' => r = .returned (.bool (numSame p.size st p.ns).1) ∧ ∃ A' cap', Rto q w A w' (numSame p.size st p.ns).2 A' cap' := by
  obtain ⟨kind, size, n, NA, nc, ns, SA, sc, ss, BA, bc, bs⟩ := p
  simp only at k0 hq
  subst k0
  have HP := Lib.hid hp
  have H := Lib.hid h
  have hl63 : ns.length ≤ 9223372036854775807 := by have := hp.nl; simp only at this; omega
  have hqs := h.blk.lt
  clear h hp
  simp only [Pc.vals]
  go_enter Try.func34, Try.ntmps34
  go_wp2_with fail
  go_loopw [5] (fun i wr => ∃ (k : Nat) (s1 : WS) (A1 : Option Addr) (c1 : Nat), k ≤ ns.length ∧ i = .int .i64 k ∧ Rto q w A wr s1 A1 c1 ∧ numSame size st ns = numSame size s1 (ns.drop k) ∧
    Blk wr w.heap.size 44 #[.int .i64 0, .int .i64 size, .int .i64 n, .slice NA ns.length nc, .slice SA ss.length sc, .slice BA bs.length bc]) (fun i _ => ns.length - (intOf i).toNat)
  case atStart => exact ⟨0, st, A, cap, Nat.zero_le _, rfl, (Rto.refl H.out).ext (Ext.alloc _ _), rfl, Blk.new _ _ _⟩
  case round =>
    obtain ⟨k, s1, A1, c1, hk, rfl, hto, hsm, hbx⟩ := hrel
    have b1 : wr.cell? ⟨w.heap.size, 1, none⟩ = some (.int .i64 size) := hbx.cell 1 rfl
    have b3 : wr.cell? ⟨w.heap.size, 3, none⟩ = some (.slice NA ns.length nc) := hbx.cell 3 rfl
    have HTO := Lib.hid hto
    have HBX := Lib.hid hbx
    have HSM := Lib.hid hsm
    clear hto hbx hsm
    by_cases hlt : k < ns.length
    · obtain ⟨b, off, rfl, hb, hc⟩ := HP.out.nr.int hlt
      have hbq : b ≠ q := hq b off rfl (by omega)
      replace hc := HTO.out.chg.cell hc hbq
      have HD := Lib.hid (drop_cons ns hlt)
      generalize ns.getD k 0 = m at *
      go_wp2_with fail
      go_region_law (go_simp; go_at_call 17; refine (rnum_any q s1 A1 c1 size _ (HTO.out.st.ext (Ext.drew _)) HP.out.size).mono ?_; rintro e w2 ⟨rfl, A2, c2, h2⟩; have d1 := h2.chg.cell ((Ext.drew _).cell b3) (by omega); have d2 := h2.chg.cell ((Ext.drew _).cell hc) hbq)
      all_goals
        have H2 := Lib.hid ((HTO.out.ext (Ext.drew _)).trans h2)
        have HB2 := Lib.hid (h2.chg.blk ((Ext.drew _).blk HBX.out) (by omega))
        have HQ := Lib.hid (numSame_step size st s1 ns m k HSM.out HD.out)
        clear h2 d1 d2 HTO HBX HSM HD b1 b3 hc
        by_cases hm : (rnum size s1).1 = m
        · have hm' : ((rnum size s1).1 != m) = false := by simp [hm]
          have HQ1 := Lib.hid (HQ.out.1 hm)
          rw [hm']
          clear hm hm' HQ
          go_wp2
          go_roundw
          case rel => exact ⟨k + 1, _, A2, c2, by omega, by go_num, H2.out, HQ1.out, HB2.out⟩
          case measure => simp [intOf]; omega
        · have hm' : ((rnum size s1).1 != m) = true := by simp [hm]
          have HQ1 := Lib.hid (HQ.out.2 hm)
          rw [hm']
          clear hm hm' HQ
          go_wp2
          go_ret
          rw [HQ1.out]
          exact ⟨rfl, A2, c2, H2.out⟩
    · rw [show ns.drop k = [] from List.drop_eq_nil_of_le (by omega)] at HSM
      go_wp2
      go_ret
      rw [HSM.out]
      exact ⟨rfl, A1, c1, HTO.out⟩

theorem drop_consS (l : List ByteArray) {k : Nat} (h : k < l.length) : l.drop k = l.getD k default :: l.drop (k + 1) := by
  rw [List.getD_eq_getElem?_getD, List.getElem?_eq_getElem h]
  exact List.drop_eq_getElem_cons h

theorem textSame_step (st s1 : WS) (ns : List ByteArray) (m : ByteArray) (k : Nat) (h : textSame st ns = textSame s1 (ns.drop k)) (hd : ns.drop k = m :: ns.drop (k + 1)) :
    ((⟨(rpart 2 4096 s1).1.toArray⟩ : ByteArray) = m → textSame st ns = textSame (rpart 2 4096 s1).2 (ns.drop (k + 1))) ∧ ((⟨(rpart 2 4096 s1).1.toArray⟩ : ByteArray) ≠ m → textSame st ns = (false, (rpart 2 4096 s1).2)) := by
  rw [h, hd]
  constructor
  · intro hm; simp [textSame, hm]
  · intro hm; simp [textSame, hm]

theorem same_text (q : Nat) (st : WS) (A : Option Addr) (cap : Nat) (p : Pc) (w : World) (h : Rst w q st A cap) (hp : p.In w) (k0 : p.kind = 1) (hq : ∀ b o, p.SA = some ⟨b, o, none⟩ → 0 < p.ss.length → b ≠ q) :
    Calls Try.prog 34 #[.pointer (some ⟨q, 0, none⟩), .agg p.vals.toArray] w fun r w' => r = .returned (.bool (textSame st p.ss).1) ∧ ∃ A' cap', Rto q w A w' (textSame st p.ss).2 A' cap' := by
  obtain ⟨kind, size, n, NA, nc, ns, SA, sc, ss, BA, bc, bs⟩ := p
  simp only at k0 hq
  subst k0
  have HP := Lib.hid hp
  have H := Lib.hid h
  have hl63 : ss.length ≤ 9223372036854775807 := by have := hp.sl; simp only at this; omega
  have hqs := h.blk.lt
  clear h hp
  simp only [Pc.vals]
  go_enter Try.func34, Try.ntmps34
  go_wp2_with fail
  go_loopw [6] (fun i wr => ∃ (k : Nat) (s1 : WS) (A1 : Option Addr) (c1 : Nat), k ≤ ss.length ∧ i = .int .i64 k ∧ Rto q w A wr s1 A1 c1 ∧ textSame st ss = textSame s1 (ss.drop k) ∧
    Blk wr w.heap.size 44 #[.int .i64 1, .int .i64 size, .int .i64 n, .slice NA ns.length nc, .slice SA ss.length sc, .slice BA bs.length bc]) (fun i _ => ss.length - (intOf i).toNat)
  case atStart => exact ⟨0, st, A, cap, Nat.zero_le _, rfl, (Rto.refl H.out).ext (Ext.alloc _ _), rfl, Blk.new _ _ _⟩
  case round =>
    obtain ⟨k, s1, A1, c1, hk, rfl, hto, hsm, hbx⟩ := hrel
    have b3 : wr.cell? ⟨w.heap.size, 4, none⟩ = some (.slice SA ss.length sc) := hbx.cell 4 rfl
    have HTO := Lib.hid hto
    have HBX := Lib.hid hbx
    have HSM := Lib.hid hsm
    clear hto hbx hsm
    by_cases hlt : k < ss.length
    · obtain ⟨b, off, rfl, hb, hc⟩ := HP.out.sr.str hlt
      have hbq : b ≠ q := hq b off rfl (by omega)
      replace hc := HTO.out.chg.cell hc hbq
      have HD := Lib.hid (drop_consS ss hlt)
      generalize ss.getD k default = m at *
      have HQ := Lib.hid (textSame_step st s1 ss m k HSM.out HD.out)
      go_wp2_with fail
      go_region_law (go_simp; go_at_call 28; refine (rtext_any q s1 A1 c1 _ (HTO.out.st.ext (Ext.drew _))).mono ?_; rintro e w2 ⟨rfl, A2, c2, h2⟩; have d1 := h2.chg.cell ((Ext.drew _).cell b3) (by omega); have d2 := h2.chg.cell ((Ext.drew _).cell hc) hbq; generalize (⟨(rpart 2 4096 s1).1.toArray⟩ : ByteArray) = tx at *)
      all_goals
        have H2 := Lib.hid ((HTO.out.ext (Ext.drew _)).trans h2)
        have HB2 := Lib.hid (h2.chg.blk ((Ext.drew _).blk HBX.out) (by omega))
        rw [toList_eq]
        clear h2 d1 d2 HTO HBX HSM HD b3 hc
        by_cases hm : tx = m
        · have HQ1 := Lib.hid (HQ.out.1 hm)
          rw [decide_eq_true hm]
          clear hm HQ
          go_wp2
          go_roundw
          case rel => exact ⟨k + 1, _, A2, c2, by omega, by go_num, H2.out, HQ1.out, HB2.out⟩
          case measure => simp [intOf]; omega
        · have HQ1 := Lib.hid (HQ.out.2 hm)
          rw [decide_eq_false hm]
          clear hm HQ
          go_wp2
          go_ret
          rw [HQ1.out]
          exact ⟨rfl, A2, c2, H2.out⟩
    · rw [show ss.drop k = [] from List.drop_eq_nil_of_le (by omega)] at HSM
      go_wp2
      go_ret
      rw [HSM.out]
      exact ⟨rfl, A1, c1, HTO.out⟩

end Go.Proofs.Ytjgghahjcmdnmaa
