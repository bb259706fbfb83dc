/- A piece is read as it was written: blocks and raw bytes; all kinds. -/
import Derived.Test.YtjgghahjcmdnmaaSame
namespace Go.Proofs.Ytjgghahjcmdnmaa
open Go.RowKit Pl
set_option linter.unusedVariables false

theorem beq_dec (a b : List UInt8) : (a == b) = decide (a = b) := by rw [Bool.eq_iff_iff]; simp

set_option maxHeartbeats 800000 in
theorem same_block (q : Nat) (st : WS) (A : Option Addr) (cap : Nat) (p : Pc) (w : World) (h : Rst w q st A cap) (hp : p.In w) (k0 : p.kind = 2) (hq : ∀ b o, p.BA = some ⟨b, o, none⟩ → 0 < (u8s p.bs).length → ¬ (b = q)) :
    Calls Try.prog 34 #[.pointer (some ⟨q, 0, none⟩), .agg p.vals.toArray] w fun r w' => r = .returned (.bool (decide ((rpart 4 1048576 st).1 = p.bs))) ∧ ∃ A' cap', Rto q w A w' (rpart 4 1048576 st).2 A' cap' := by
  obtain ⟨kind, size, n, NA, nc, ns, SA, sc, ss, BA, bc, bs⟩ := p
  simp only at k0 hq
  subst k0
  have HP := Lib.hid hp
  have H := Lib.hid h
  have HQ := Lib.hid hq
  have hqs := h.blk.lt
  clear h hp hq
  simp only [Pc.vals]
  obtain ⟨⟨rb, s2⟩, hrp⟩ : ∃ z, rpart 4 1048576 st = z := ⟨_, rfl⟩
  rw [hrp]
  have HRP := Lib.hid hrp
  clear hrp
  go_enter Try.func34, Try.ntmps34
  go_wp2_with fail
  have HBK : Hid (Blk (w.alloc (.cells #[.int .i64 2, .int .i64 size, .int .i64 n, .slice NA ns.length nc, .slice SA ss.length sc, .slice BA bs.length bc] 44)) w.heap.size 44 #[.int .i64 2, .int .i64 size, .int .i64 n, .slice NA ns.length nc, .slice SA ss.length sc, .slice BA bs.length bc]) := Lib.hid (Blk.new _ _ _)
  have HX := Lib.hid (Ext.alloc w (.cells #[.int .i64 2, .int .i64 size, .int .i64 n, .slice NA ns.length nc, .slice SA ss.length sc, .slice BA bs.length bc] 44))
  generalize w.alloc (.cells #[.int .i64 2, .int .i64 size, .int .i64 n, .slice NA ns.length nc, .slice SA ss.length sc, .slice BA bs.length bc] 44) = wb at *
  have b5 : wb.cell? ⟨w.heap.size, 5, none⟩ = some (.slice BA bs.length bc) := HBK.out.cell 5 rfl
  have hrb := HX.out.rd HP.out.br
  have cv0 := conv_bytes wb.drew BA bc bs ((Ext.drew wb).rd hrb)
  have HRB := Lib.hid hrb
  clear hrb
  go_region_law (go_simp; go_at_call 29; refine (rblock_any q st A cap _ ((H.out.ext HX.out).ext (Ext.drew _))).mono ?_; rw [HRP.out]; rintro e w2 ⟨v2, A2, c2, rfl, ho2, h2⟩; obtain ⟨A3, c3, rfl⟩ := own_slice ho2; have d5 := h2.chg.cell ((Ext.drew _).cell b5) (by omega); have cv1 := conv_bytes w2 A3 c3 rb (Rd.of_own ho2); have cv2 := conv_bytes w2 BA bc bs (h2.chg.rdp ((Ext.drew wb).rd HRB.out) HQ.out))
  all_goals
    have H2 := Lib.hid (((Rto.refl H.out).ext (HX.out.trans (Ext.drew _))).trans h2)
    have HD := Lib.hid (beq_dec rb bs)
    clear h2 ho2 d5 cv0 cv1 cv2 b5 HX HRB H
    rw [HD.out]
    clear HD
    go_wp2
    go_ret
    exact ⟨rfl, A2, c2, H2.out⟩

set_option maxHeartbeats 800000 in
theorem same_raw (q : Nat) (st : WS) (A : Option Addr) (cap : Nat) (p : Pc) (w : World) (h : Rst w q st A cap) (hp : p.In w) (k0 : p.kind = 3) (hq : ∀ b o, p.BA = some ⟨b, o, none⟩ → 0 < (u8s p.bs).length → ¬ (b = q)) :
    Calls Try.prog 34 #[.pointer (some ⟨q, 0, none⟩), .agg p.vals.toArray] w fun r w' => r = .returned (.bool (decide ((rraw p.bs.length st).1 = p.bs))) ∧ ∃ A' cap', Rto q w A w' (rraw p.bs.length st).2 A' cap' := by
  obtain ⟨kind, size, n, NA, nc, ns, SA, sc, ss, BA, bc, bs⟩ := p
  simp only at k0 hq
  subst k0
  have HP := Lib.hid hp
  have H := Lib.hid h
  have HQ := Lib.hid hq
  have hqs := h.blk.lt
  have hbl : bs.length ≤ 140737488351232 := hp.bl
  clear h hp hq
  simp only [Pc.vals]
  obtain ⟨⟨rb, s2⟩, hrp⟩ : ∃ z, rraw bs.length st = z := ⟨_, rfl⟩
  rw [hrp]
  have HRP := Lib.hid hrp
  clear hrp
  go_enter Try.func34, Try.ntmps34
  go_wp2_with fail
  have HBK : Hid (Blk (w.alloc (.cells #[.int .i64 3, .int .i64 size, .int .i64 n, .slice NA ns.length nc, .slice SA ss.length sc, .slice BA bs.length bc] 44)) w.heap.size 44 #[.int .i64 3, .int .i64 size, .int .i64 n, .slice NA ns.length nc, .slice SA ss.length sc, .slice BA bs.length bc]) := Lib.hid (Blk.new _ _ _)
  have HX := Lib.hid (Ext.alloc w (.cells #[.int .i64 3, .int .i64 size, .int .i64 n, .slice NA ns.length nc, .slice SA ss.length sc, .slice BA bs.length bc] 44))
  generalize w.alloc (.cells #[.int .i64 3, .int .i64 size, .int .i64 n, .slice NA ns.length nc, .slice SA ss.length sc, .slice BA bs.length bc] 44) = wb at *
  have b5 : wb.cell? ⟨w.heap.size, 5, none⟩ = some (.slice BA bs.length bc) := HBK.out.cell 5 rfl
  have hrb := HX.out.rd HP.out.br
  have cv0 := conv_bytes wb.drew BA bc bs ((Ext.drew wb).rd hrb)
  have HRB := Lib.hid hrb
  clear hrb
  go_region_law (go_simp; go_at_call 31; refine (rraw_any q st A cap bs.length _ ((H.out.ext HX.out).ext (Ext.drew _)) (by omega) (by omega)).mono ?_; rw [HRP.out]; rintro e w2 ⟨v2, A2, c2, rfl, ho2, h2⟩; obtain ⟨A3, c3, rfl⟩ := own_slice ho2; have d5 := h2.chg.cell ((Ext.drew _).cell b5) (by omega); have cv1 := conv_bytes w2 A3 c3 rb (Rd.of_own ho2); have cv2 := conv_bytes w2 BA bc bs (h2.chg.rdp ((Ext.drew wb).rd HRB.out) HQ.out))
  all_goals
    have H2 := Lib.hid (((Rto.refl H.out).ext (HX.out.trans (Ext.drew _))).trans h2)
    have HD := Lib.hid (beq_dec rb bs)
    clear h2 ho2 d5 cv0 cv1 cv2 b5 HX HRB H
    rw [HD.out]
    clear HD
    go_wp2
    go_ret
    exact ⟨rfl, A2, c2, H2.out⟩

theorem same_any (q : Nat) (st : WS) (A : Option Addr) (cap : Nat) (p : Pc) (w : World) (h : Rst w q st A cap) (hp : p.In w) (ha : p.Apart (fun k => k = q)) :
    Calls Try.prog 34 #[.pointer (some ⟨q, 0, none⟩), .agg p.vals.toArray] w fun r w' => r = .returned (.bool (psame st p).1) ∧ ∃ A' cap', Rto q w A w' (psame st p).2 A' cap' := by
  by_cases k0 : p.kind = 0
  · have e : psame st p = numSame p.size st p.ns := by simp [psame, k0]
    rw [e]
    exact same_num q st A cap p w h hp k0 (fun b o e hl => ha.n b o e (by simpa [ints] using hl))
  by_cases k1 : p.kind = 1
  · have e : psame st p = textSame st p.ss := by simp [psame, k1]
    rw [e]
    exact same_text q st A cap p w h hp k1 (fun b o e hl => ha.s b o e (by simpa [strs] using hl))
  by_cases k2 : p.kind = 2
  · have e : psame st p = (decide ((rpart 4 1048576 st).1 = p.bs), (rpart 4 1048576 st).2) := by simp [psame, k2]
    rw [e]
    exact same_block q st A cap p w h hp k2 ha.b
  by_cases k3 : p.kind = 3
  · have e : psame st p = (decide ((rraw p.bs.length st).1 = p.bs), (rraw p.bs.length st).2) := by simp [psame, k3]
    rw [e]
    exact same_raw q st A cap p w h hp k3 ha.b
  · have HR : Hid (psame st p = (true, st)) := Lib.hid (by simp [psame, k0, k1, k2, k3])
    have H := Lib.hid h
    obtain ⟨kind, size, n, NA, nc, ns, SA, sc, ss, BA, bc, bs⟩ := p
    simp only at k0 k1 k2 k3
    simp only [Pc.vals]
    have b0 : (kind == 0) = false := by simp [k0]
    have b1 : (kind == 1) = false := by simp [k1]
    have b2 : (kind == 2) = false := by simp [k2]
    have b3 : (kind == 3) = false := by simp [k3]
    clear k0 k1 k2 k3 h hp ha
    go_enter Try.func34, Try.ntmps34
    go_wp2
    go_ret
    rw [HR.out]
    exact ⟨rfl, A, cap, (Rto.refl H.out).ext (Ext.alloc _ _)⟩

end Go.Proofs.Ytjgghahjcmdnmaa
