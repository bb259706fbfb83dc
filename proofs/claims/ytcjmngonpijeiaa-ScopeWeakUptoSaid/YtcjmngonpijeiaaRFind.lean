/- clevisref08.Find: what it finds, and how many names it compares. -/
import Derived.Test.YtcjmngonpijeiaaFind
namespace Go.Proofs.Ytcjmngonpijeiaa
set_option maxRecDepth 100000
open Go.RowKit Pl
set_option linter.unusedVariables false

set_option maxRecDepth 100000 in
set_option maxHeartbeats 3200000 in
theorem rfind_any (t : Tb) (r : Sym) (A : Option Addr) (c : Nat) (l : List Sym) (w : World) (ht : t.In w) (hr : r.Fit) (hA : RdY w A l) (hl : l.length ≤ 140737488351232) (hb : t.bs.length < 4294967296) :
    Calls Try.prog 30 #[.agg t.vals.toArray, .agg r.vals.toArray, .slice A l.length c] w fun e w' => e = .returned (.tuple #[.int .i64 (findP t r l).1, .int .i64 ((findP t r l).2 : Nat)]) ∧ Ext w w' := by
  have hns : r.name.size ≤ maxLen := by have := hr.name; unfold maxLen; omega
  have hhl := hash_lt r.name
  have HT := Lib.hid ht
  have HA := Lib.hid hA
  have HMR := Lib.hid (fun d v w => rmatch_any r d v w)
  obtain ⟨BA, bc, bs, WA, wc, ws, sh⟩ := t
  obtain ⟨rname, rver, rold, rkind, rweak, rvis, rdefd, rval, rsize⟩ := r
  simp only at hb hns hhl
  simp only [Tb.vals, Sym.vals] at HMR ⊢
  have HFP : Hid (findP ⟨BA, bc, bs, WA, wc, ws, sh⟩ ⟨rname, rver, rold, rkind, rweak, rvis, rdefd, rval, rsize⟩ l = if bs.length = 0 ∨ lackT ws sh (hashN rname) = true then (-1, 0) else findL ⟨rname, rver, rold, rkind, rweak, rvis, rdefd, rval, rsize⟩ l (verB l) (bs.getD (hashN rname % bs.length) bk0).is 0) := Lib.hid rfl
  clear ht hA hr
  go_enter Try.func30, Try.ntmps30
  go_wp2_with fail
  have hbx := box2 w #[.slice BA bs.length bc, .slice WA ws.length wc, .int .i64 sh] #[.string rname, .string rver, .bool rold, .int .i64 rkind, .bool rweak, .int .i64 rvis, .bool rdefd, .int .i64 rval, .int .i64 rsize] 55 25
  obtain ⟨hb1, hb2, hxb⟩ := hbx
  generalize (w.alloc (.cells #[.slice BA bs.length bc, .slice WA ws.length wc, .int .i64 sh] 55)).alloc (.cells #[.string rname, .string rver, .bool rold, .int .i64 rkind, .bool rweak, .int .i64 rvis, .bool rdefd, .int .i64 rval, .int .i64 rsize] 25) = wb at *
  have t0 : wb.cell? ⟨w.heap.size, 0, none⟩ = some (.slice BA bs.length bc) := hb1.cell 0 rfl
  have t1 : wb.cell? ⟨w.heap.size, 1, none⟩ = some (.slice WA ws.length wc) := hb1.cell 1 rfl
  have t2 : wb.cell? ⟨w.heap.size, 2, none⟩ = some (.int .i64 sh) := hb1.cell 2 rfl
  have n0 : wb.cell? ⟨w.heap.size + 1, 0, none⟩ = some (.string rname) := hb2.cell 0 rfl
  have HB1 := Lib.hid hb1
  have HB2 := Lib.hid hb2
  have HXB := Lib.hid hxb
  clear hb1 hb2 hxb
  by_cases hz : bs.length = 0
  · rw [if_pos (.inl hz)] at HFP
    obtain rfl := List.length_eq_zero_iff.1 hz
    simp only [List.length_nil] at t0
    refine wp_region_still_tail 10 (by kernel_rfl) (by kernel_rfl) ?_
    simp only [List.take_succ_cons, List.take_zero, List.drop_succ_cons, List.drop_zero]
    repeat still_step
    refine wpStill_nil ?_
    go_wp2
    exact bodyPost_ret (v := .tuple #[.int .i64 (-1), .int .i64 0]) (by simp [results, Try.results30, go_sem]) rfl ⟨by rw [HFP.out]; rfl, HXB.out.trans (Ext.drew _)⟩
  · have hz1 : 1 ≤ bs.length := by omega
    have HLK : Hid (∀ w', Ext wb w' → Calls Try.prog 25 #[.agg #[.slice WA ws.length wc, .int .i64 sh], .int .u32 (hashN rname : Nat)] w' fun e w2 => e = .returned (.bool (lackT ws sh (hashN rname))) ∧ Ext w' w2) :=
      Lib.hid (fun w' hx => rlacks_any WA wc sh ws (hashN rname) w' hhl.2 HT.out.wfit HT.out.wlen ((HXB.out.trans hx).rd HT.out.wrd))
    have HHC : Hid (∀ w', Calls Try.prog 23 #[.string rname] w' fun e w2 => e = .returned (.int .u32 (hashN rname : Nat)) ∧ w2 = w') := Lib.hid (fun w' => (refHash_any rname w' hns).mono fun e w2 h => ⟨by rw [hhl.1]; exact h.1, h.2.symm⟩)
    have hh2 := hhl.2
    clear hhl
    have hg : ((bs.length : Int) == 0) = false := by simp; exact List.length_pos_iff.1 hz1
    clear hz
    refine wp_region_still_tail 10 (by kernel_rfl) (by kernel_rfl) ?_
    simp only [List.take_succ_cons, List.take_zero, List.drop_succ_cons, List.drop_zero]
    repeat still_step
    still_call (HHC.out _)
    repeat still_step
    refine wpStill_nil ?_
    go_wp2_with fail
    refine (HLK.out _ (Ext.drew _)).mono ?_
    rintro e w3 ⟨rfl, hx3⟩
    have HX3 := Lib.hid (HXB.out.trans ((Ext.drew _).trans hx3))
    cases hlk : lackT ws sh (hashN rname)
    · rw [if_neg (by rw [hlk]; simp; exact List.length_pos_iff.1 hz1)] at HFP
      have hhn : hashN rname % bs.length < bs.length := Nat.mod_lt _ (by omega)
      obtain ⟨bb, bo, hBA, hbc, hbk⟩ := HT.out.bucket (i := hashN rname % bs.length) hhn
      simp only at hBA hbc hbk
      subst hBA
      have HBU : Hid (∀ w', Calls Try.prog 45 #[.string rname, .int .i64 bs.length] w' fun e w2 => e = .returned (.int .i64 (hashN rname % bs.length : Nat)) ∧ w2 = w') :=
        Lib.hid (fun w' => (home_any bs.length rname w' (by omega) (by omega) hns).mono fun e w2 h => ⟨h.1, h.2.symm⟩)
      generalize hbg : bs.getD (hashN rname % bs.length) bk0 = bk at *
      generalize hashN rname % bs.length = hi at *
      have HBC := Lib.hid hbc
      have HBI := Lib.hid hbk
      have HX4 := Lib.hid ((Ext.drew wb).trans hx3)
      clear hlk hx3 hbc hbk hbg HLK HHC hg HX3
      have HVC : Hid (∀ w', Ext wb w' → Calls Try.prog 33 #[.slice A l.length c] w' fun e w2 => e = .returned (.bool (verB l)) ∧ w2 = w') :=
        Lib.hid (fun w' hx => (rversioned_any A c l w' ((HXB.out.trans hx).rdy HA.out) hl).mono fun e w2 h => ⟨h.1, h.2.symm⟩)
      generalize verB l = vl at *
      go_wp2_with fail
      replace t0 := HX4.out.cell t0
      replace n0 := HX4.out.cell n0
      have hbc := (HXB.out.trans HX4.out).cell HBC.out
      simp only [Bk.cell] at hbc
      have hhi : ((hi : Nat) : Int).toNat = hi := Int.toNat_natCast _
      go_quiet ((go_at_call 45; exact Calls.quiet_of_same (HBU.out _)))
      have HX6 := Lib.hid (HX4.out.trans (Ext.drewN w3 nq))
      clear hhi HX4
      generalize w3.drewN nq = w6 at *
      have HBI2 := Lib.hid (HBI.out.ext (HXB.out.trans HX6.out))
      have hb2 := HX6.out.blk HB2.out
      have hil : bk.is.length ≤ 17592186044416 := by have := HBI.out.len; omega
      clear t0 t1 t2 n0 hbc
      have HB6 := Lib.hid hb2
      clear hb2
      obtain ⟨KA, kc, is⟩ := bk
      simp only at hil HFP
      simp only
      go_wp2_with fail
      go_loopw [9, 10] (fun n i wr => ∃ k m : Nat, k ≤ is.length ∧ m ≤ k ∧ i = .int .i64 k ∧ n = .int .i64 m ∧ findL ⟨rname, rver, rold, rkind, rweak, rvis, rdefd, rval, rsize⟩ l vl is 0 = findL ⟨rname, rver, rold, rkind, rweak, rvis, rdefd, rval, rsize⟩ l vl (is.drop k) m ∧ Ext w6 wr) (fun _ i _ => is.length - (intOf i).toNat)
      case atStart => exact ⟨0, 0, Nat.zero_le _, Nat.le_refl _, rfl, rfl, rfl, Ext.refl _⟩
      case round =>
        obtain ⟨k, m, hk, hm, rfl, rfl, hf, hx⟩ := hrel
        have HF := Lib.hid hf
        have HX := Lib.hid hx
        clear hf hx
        by_cases hlt : k < is.length
        · obtain ⟨ib, io, hKA, hib, hic⟩ := HBI2.out.rd.int hlt
          simp only at hKA
          subst hKA
          replace hic := HX.out.cell hic
          obtain ⟨q1, q2, q3⟩ := findL_step ⟨rname, rver, rold, rkind, rweak, rvis, rdefd, rval, rsize⟩ l vl is m k _ _ HF.out (dropI is hlt)
          have hfit := HBI2.out.fit _ (getD_mem (d := 0) hlt)
          generalize is.getD k 0 = x at *
          by_cases hneg : x < 0
          · have HQ := Lib.hid (q1 (.inl hneg))
            clear q1 q2 q3
            go_wp2
            go_roundw
            case rel => exact ⟨k + 1, m, by omega, by omega, by go_num, rfl, HQ.out, HX.out⟩
            case measure => simp [intOf]; omega
          · obtain ⟨j, rfl⟩ := Int.eq_ofNat_of_zero_le (by omega : 0 ≤ x)
            by_cases hge : l.length ≤ j
            · have HQ := Lib.hid (q1 (.inr (by omega)))
              clear q1 q2 q3
              go_wp2
              go_roundw
              case rel => exact ⟨k + 1, m, by omega, by omega, by go_num, rfl, HQ.out, HX.out⟩
              case measure => simp [intOf]; omega
            · have hjl : j < l.length := by omega
              have HQ2 := Lib.hid (q2 (by omega))
              have HQ3 := Lib.hid (q3 (by omega))
              rw [Int.toNat_natCast] at HQ2 HQ3
              clear q1 q2 q3
              obtain ⟨yb, yo, rfl, hyb, hy⟩ := HA.out.nine hjl
              have hgd : l.getD j sym0 = l[j] := by rw [List.getD_eq_getElem?_getD, List.getElem?_eq_getElem hjl]; rfl
              rw [hgd] at HQ2 HQ3
              generalize l[j] = d at *
              have HM := Lib.hid (HMR.out d vl)
              obtain ⟨h0, h1, h2, h3, h4, h5, h6, h7, h8⟩ := hy.ext (HXB.out.trans (HX6.out.trans HX.out))
              obtain ⟨name, ver, old, kind, weak, vis, defd, val, size⟩ := d
              simp only at h0 h1 h2 h3 h4 h5 h6 h7 h8
              simp only at HM
              have hbr := HX.out.blk HB6.out
              have s0 : wr.cell? ⟨w.heap.size + 1, 0, none⟩ = some (.string rname) := hbr.cell 0 rfl
              have s1 : wr.cell? ⟨w.heap.size + 1, 1, none⟩ = some (.string rver) := hbr.cell 1 rfl
              have s2 : wr.cell? ⟨w.heap.size + 1, 2, none⟩ = some (.bool rold) := hbr.cell 2 rfl
              have s3 : wr.cell? ⟨w.heap.size + 1, 3, none⟩ = some (.int .i64 rkind) := hbr.cell 3 rfl
              have s4 : wr.cell? ⟨w.heap.size + 1, 4, none⟩ = some (.bool rweak) := hbr.cell 4 rfl
              have s5 : wr.cell? ⟨w.heap.size + 1, 5, none⟩ = some (.int .i64 rvis) := hbr.cell 5 rfl
              have s6 : wr.cell? ⟨w.heap.size + 1, 6, none⟩ = some (.bool rdefd) := hbr.cell 6 rfl
              have s7 : wr.cell? ⟨w.heap.size + 1, 7, none⟩ = some (.int .i64 rval) := hbr.cell 7 rfl
              have s8 : wr.cell? ⟨w.heap.size + 1, 8, none⟩ = some (.int .i64 rsize) := hbr.cell 8 rfl
              clear hbr hy hgd
              go_wp2_with fail
              refine wp_region_still_tail 10 (by kernel_rfl) (by kernel_rfl) ?_
              simp only [List.take_succ_cons, List.take_zero, List.drop_succ_cons, List.drop_zero]
              repeat still_step
              still_call (HVC.out _ (HX6.out.trans (HX.out.trans (Ext.drew _))))
              repeat still_step
              refine wpStill_nil ?_
              go_wp2_with fail
              refine (HM.out _).mono ?_
              rintro e w7 ⟨rfl, hx7⟩
              have HX7 := Lib.hid (HX.out.trans ((Ext.drew _).trans hx7))
              replace hic := ((Ext.drew _).trans hx7).cell hic
              clear hx7 h0 h1 h2 h3 h4 h5 h6 h7 h8 s0 s1 s2 s3 s4 s5 s6 s7 s8
              cases hmb : matchB ⟨rname, rver, rold, rkind, rweak, rvis, rdefd, rval, rsize⟩ ⟨name, ver, old, kind, weak, vis, defd, val, size⟩ vl
              · have HQ := Lib.hid (HQ3.out hmb)
                clear hmb HQ2 HQ3
                go_wp2
                go_roundw
                case rel => exact ⟨k + 1, m + 1, by omega, by omega, by go_num, by go_num, HQ.out, HX7.out⟩
                case measure => simp [intOf]; omega
              · have HQ := Lib.hid (HQ2.out hmb)
                clear hmb HQ2 HQ3
                go_wp2
                exact bodyPost_ret (v := .tuple #[.int .i64 (j : Int), .int .i64 (m + 1 : Nat)]) (by simp [results, Try.results30, go_sem]) rfl ⟨by rw [HFP.out, HQ.out], HXB.out.trans (HX6.out.trans HX7.out)⟩
        · rw [show is.drop k = [] from List.drop_eq_nil_of_le (by omega)] at HF
          go_wp2
          exact bodyPost_ret (v := .tuple #[.int .i64 (-1), .int .i64 (m : Nat)]) (by simp [results, Try.results30, go_sem]) rfl ⟨by rw [HFP.out, HF.out]; rfl, HXB.out.trans (HX6.out.trans HX.out)⟩
    · rw [if_pos (.inr hlk)] at HFP
      clear hlk hx3
      go_wp2
      exact bodyPost_ret (v := .tuple #[.int .i64 (-1), .int .i64 0]) (by simp [results, Try.results30, go_sem]) rfl ⟨by rw [HFP.out]; rfl, HX3.out⟩

end Go.Proofs.Ytcjmngonpijeiaa
