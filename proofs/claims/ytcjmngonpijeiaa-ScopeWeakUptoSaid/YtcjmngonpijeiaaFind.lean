/- table.Find: what it finds, and how many names it compares. -/
import Derived.Test.YtcjmngonpijeiaaSymV
import Derived.Test.YtcjmngonpijeiaaSieve6
import Derived.StillTailTactics
import Derived.Deep.RegionLaw
import Derived.Deep.RegionHeld3
import Derived.Deep.DeepCutAuto
namespace Go.Proofs.Ytcjmngonpijeiaa
set_option maxRecDepth 100000
open Go.RowKit Pl
set_option linter.unusedVariables false

/-- does a filter lack a hash: of any filter -/
def lackT (ws : List Nat) (sh : Int) (h : Nat) : Bool := rightB ws.length sh && lacksB sh.toNat ws h

theorem lacks_any (A : Option Addr) (cap : Nat) (sh : Int) (ws : List Nat) (h : Nat) (w : World) (hh : h < 4294967296) (hws : ∀ x ∈ ws, x < 18446744073709551616) (hl : ws.length * 8 ≤ 140737488351232) (hR : Rd w A (u64s ws)) :
    Calls Try.prog 42 #[.agg #[.slice A ws.length cap, .int .i64 sh], .int .u32 h] w fun e w' => e = .returned (.bool (lackT ws sh h)) ∧ Ext w w' := by
  cases hr : rightB ws.length sh
  · refine (lacks_no A ws.length cap sh h w (by unfold maxLen; omega) hr).mono ?_
    rintro e w' ⟨rfl, hb⟩
    exact ⟨by simp [lackT, hr], hb⟩
  · have hbd := rightB_bd hr
    obtain ⟨s, rfl⟩ := Int.eq_ofNat_of_zero_le (by omega : 0 ≤ sh)
    refine (lacks_yes A cap s h ws w hh hws hR hr).mono ?_
    rintro e w' ⟨rfl, hb⟩
    exact ⟨by simp [lackT, hr], hb⟩

theorem rlacks_any (A : Option Addr) (cap : Nat) (sh : Int) (ws : List Nat) (h : Nat) (w : World) (hh : h < 4294967296) (hws : ∀ x ∈ ws, x < 18446744073709551616) (hl : ws.length * 8 ≤ 140737488351232) (hR : Rd w A (u64s ws)) :
    Calls Try.prog 25 #[.agg #[.slice A ws.length cap, .int .i64 sh], .int .u32 h] w fun e w' => e = .returned (.bool (lackT ws sh h)) ∧ Ext w w' := by
  cases hr : rightB ws.length sh
  · refine (refLacks_no A ws.length cap sh h w (by unfold maxLen; omega) hr).mono ?_
    rintro e w' ⟨rfl, hb⟩
    exact ⟨by simp [lackT, hr], hb⟩
  · have hbd := rightB_bd hr
    obtain ⟨s, rfl⟩ := Int.eq_ofNat_of_zero_le (by omega : 0 ≤ sh)
    refine (refLacks_yes A cap s h ws w hh hws hR hr).mono ?_
    rintro e w' ⟨rfl, hb⟩
    exact ⟨by simp [lackT, hr], hb⟩
theorem findL_step (r : Sym) (l : List Sym) (ver : Bool) (is : List Int) (n k : Nat) (x : Int × Nat) (i : Int) (h : x = findL r l ver (is.drop k) n) (hd : is.drop k = i :: is.drop (k + 1)) :
    ((i < 0 ∨ (l.length : Int) ≤ i) → x = findL r l ver (is.drop (k + 1)) n) ∧
    (¬ (i < 0 ∨ (l.length : Int) ≤ i) → matchB r (l.getD i.toNat sym0) ver = true → x = (i, n + 1)) ∧
    (¬ (i < 0 ∨ (l.length : Int) ≤ i) → matchB r (l.getD i.toNat sym0) ver = false → x = findL r l ver (is.drop (k + 1)) (n + 1)) := by
  rw [h, hd]
  refine ⟨fun h1 => ?_, fun h1 h2 => ?_, fun h1 h2 => ?_⟩
  · simp [findL, h1]
  · simp only [findL]; rw [if_neg h1, if_pos h2]
  · simp only [findL]; rw [if_neg h1, if_neg (by rw [h2]; exact Bool.false_ne_true)]

theorem dropI (l : List Int) {k : Nat} (h : k < l.length) : l.drop k = l.getD k 0 :: l.drop (k + 1) := by
  rw [List.getD_eq_getElem?_getD, List.getElem?_eq_getElem h]
  exact List.drop_eq_getElem_cons h

theorem Rd.int {w : World} {A : Option Addr} {ws : List Int} (h : Rd w A (ints ws)) {i : Nat} (hi : i < ws.length) :
    ∃ b off, A = some ⟨b, off, none⟩ ∧ b < w.heap.size ∧ w.cell? ⟨b, off + i, none⟩ = some (.int .i64 (ws.getD i 0)) := by
  obtain ⟨b, off, hA, hc⟩ := h i (by simpa [ints] using hi)
  refine ⟨b, off, hA, cell_lt hc, ?_⟩
  rw [hc, List.getD_eq_getElem?_getD, List.getElem?_eq_getElem hi]
  simp [ints]

theorem Ext.rdy {w w' : World} (hx : Ext w w') {A : Option Addr} {l : List Sym} (h : RdY w A l) : RdY w' A l := h.ext hx

/-- what a region keeps: five cells, and all that was there -/
theorem five_next {W0 w w' : World} {a0 o0 a1 o1 a2 o2 a3 o3 a4 o4 : Nat} {v0 v1 v2 v3 v4 : Value} (h : w.cell? ⟨a0, o0, none⟩ = some v0 ∧ w.cell? ⟨a1, o1, none⟩ = some v1 ∧ w.cell? ⟨a2, o2, none⟩ = some v2 ∧ w.cell? ⟨a3, o3, none⟩ = some v3 ∧ w.cell? ⟨a4, o4, none⟩ = some v4 ∧ Hid (Ext W0 w)) (hb : Ext w w') :
    w'.cell? ⟨a0, o0, none⟩ = some v0 ∧ w'.cell? ⟨a1, o1, none⟩ = some v1 ∧ w'.cell? ⟨a2, o2, none⟩ = some v2 ∧ w'.cell? ⟨a3, o3, none⟩ = some v3 ∧ w'.cell? ⟨a4, o4, none⟩ = some v4 ∧ Hid (Ext W0 w') :=
  ⟨hb.cell h.1, hb.cell h.2.1, hb.cell h.2.2.1, hb.cell h.2.2.2.1, hb.cell h.2.2.2.2.1, Lib.hid (h.2.2.2.2.2.out.trans hb)⟩

/-- a bucket's slice in a table -/
theorem Tb.In.bucket {w : World} {t : Tb} (h : t.In w) {i : Nat} (hi : i < t.bs.length) : ∃ b off, t.BA = some ⟨b, off, none⟩ ∧ w.cell? ⟨b, off + i, none⟩ = some (t.bs.getD i bk0).cell ∧ (t.bs.getD i bk0).In w := by
  obtain ⟨b, off, hA, hc⟩ := h.brd i (by simpa using hi)
  have e : t.bs.getD i bk0 = t.bs[i] := by rw [List.getD_eq_getElem?_getD, List.getElem?_eq_getElem hi]; rfl
  rw [e]
  refine ⟨b, off, hA, ?_, h.bin _ (List.getElem_mem hi)⟩
  rw [hc]; simp

set_option maxRecDepth 100000 in
set_option maxHeartbeats 3200000 in
theorem find_any (t : Tb) (r : Sym) (A : Option Addr) (c : Nat) (l : List Sym) (w : World) (ht : t.In w) (hr : r.Fit) (hA : RdY w A l) (hl : l.length ≤ 140737488351232) (hb : t.bs.length < 4294967296) :
    Calls Try.prog 29 #[.agg t.vals.toArray, .agg r.vals.toArray, .slice A l.length c] w fun e w' => e = .returned (.tuple #[.int .i64 (findP t r l).1, .int .i64 ((findP t r l).2 : Nat)]) ∧ Ext w w' := by
  have hns : r.name.size ≤ maxLen := by have := hr.name; unfold maxLen; omega
  have hhl := hash_lt r.name
  have HT := Lib.hid ht
  have HA := Lib.hid hA
  have HMR := Lib.hid (fun d v w => match_any r d v w)
  obtain ⟨BA, bc, bs, WA, wc, ws, sh⟩ := t
  obtain ⟨rname, rver, rold, rkind, rweak, rvis, rdefd, rval, rsize⟩ := r
  simp only at hb hns hhl
  simp only [Tb.vals, Sym.vals] at HMR ⊢
  have HFP : Hid (findP ⟨BA, bc, bs, WA, wc, ws, sh⟩ ⟨rname, rver, rold, rkind, rweak, rvis, rdefd, rval, rsize⟩ l = if bs.length = 0 ∨ lackT ws sh (hashN rname) = true then (-1, 0) else findL ⟨rname, rver, rold, rkind, rweak, rvis, rdefd, rval, rsize⟩ l (verB l) (bs.getD (hashN rname % bs.length) bk0).is 0) := Lib.hid rfl
  clear ht hA hr
  go_enter Try.func29, Try.ntmps29
  go_wp2_with fail
  have hbx := box2 w #[.slice BA bs.length bc, .slice WA ws.length wc, .int .i64 sh] #[.string rname, .string rver, .bool rold, .int .i64 rkind, .bool rweak, .int .i64 rvis, .bool rdefd, .int .i64 rval, .int .i64 rsize] 55 25
  obtain ⟨hb1, hb2, hxb⟩ := hbx
  generalize (w.alloc (.cells #[.slice BA bs.length bc, .slice WA ws.length wc, .int .i64 sh] 55)).alloc (.cells #[.string rname, .string rver, .bool rold, .int .i64 rkind, .bool rweak, .int .i64 rvis, .bool rdefd, .int .i64 rval, .int .i64 rsize] 25) = wb at *
  have t0 : wb.cell? ⟨w.heap.size, 0, none⟩ = some (.slice BA bs.length bc) := hb1.cell 0 rfl
  have t1 : wb.cell? ⟨w.heap.size, 1, none⟩ = some (.slice WA ws.length wc) := hb1.cell 1 rfl
  have t2 : wb.cell? ⟨w.heap.size, 2, none⟩ = some (.int .i64 sh) := hb1.cell 2 rfl
  have n0 : wb.cell? ⟨w.heap.size + 1, 0, none⟩ = some (.string rname) := hb2.cell 0 rfl
  have HB1 := Lib.hid hb1
  have HB2 := Lib.hid hb2
  have HXB := Lib.hid hxb
  clear hb1 hb2 hxb
  by_cases hz : bs.length = 0
  · rw [if_pos (.inl hz)] at HFP
    obtain rfl := List.length_eq_zero_iff.1 hz
    simp only [List.length_nil] at t0
    refine wp_region_still_tail 10 (by kernel_rfl) (by kernel_rfl) ?_
    simp only [List.take_succ_cons, List.take_zero, List.drop_succ_cons, List.drop_zero]
    repeat still_step
    refine wpStill_nil ?_
    go_wp2
    exact bodyPost_ret (v := .tuple #[.int .i64 (-1), .int .i64 0]) (by simp [results, Try.results29, go_sem]) rfl ⟨by rw [HFP.out]; rfl, HXB.out.trans (Ext.drew _)⟩
  · have hz1 : 1 ≤ bs.length := by omega
    have HLK : Hid (∀ w', Ext wb w' → Calls Try.prog 42 #[.agg #[.slice WA ws.length wc, .int .i64 sh], .int .u32 (hashN rname : Nat)] w' fun e w2 => e = .returned (.bool (lackT ws sh (hashN rname))) ∧ Ext w' w2) :=
      Lib.hid (fun w' hx => lacks_any WA wc sh ws (hashN rname) w' hhl.2 HT.out.wfit HT.out.wlen ((HXB.out.trans hx).rd HT.out.wrd))
    have HHC : Hid (∀ w', Calls Try.prog 43 #[.string rname] w' fun e w2 => e = .returned (.int .u32 (hashN rname : Nat)) ∧ w2 = w') := Lib.hid (fun w' => (hash_any rname w' hns).mono fun e w2 h => ⟨by rw [hhl.1]; exact h.1, h.2.symm⟩)
    have hh2 := hhl.2
    clear hhl
    have hg : ((bs.length : Int) == 0) = false := by simp; exact List.length_pos_iff.1 hz1
    clear hz
    refine wp_region_still_tail 10 (by kernel_rfl) (by kernel_rfl) ?_
    simp only [List.take_succ_cons, List.take_zero, List.drop_succ_cons, List.drop_zero]
    repeat still_step
    still_call (HHC.out _)
    repeat still_step
    refine wpStill_nil ?_
    go_wp2_with fail
    refine (HLK.out _ (Ext.drew _)).mono ?_
    rintro e w3 ⟨rfl, hx3⟩
    have HX3 := Lib.hid (HXB.out.trans ((Ext.drew _).trans hx3))
    cases hlk : lackT ws sh (hashN rname)
    · rw [if_neg (by rw [hlk]; simp; exact List.length_pos_iff.1 hz1)] at HFP
      have hhn : hashN rname % bs.length < bs.length := Nat.mod_lt _ (by omega)
      obtain ⟨bb, bo, hBA, hbc, hbk⟩ := HT.out.bucket (i := hashN rname % bs.length) hhn
      simp only at hBA hbc hbk
      subst hBA
      have HBU : Hid (∀ w', Calls Try.prog 44 #[.agg #[.slice (some ⟨bb, bo, none⟩) bs.length bc, .slice WA ws.length wc, .int .i64 sh], .string rname] w' fun e w2 => e = .returned (.int .i64 (hashN rname % bs.length : Nat)) ∧ Ext w' w2) :=
        Lib.hid (fun w' => bucket_any _ bs.length bc _ _ rname w' (by omega) (by omega) hns)
      generalize hbg : bs.getD (hashN rname % bs.length) bk0 = bk at *
      generalize hashN rname % bs.length = hi at *
      have HBC := Lib.hid hbc
      have HBI := Lib.hid hbk
      have HX4 := Lib.hid ((Ext.drew wb).trans hx3)
      clear hlk hx3 hbc hbk hbg HLK HHC hg HX3
      go_wp2_with fail
      refine (versioned_any A c l w3 ((HXB.out.trans HX4.out).rdy HA.out) hl).mono ?_
      rintro e w5 ⟨rfl, hx5⟩
      replace t0 := hx5.cell (HX4.out.cell t0)
      replace t1 := hx5.cell (HX4.out.cell t1)
      replace t2 := hx5.cell (HX4.out.cell t2)
      replace n0 := hx5.cell (HX4.out.cell n0)
      have HX5 := Lib.hid (HX4.out.trans hx5)
      clear hx5 HX4
      generalize verB l = vl at *
      go_wp2_with fail
      have hbc5 := (HXB.out.trans HX5.out).cell HBC.out
      simp only [Bk.cell] at hbc5
      have hS0 : w5.cell? ⟨w.heap.size, 0, none⟩ = some (.slice (some ⟨bb, bo, none⟩) bs.length bc) ∧ w5.cell? ⟨w.heap.size, 1, none⟩ = some (.slice WA ws.length wc) ∧ w5.cell? ⟨w.heap.size, 2, none⟩ = some (.int .i64 sh) ∧ w5.cell? ⟨w.heap.size + 1, 0, none⟩ = some (.string rname) ∧ w5.cell? ⟨bb, bo + hi, none⟩ = some (.slice bk.A bk.is.length bk.c) ∧ Hid (Ext w5 w5) := ⟨t0, t1, t2, n0, hbc5, Lib.hid (Ext.refl _)⟩
      go_region_held3 (fun w' => w'.cell? ⟨w.heap.size, 0, none⟩ = some (.slice (some ⟨bb, bo, none⟩) bs.length bc) ∧ w'.cell? ⟨w.heap.size, 1, none⟩ = some (.slice WA ws.length wc) ∧ w'.cell? ⟨w.heap.size, 2, none⟩ = some (.int .i64 sh) ∧ w'.cell? ⟨w.heap.size + 1, 0, none⟩ = some (.string rname) ∧ w'.cell? ⟨bb, bo + hi, none⟩ = some (.slice bk.A bk.is.length bk.c) ∧ Hid (Ext w5 w'))
        (first | exact hS0 | exact five_next hS0 (Ext.drew _) | exact five_next (by assumption) (by assumption))
        (first | (go_at_call 44; refine (HBU.out _).mono ?_; rintro e w6 ⟨rfl, hx6⟩))
      obtain ⟨_, _, _, _, hbc, hX5⟩ : w6.cell? ⟨w.heap.size, 0, none⟩ = some (.slice (some ⟨bb, bo, none⟩) bs.length bc) ∧ w6.cell? ⟨w.heap.size, 1, none⟩ = some (.slice WA ws.length wc) ∧ w6.cell? ⟨w.heap.size, 2, none⟩ = some (.int .i64 sh) ∧ w6.cell? ⟨w.heap.size + 1, 0, none⟩ = some (.string rname) ∧ w6.cell? ⟨bb, bo + hi, none⟩ = some (.slice bk.A bk.is.length bk.c) ∧ Hid (Ext w5 w6) := by assumption
      have HX6 := Lib.hid (HX5.out.trans hX5.out)
      have HBI2 := Lib.hid (HBI.out.ext (HXB.out.trans HX6.out))
      have hb2 := HX6.out.blk HB2.out
      have hil : bk.is.length ≤ 17592186044416 := by have := HBI.out.len; omega
      clear hx6 t0 t1 t2 n0
      have HB6 := Lib.hid hb2
      clear hb2
      obtain ⟨KA, kc, is⟩ := bk
      simp only at hbc hil HFP
      go_wp2_with fail
      go_loopw [9, 35] (fun n i wr => ∃ k m : Nat, k ≤ is.length ∧ m ≤ k ∧ i = .int .i64 k ∧ n = .int .i64 m ∧ findL ⟨rname, rver, rold, rkind, rweak, rvis, rdefd, rval, rsize⟩ l vl is 0 = findL ⟨rname, rver, rold, rkind, rweak, rvis, rdefd, rval, rsize⟩ l vl (is.drop k) m ∧ Ext w6 wr) (fun _ i _ => is.length - (intOf i).toNat)
      case atStart => exact ⟨0, 0, Nat.zero_le _, Nat.le_refl _, rfl, rfl, rfl, Ext.refl _⟩
      case round =>
        obtain ⟨k, m, hk, hm, rfl, rfl, hf, hx⟩ := hrel
        have HF := Lib.hid hf
        have HX := Lib.hid hx
        clear hf hx
        by_cases hlt : k < is.length
        · obtain ⟨ib, io, hKA, hib, hic⟩ := HBI2.out.rd.int hlt
          simp only at hKA
          subst hKA
          replace hic := HX.out.cell hic
          obtain ⟨q1, q2, q3⟩ := findL_step ⟨rname, rver, rold, rkind, rweak, rvis, rdefd, rval, rsize⟩ l vl is m k _ _ HF.out (dropI is hlt)
          have hfit := HBI2.out.fit _ (getD_mem (d := 0) hlt)
          generalize is.getD k 0 = x at *
          by_cases hneg : x < 0
          · have HQ := Lib.hid (q1 (.inl hneg))
            clear q1 q2 q3
            go_wp2
            go_roundw
            case rel => exact ⟨k + 1, m, by omega, by omega, by go_num, rfl, HQ.out, HX.out⟩
            case measure => simp [intOf]; omega
          · obtain ⟨j, rfl⟩ := Int.eq_ofNat_of_zero_le (by omega : 0 ≤ x)
            by_cases hge : l.length ≤ j
            · have HQ := Lib.hid (q1 (.inr (by omega)))
              clear q1 q2 q3
              go_wp2
              go_roundw
              case rel => exact ⟨k + 1, m, by omega, by omega, by go_num, rfl, HQ.out, HX.out⟩
              case measure => simp [intOf]; omega
            · have hjl : j < l.length := by omega
              have HQ2 := Lib.hid (q2 (by omega))
              have HQ3 := Lib.hid (q3 (by omega))
              rw [Int.toNat_natCast] at HQ2 HQ3
              clear q1 q2 q3
              obtain ⟨yb, yo, rfl, hyb, hy⟩ := HA.out.nine hjl
              have hgd : l.getD j sym0 = l[j] := by rw [List.getD_eq_getElem?_getD, List.getElem?_eq_getElem hjl]; rfl
              rw [hgd] at HQ2 HQ3
              generalize l[j] = d at *
              have HM := Lib.hid (HMR.out d vl)
              obtain ⟨h0, h1, h2, h3, h4, h5, h6, h7, h8⟩ := hy.ext (HXB.out.trans (HX6.out.trans HX.out))
              obtain ⟨name, ver, old, kind, weak, vis, defd, val, size⟩ := d
              simp only at h0 h1 h2 h3 h4 h5 h6 h7 h8
              simp only at HM
              have hbr := HX.out.blk HB6.out
              have s0 : wr.cell? ⟨w.heap.size + 1, 0, none⟩ = some (.string rname) := hbr.cell 0 rfl
              have s1 : wr.cell? ⟨w.heap.size + 1, 1, none⟩ = some (.string rver) := hbr.cell 1 rfl
              have s2 : wr.cell? ⟨w.heap.size + 1, 2, none⟩ = some (.bool rold) := hbr.cell 2 rfl
              have s3 : wr.cell? ⟨w.heap.size + 1, 3, none⟩ = some (.int .i64 rkind) := hbr.cell 3 rfl
              have s4 : wr.cell? ⟨w.heap.size + 1, 4, none⟩ = some (.bool rweak) := hbr.cell 4 rfl
              have s5 : wr.cell? ⟨w.heap.size + 1, 5, none⟩ = some (.int .i64 rvis) := hbr.cell 5 rfl
              have s6 : wr.cell? ⟨w.heap.size + 1, 6, none⟩ = some (.bool rdefd) := hbr.cell 6 rfl
              have s7 : wr.cell? ⟨w.heap.size + 1, 7, none⟩ = some (.int .i64 rval) := hbr.cell 7 rfl
              have s8 : wr.cell? ⟨w.heap.size + 1, 8, none⟩ = some (.int .i64 rsize) := hbr.cell 8 rfl
              clear hbr hy hgd
              go_wp2_with fail
              refine wp_region_still_tail 6 (by kernel_rfl) (by kernel_rfl) ?_
              simp only [List.take_succ_cons, List.take_zero, List.drop_succ_cons, List.drop_zero]
              repeat still_step
              refine wpStill_nil ?_
              go_wp2_with fail
              refine (HM.out _).mono ?_
              rintro e w7 ⟨rfl, hx7⟩
              have HX7 := Lib.hid (HX.out.trans ((Ext.drew _).trans hx7))
              clear hx7 h0 h1 h2 h3 h4 h5 h6 h7 h8 s0 s1 s2 s3 s4 s5 s6 s7 s8
              cases hmb : matchB ⟨rname, rver, rold, rkind, rweak, rvis, rdefd, rval, rsize⟩ ⟨name, ver, old, kind, weak, vis, defd, val, size⟩ vl
              · have HQ := Lib.hid (HQ3.out hmb)
                clear hmb HQ2 HQ3
                go_wp2
                go_roundw
                case rel => exact ⟨k + 1, m + 1, by omega, by omega, by go_num, by go_num, HQ.out, HX7.out⟩
                case measure => simp [intOf]; omega
              · have HQ := Lib.hid (HQ2.out hmb)
                clear hmb HQ2 HQ3
                go_wp2
                exact bodyPost_ret (v := .tuple #[.int .i64 (j : Int), .int .i64 (m + 1 : Nat)]) (by simp [results, Try.results29, go_sem]) rfl ⟨by rw [HFP.out, HQ.out], HXB.out.trans (HX6.out.trans HX7.out)⟩
        · rw [show is.drop k = [] from List.drop_eq_nil_of_le (by omega)] at HF
          go_wp2
          exact bodyPost_ret (v := .tuple #[.int .i64 (-1), .int .i64 (m : Nat)]) (by simp [results, Try.results29, go_sem]) rfl ⟨by rw [HFP.out, HF.out]; rfl, HXB.out.trans (HX6.out.trans HX.out)⟩
    · rw [if_pos (.inr hlk)] at HFP
      clear hlk hx3
      go_wp2
      exact bodyPost_ret (v := .tuple #[.int .i64 (-1), .int .i64 0]) (by simp [results, Try.results29, go_sem]) rfl ⟨by rw [HFP.out]; rfl, HX3.out⟩

end Go.Proofs.Ytcjmngonpijeiaa
