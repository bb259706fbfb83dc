/- clevisref08.Right: whether a table is right, by the document: the walk. -/
import Derived.Test.YtcjmngonpijeiaaRightP
import Derived.Test.YtcjmngonpijeiaaSeen8
import Derived.Test.YtcjmngonpijeiaaStnd
import Derived.Test.YtcjmngonpijeiaaLawLoad
namespace Go.Proofs.Ytcjmngonpijeiaa
set_option maxRecDepth 100000
open Go.RowKit Pl
set_option linter.unusedVariables false

theorem incB_take : ∀ (is : List Int) (k : Nat), k + 1 < is.length → incB (is.take (k + 2)) = (incB (is.take (k + 1)) && decide (is.getD k 0 < is.getD (k + 1) 0))
  | [], k, h => by simp at h
  | [a], k, h => by simp at h
  | a :: b :: r, 0, h => by simp [incB]
  | a :: b :: r, k + 1, h => by
    have ih := incB_take (b :: r) k (by simp at h ⊢; omega)
    have e1 : (a :: b :: r).take (k + 1 + 2) = a :: (b :: r).take (k + 2) := rfl
    have e2 : (a :: b :: r).take (k + 1 + 1) = a :: (b :: r).take (k + 1) := rfl
    have e3 : ∀ m, (b :: r).take (m + 1) = b :: r.take m := fun m => rfl
    rw [e1, e2, e3 (k + 1), e3 k]
    rw [e3 (k + 1), e3 k] at ih
    simp only [incB, ih, List.getD_cons_succ, Bool.and_assoc]

theorem inc_false : ∀ (is : List Int) (k : Nat), incB (is.take k) = false → incB is = false
  | is, k, h => by
    cases hq : incB is with
    | false => rfl
    | true =>
      exfalso
      have : ∀ (xs : List Int) (k : Nat), incB xs = true → incB (xs.take k) = true := by
        intro xs
        induction xs with
        | nil => intro k _; simp [incB]
        | cons a r ih =>
          intro k hx
          match k with
          | 0 => rfl
          | k + 1 =>
            have h1 := ih k (incB_tail hx)
            have h2 := incB_gt hx
            show incB (a :: r.take k) = true
            cases ht : r.take k with
            | nil => rfl
            | cons y q =>
              rw [ht] at h1
              have := h2 y (List.mem_of_mem_take (i := k) (by rw [ht]; exact List.mem_cons_self ..))
              simp only [incB, Bool.and_eq_true, decide_eq_true_eq]
              exact ⟨this, h1⟩
      rw [this is k hq] at h
      cases h

theorem RfP.no {t : Tb} {l : List Sym} {w w' : World} (h : refR t l = false) (hx : Ext w w') : (Ending.returned (.bool false) = .returned (.bool (refR t l))) ∧ Ext w w' := ⟨by rw [h], hx⟩

set_option maxRecDepth 100000 in
set_option maxHeartbeats 6400000 in
theorem rright_any (t : Tb) (A : Option Addr) (c : Nat) (l : List Sym) (w : World) (ht : t.In w) (hA : RdY w A l) (hf : ∀ s ∈ l, s.Fit) (hl : l.length ≤ 140737488351232) :
    Calls Try.prog 31 #[.agg t.vals.toArray, .slice A l.length c] w fun e w' => e = .returned (.bool (refR t l)) ∧ Ext w w' := by
  have HT := Lib.hid ht
  have HA := Lib.hid hA
  have HF := Lib.hid hf
  have hbl24 := ht.blen
  have hwl8 := ht.wlen
  have HGI : Hid (∀ i, goodI t l i = (decide ((t.bs.getD (hashN (l.getD i sym0).name % t.bs.length) bk0).is.count (i : Int) = 1) && !lackT t.ws t.sh (hashN (l.getD i sym0).name))) := Lib.hid (fun i => rfl)
  have HR : Hid (refR t l = (decide (l.length ≤ 512) && decide (1 ≤ t.bs.length) && decide (t.bs.length ≤ 512) && rightB t.ws.length t.sh && t.bs.all (fun k => incB k.is) && (seenI l).all (goodI t l) && decide (total t.bs = (seenI l).length))) := Lib.hid rfl
  clear ht hA hf
  generalize refR t l = rf at *
  generalize goodI t l = gi at *
  obtain ⟨BA, bc, bs, WA, wc, ws, sh⟩ := t
  simp only at hbl24 hwl8 HGI HR
  simp only [Tb.vals]
  go_enter Try.func31, Try.ntmps31
  by_cases h512 : 512 < l.length
  · have HN : Hid (rf = false) := Lib.hid (by rw [HR.out, decide_eq_false (by omega : ¬ l.length ≤ 512)]; simp)
    go_wp2
    go_ret
    exact ⟨retv (by rw [HN.out]; rfl), Ext.alloc _ _⟩
  by_cases hb1 : bs.length < 1
  · have HN : Hid (rf = false) := Lib.hid (by rw [HR.out, decide_eq_false (by omega : ¬ 1 ≤ bs.length)]; simp)
    go_wp2
    go_ret
    exact ⟨retv (by rw [HN.out]; rfl), Ext.alloc _ _⟩
  by_cases hb5 : 512 < bs.length
  · have HN : Hid (rf = false) := Lib.hid (by rw [HR.out, decide_eq_false (by omega : ¬ bs.length ≤ 512)]; simp)
    go_wp2
    go_ret
    exact ⟨retv (by rw [HN.out]; rfl), Ext.alloc _ _⟩
  have hb2 : bs.length ≤ 512 := by omega
  go_wp2_with fail
  have hbx : Blk (w.alloc (.cells #[.slice BA bs.length bc, .slice WA ws.length wc, .int .i64 sh] 55)) w.heap.size 55 #[.slice BA bs.length bc, .slice WA ws.length wc, .int .i64 sh] := Blk.new _ _ _
  have hxb := Ext.alloc w (.cells #[.slice BA bs.length bc, .slice WA ws.length wc, .int .i64 sh] 55)
  generalize w.alloc (.cells #[.slice BA bs.length bc, .slice WA ws.length wc, .int .i64 sh] 55) = wb at *
  generalize w.heap.size = tb at *
  refine (refRight_any WA ws.length wc sh wb (by unfold maxLen; omega)).mono ?_
  rintro e w2 ⟨rfl, hx2⟩
  have hx2' : Ext wb w2 := hx2
  have HB2 := Lib.hid (hx2'.blk hbx)
  have HX2 := Lib.hid (hxb.trans hx2')
  clear hbx hxb hx2 hx2'
  cases hrt : rightB ws.length sh
  · have HN : Hid (rf = false) := Lib.hid (by rw [HR.out, hrt]; simp)
    clear hrt
    go_wp2
    go_ret
    exact ⟨retv (by rw [HN.out]; rfl), HX2.out⟩
  have HR2 : Hid (rf = (bs.all (fun k => incB k.is) && (seenI l).all gi && decide (total bs = (seenI l).length))) := Lib.hid (by
    rw [HR.out, hrt, decide_eq_true (by omega : l.length ≤ 512), decide_eq_true (by omega : 1 ≤ bs.length), decide_eq_true hb2]
    simp)
  clear hrt HR
  go_wp2_with fail
  refine (rseens_any A c l w2 (HX2.out.rdy HA.out) (by omega)).mono ?_
  rintro e w3 ⟨v, rfl, hoi⟩
  obtain ⟨IA, ic, rfl⟩ := own_slice hoi.1
  have HOI := Lib.hid hoi
  have HX3 := Lib.hid (HX2.out.trans hoi.2)
  have HB3 := Lib.hid (hoi.2.blk HB2.out)
  have HTL := Lib.hid (total_le bs (fun k hk => by have := (HT.out.bin k hk).len; omega))
  have hsl : (seenI l).length ≤ 512 := Nat.le_trans (seenK_len l l.length) (by omega)
  have HTM := Lib.hid (total_mono bs)
  have HLT := Lib.hid (seenK_lt l l.length)
  clear hoi
  go_wp2_with fail
  go_loopw [6, 7] (fun m i wr => ∃ b : Nat, b ≤ bs.length ∧ i = .int .i64 b ∧ m = .int .i64 (total (bs.take b) : Nat) ∧ total (bs.take b) ≤ (seenI l).length ∧ (∀ j, j < b → incB (bs.getD j bk0).is = true) ∧ Ext w3 wr) (fun _ i _ => bs.length - (intOf i).toNat)
  case atStart => exact ⟨0, Nat.zero_le _, rfl, rfl, Nat.zero_le _, fun j hj => absurd hj (by omega), Ext.refl _⟩
  case round =>
    obtain ⟨b, hb, rfl, rfl, hts, hinc, hx⟩ := hrel
    have HINC := Lib.hid hinc
    have HX := Lib.hid hx
    clear hinc hx
    obtain ⟨wo, rfl⟩ : ∃ wo, wo = wr := ⟨wr, rfl⟩
    have t0 : wo.cell? ⟨tb, 0, none⟩ = some (.slice BA bs.length bc) := (HX.out.blk HB3.out).cell 0 rfl
    by_cases hlt : b < bs.length
    · obtain ⟨bb, bo, hBA, hbc, hbk⟩ := HT.out.bucket (i := b) hlt
      simp only at hBA hbc hbk
      subst hBA
      replace hbc := (HX3.out.trans HX.out).cell hbc
      have htk := total_take bs hlt
      have HTM1 := Lib.hid (HTM.out (b + 1))
      have HMEM : Hid (bs.getD b bk0 ∈ bs) := Lib.hid (getD_mem hlt)
      have HSTEP : Hid (incB (bs.getD b bk0).is = true → ∀ j, j < b + 1 → incB (bs.getD j bk0).is = true) := Lib.hid (fun h j hj => by
        rcases Nat.lt_or_ge j b with h1 | h1
        · exact HINC.out j h1
        · have : j = b := by omega
          subst this; exact h)
      generalize bs.getD b bk0 = bk at *
      have HBK := Lib.hid hbk
      have hkl := hbk.len
      obtain ⟨KA, kc, is⟩ := bk
      simp only [Bk.cell] at hbc
      simp only at hkl htk HSTEP
      clear hbk
      have HTK := Lib.hid htk
      generalize total (bs.take b) = tn at *
      by_cases hov : (seenI l).length < tn + is.length
      · have HN : Hid (rf = false) := Lib.hid (by
          have h1 := HTM1.out
          rw [HTK.out] at h1
          rw [HR2.out, decide_eq_false (by omega : ¬ total bs = (seenI l).length), Bool.and_false])
        clear htk
        go_wp2
        go_ret
        exact ⟨retv (by rw [HN.out]; rfl), HX3.out.trans HX.out⟩
      · clear htk
        have HTO := Lib.hid t0
        have HBC := Lib.hid hbc
        go_wp2_with fail
        clear t0 hbc
        go_loopw [8] (fun i wr => ∃ k : Nat, 1 ≤ k ∧ k ≤ is.length + 1 ∧ i = .int .i64 k ∧ incB (is.take k) = true ∧ Ext wo wr) (fun i _ => is.length + 1 - (intOf i).toNat)
        case atStart => exact ⟨1, by omega, by omega, rfl, (by cases is <;> rfl), Ext.refl _⟩
        case round =>
          obtain ⟨k, hk1, hk, rfl, hik, hx⟩ := hrel
          have HXI := Lib.hid hx
          have HIK := Lib.hid hik
          have t0 := HXI.out.cell HTO.out
          have hbc := HXI.out.cell HBC.out
          clear hx hik
          by_cases hkl2 : k < is.length
          · obtain ⟨m, rfl⟩ : ∃ m, k = m + 1 := ⟨k - 1, by omega⟩
            obtain ⟨ib, io, hKA, hib, hic⟩ := HBK.out.rd.int (i := m) (show m < is.length by omega)
            obtain ⟨ib', io', hKA', _, hic'⟩ := HBK.out.rd.int (i := m + 1) hkl2
            simp only at hKA hKA'
            rw [hKA] at hKA'
            simp only [Option.some.injEq, Addr.mk.injEq, and_true] at hKA'
            obtain ⟨rfl, rfl⟩ := hKA'
            subst hKA
            have hst := incB_take is m hkl2
            rw [HIK.out, Bool.true_and] at hst
            have HST := Lib.hid hst
            have HX0 : Hid (Ext w wr) := Lib.hid (HX3.out.trans (HX.out.trans HXI.out))
            replace hic := HX0.out.cell hic
            replace hic' := HX0.out.cell hic'
            generalize is.getD m 0 = x at *
            generalize is.getD (m + 1) 0 = y at *
            clear hst
            have e0 : ∀ u : EW wr, u.w.cell? ⟨tb, 0, none⟩ = some (.slice (some ⟨bb, bo, none⟩) bs.length bc) := fun u => u.cell t0
            have e1 : ∀ u : EW wr, u.w.cell? ⟨bb, bo + b, none⟩ = some (.slice (some ⟨ib, io, none⟩) is.length kc) := fun u => u.cell hbc
            have e2 : ∀ u : EW wr, u.w.cell? ⟨ib, io + m, none⟩ = some (.int .i64 x) := fun u => u.cell hic
            have e3 : ∀ u : EW wr, u.w.cell? ⟨ib, io + (m + 1), none⟩ = some (.int .i64 y) := fun u => u.cell hic'
            by_cases hxy : x < y
            · have hd : decide (y ≤ x) = false := decide_eq_false (by omega)
              have HINC2 : Hid (incB (is.take (m + 1 + 1)) = true) := Lib.hid (by rw [HST.out, decide_eq_true hxy])
              go_wp2_with fail
              refine wp_region_ext (by kernel_rfl) (by kernel_rfl) ?_
              repeat (go_big_quiet_step (fail))
              refine wpQuiet_nil ?_
              rintro w9 ⟨u9, rfl⟩
              go_wp2
              go_roundw
              case rel => exact ⟨m + 1 + 1, by omega, by omega, by go_num, HINC2.out, HXI.out.trans u9.ext⟩
              case measure => simp [intOf]; omega
            · have hd : decide (y ≤ x) = true := decide_eq_true (by omega)
              have HN : Hid (rf = false) := Lib.hid (by
                have h1 : incB is = false := inc_false is (m + 2) (by rw [HST.out, decide_eq_false hxy])
                have h2 : (bs.all fun k => incB k.is) = false := List.all_eq_false.2 ⟨_, HMEM.out, by rw [h1]; simp⟩
                rw [HR2.out, h2]; simp)
              go_wp2_with fail
              refine wp_region_ext (by kernel_rfl) (by kernel_rfl) ?_
              repeat (go_big_quiet_step (fail))
              refine wpQuiet_nil ?_
              rintro w9 ⟨u9, rfl⟩
              go_wp2
              go_ret
              exact ⟨retv (by rw [HN.out]; rfl), HX0.out.trans u9.ext⟩
          · have HFULL : Hid (incB is = true) := Lib.hid (by have := HIK.out; rw [List.take_of_length_le (by omega)] at this; exact this)
            go_wp2
            go_roundw
            case rel => exact ⟨b + 1, by omega, by go_num, by rw [HTK.out]; go_num, by rw [HTK.out]; omega, HSTEP.out HFULL.out, HX.out.trans HXI.out⟩
            case measure => simp [intOf]; omega
    · have hbe : bs.take b = bs := List.take_of_length_le (by omega)
      rw [hbe] at hts ⊢
      clear hbe
      have HRF : Hid (rf = ((seenI l).all gi && decide (total bs = (seenI l).length))) := Lib.hid (by
        have h1 : (bs.all fun k => incB k.is) = true := List.all_eq_true.2 (fun k hk => by
          obtain ⟨j, hj, he⟩ := List.mem_iff_getElem.1 hk
          have := HINC.out j (by omega)
          rw [List.getD_eq_getElem?_getD, List.getElem?_eq_getElem hj] at this
          simp only [Option.getD_some] at this
          rw [he] at this
          exact this)
        rw [HR2.out, h1, Bool.true_and])
      clear HINC HTL HTM hts
      generalize total bs = tn at *
      go_wp2_with fail
      go_loopw [9] (fun i wr => ∃ k : Nat, k ≤ (seenI l).length ∧ i = .int .i64 k ∧ (∀ j, j < k → gi ((seenI l).getD j 0) = true) ∧ Ext w3 wr) (fun i _ => (seenI l).length - (intOf i).toNat)
      case atStart => exact ⟨0, Nat.zero_le _, rfl, fun j hj => absurd hj (by omega), HX.out⟩
      case round =>
        obtain ⟨k, hk, rfl, hgs, hx⟩ := hrel
        have HGS := Lib.hid hgs
        have HX4 := Lib.hid hx
        clear hgs hx
        by_cases hlt : k < (seenI l).length
        · obtain ⟨ib, io, rfl, hic⟩ := own_natI HOI.out.1 rfl hlt
          have HX5 : Hid (Ext w wr) := Lib.hid (HX3.out.trans HX4.out)
          replace hic := HX4.out.cell hic
          have hmem : (seenI l).getD k 0 ∈ seenI l := getD_mem (d := 0) hlt
          have hil := HLT.out _ hmem
          have HMEM := Lib.hid hmem
          have HSTEP : Hid (gi ((seenI l).getD k 0) = true → ∀ j, j < k + 1 → gi ((seenI l).getD j 0) = true) := Lib.hid (fun h j hj => by
            rcases Nat.lt_or_ge j k with h1 | h1
            · exact HGS.out j h1
            · have : j = k := by omega
              subst this; exact h)
          generalize (seenI l).getD k 0 = i at *
          clear hmem
          obtain ⟨yb, yo, rfl, hyb, hy⟩ := HA.out.nine hil
          have hgd : l.getD i sym0 = l[i] := by rw [List.getD_eq_getElem?_getD, List.getElem?_eq_getElem hil]; rfl
          have hgi := HGI.out i
          rw [hgd] at hgi
          have hns : l[i].name.size ≤ maxLen := by have := (HF.out _ (List.getElem_mem hil)).name; unfold maxLen; omega
          have hn0 := (hy.ext HX5.out).1
          generalize l[i].name = name at *
          clear hgd hy
          have HNO : Hid (gi i = false → rf = false) := Lib.hid (fun h => by
            rw [HRF.out, List.all_eq_false.2 ⟨i, HMEM.out, by rw [h]; simp⟩, Bool.false_and])
          have HBX := HX4.out.blk HB3.out
          have t0 : ∀ u : EW wr, u.w.cell? ⟨tb, 0, none⟩ = some (.slice BA bs.length bc) := fun u => u.cell (HBX.cell 0 rfl)
          have t1 : ∀ u : EW wr, u.w.cell? ⟨tb, 1, none⟩ = some (.slice WA ws.length wc) := fun u => u.cell (HBX.cell 1 rfl)
          have t2 : ∀ u : EW wr, u.w.cell? ⟨tb, 2, none⟩ = some (.int .i64 sh) := fun u => u.cell (HBX.cell 2 rfl)
          have hjm : hashN name % bs.length < bs.length := Nat.mod_lt _ (by omega)
          have HHO : Hid (∀ w', Calls Try.prog 45 #[.string name, .int .i64 bs.length] w' fun e w2 => e = .returned (.int .i64 (hashN name % bs.length : Nat)) ∧ w' = w2) :=
            Lib.hid (fun w' => home_any bs.length name w' (by omega) (by omega) hns)
          have HHA : Hid (∀ w', Calls Try.prog 23 #[.string name] w' fun e w2 => e = .returned (.int .u32 (hashN name : Nat)) ∧ w' = w2) :=
            Lib.hid (fun w' => by rw [(hash_lt name).1]; exact refHash_any name w' hns)
          have HLK : Hid (∀ u : EW wr, Calls Try.prog 25 #[.agg #[.slice WA ws.length wc, .int .i64 sh], .int .u32 (hashN name : Nat)] u.w fun e w2 => e = .returned (.bool (lackT ws sh (hashN name))) ∧ Ext u.w w2) :=
            Lib.hid (fun u => rlacks_any WA wc sh ws _ u.w (hash_lt name).2 HT.out.wfit HT.out.wlen ((HX5.out.trans u.ext).rd HT.out.wrd))
          obtain ⟨bb, bo, hBA, hbc, hbk⟩ := HT.out.bucket (i := hashN name % bs.length) hjm
          simp only at hBA hbc hbk
          subst hBA
          generalize hashN name % bs.length = j at *
          generalize lackT ws sh (hashN name) = lk at *
          generalize hashN name = hs at *
          generalize bs.getD j bk0 = bk at *
          have HBK := Lib.hid hbk
          have hkl := hbk.len
          obtain ⟨KA, kc, is⟩ := bk
          simp only [Bk.cell] at hbc
          simp only at hkl hgi
          clear hbk HBX
          have HST : Hid (∀ u : EW wr, Calls Try.prog 47 #[.slice KA is.length kc, .int .i64 (i : Nat)] u.w fun e w2 => e = .returned (.int .i64 (is.count (i : Int) : Nat)) ∧ u.w = w2) :=
            Lib.hid (fun u => stands_any KA kc is i u.w ((HX5.out.trans u.ext).rd HBK.out.rd) hkl)
          generalize is.count (i : Int) = cnt at *
          have e1 : ∀ u : EW wr, u.w.cell? ⟨bb, bo + j, none⟩ = some (.slice KA is.length kc) := fun u => u.cell (HX5.out.cell hbc)
          have e2 : ∀ u : EW wr, u.w.cell? ⟨ib, io + k, none⟩ = some (.int .i64 (i : Nat)) := fun u => u.cell hic
          have HG := Lib.hid hgi
          clear hgi hbc hkl
          by_cases hc1 : cnt = 1
          · subst hc1
            have hne : (((1 : Nat) : Int) != 1) = false := rfl
            cases lk
            · have HG1 : Hid (gi i = true) := Lib.hid (by rw [HG.out]; rfl)
              go_wp2_with fail
              refine wp_region_ext (by kernel_rfl) (by kernel_rfl) ?_
              repeat (go_big_quiet_step ((first | (go_at_call 45; exact ext_same (HHO.out _)) | (go_at_call 47; exact ext_same (HST.out _)) | (go_at_call 23; exact ext_same (HHA.out _)) | (go_at_call 25; exact ext_call (HLK.out _)))))
              refine wpQuiet_nil ?_
              rintro w9 ⟨u9, rfl⟩
              go_wp2
              go_roundw
              case rel => exact ⟨k + 1, by omega, by go_num, HSTEP.out HG1.out, HX4.out.trans u9.ext⟩
              case measure => simp [intOf]; omega
            · have HN : Hid (rf = false) := Lib.hid (HNO.out (by rw [HG.out]; rfl))
              go_wp2_with fail
              refine wp_region_ext (by kernel_rfl) (by kernel_rfl) ?_
              repeat (go_big_quiet_step ((first | (go_at_call 45; exact ext_same (HHO.out _)) | (go_at_call 47; exact ext_same (HST.out _)) | (go_at_call 23; exact ext_same (HHA.out _)) | (go_at_call 25; exact ext_call (HLK.out _)))))
              refine wpQuiet_nil ?_
              rintro w9 ⟨u9, rfl⟩
              go_wp2
              go_ret
              exact ⟨retv (by rw [HN.out]; rfl), HX5.out.trans u9.ext⟩
          · have hne : ((cnt : Int) != 1) = true := bne_iff_ne.2 (by omega)
            have HN : Hid (rf = false) := Lib.hid (HNO.out (by rw [HG.out, decide_eq_false hc1]; rfl))
            go_wp2_with fail
            refine wp_region_ext (by kernel_rfl) (by kernel_rfl) ?_
            repeat (go_big_quiet_step ((first | (go_at_call 45; exact ext_same (HHO.out _)) | (go_at_call 47; exact ext_same (HST.out _)))))
            refine wpQuiet_nil ?_
            rintro w9 ⟨u9, rfl⟩
            go_wp2
            go_ret
            exact ⟨retv (by rw [HN.out]; rfl), HX5.out.trans u9.ext⟩
        · obtain rfl : k = (seenI l).length := by omega
          have HALL : Hid (rf = decide (tn = (seenI l).length)) := Lib.hid (by
            have h1 : (seenI l).all gi = true := List.all_eq_true.2 (fun i hi => by
              obtain ⟨j, hj, he⟩ := List.mem_iff_getElem.1 hi
              have := HGS.out j hj
              rw [List.getD_eq_getElem?_getD, List.getElem?_eq_getElem hj] at this
              simp only [Option.getD_some] at this
              rw [he] at this
              exact this)
            rw [HRF.out, h1, Bool.true_and])
          by_cases htn : tn = (seenI l).length
          · have he : ((tn : Int) == ((seenI l).length : Nat)) = true := by rw [htn]; exact beq_self_eq_true _
            have HN : Hid (rf = true) := Lib.hid (by rw [HALL.out, decide_eq_true htn])
            clear htn
            go_wp2
            go_ret
            exact ⟨retv (by rw [HN.out]; rfl), HX3.out.trans HX4.out⟩
          · have he : ((tn : Int) == ((seenI l).length : Nat)) = false := beq_eq_false_iff_ne.2 (by omega)
            have HN : Hid (rf = false) := Lib.hid (by rw [HALL.out, decide_eq_false htn])
            go_wp2
            go_ret
            exact ⟨retv (by rw [HN.out]; rfl), HX3.out.trans HX4.out⟩

end Go.Proofs.Ytcjmngonpijeiaa
