/- clevislaw14.ScopeCounts: how many names are compared in each image. -/
import Derived.Test.YtcjmngonpijeiaaAwk14
import Derived.Test.YtcjmngonpijeiaaRRt
namespace Go.Proofs.Ytcjmngonpijeiaa
set_option maxRecDepth 100000
open Go.ChangeShapes Go.WideShapes Go.ChangeAt Go.RowKit Go.Joins Pl
set_option linter.unusedVariables false

theorem cntK_get (r : Sym) (skip : Int) (ims : List Im) (k i : Nat) (hi : i < ims.length) : ∃ x : Nat, (cntK r skip ims k)[i]? = some (x : Int) ∧ (x = 0 ∨ x = (findI r ims i).2) := by
  unfold cntK
  rw [List.getElem?_map, List.getElem?_range hi]
  simp only [Option.map_some, Option.some.injEq]
  unfold cnt1
  by_cases h : i < k ∧ (i : Int) ≠ skip
  · rw [if_pos h]; exact ⟨_, rfl, .inr rfl⟩
  · rw [if_neg h]; exact ⟨0, rfl, .inl rfl⟩
theorem lookN_get (r : Sym) (skip : Int) (ims : List Im) (i : Nat) (hi : i < ims.length) : ∃ x : Nat, (lookN r skip ims)[i]? = some (x : Int) ∧ (x = 0 ∨ x = (findI r ims i).2) := by
  unfold lookN
  split <;> exact cntK_get _ _ _ _ _ hi
/-- of right tables: how many are compared -/
theorem cnt_le {r : Sym} {skip : Int} {ims : List Im} (h : allR ims = true) (i : Nat) (hi : i < ims.length) : 1 ≤ (ims.getD i im0).t.bs.length ∧ (ims.getD i im0).t.bs.length ≤ 512 ∧ ∃ x : Nat, (lookN r skip ims)[i]? = some (x : Int) ∧
    (lackT (ims.getD i im0).t.ws (ims.getD i im0).t.sh (hashN r.name) = true → x = 0) ∧ x ≤ cntU (ims.getD i im0).l (ims.getD i im0).t.bs.length (hashN r.name % (ims.getD i im0).t.bs.length) (ims.getD i im0).l.length := by
  have hm : ims.getD i im0 ∈ ims := getD_mem hi
  obtain ⟨h1, h2, _, h4, _⟩ := right_full _ _ (allR_each h _ hm)
  obtain ⟨x, hx, hc⟩ := lookN_get r skip ims i hi
  obtain ⟨f1, f2⟩ := find_made _ r _ _ h1 h4
  refine ⟨h1, h2, x, hx, ?_, ?_⟩
  · intro hl
    rcases hc with rfl | rfl
    · rfl
    · unfold findI; rw [f1 hl]
  · rcases hc with rfl | rfl
    · exact Nat.zero_le _
    · unfold findI
      cases hl : lackT (ims.getD i im0).t.ws (ims.getD i im0).t.sh (hashN r.name) with
      | true => rw [f1 hl]; exact Nat.zero_le _
      | false => exact (f2 hl).1

set_option maxRecDepth 100000 in
set_option maxHeartbeats 6400000 in
theorem walk_ScopeCounts (v0 v1 v2 : Value) (r : Sym) (skip : Int) (ims : List Im) (w : World) (h0 : InSym w v0 r) (h1 : InInt w v1 skip) (h2 : InImgs w v2 ims) :
    Calls Try.prog 8 #[v0, v1, v2] w fun e w' => e = .returned (.bool true) ∧ Below w.heap.size w w' := by
  obtain ⟨A, c, rfl, hI, hlc, hcm⟩ := h2
  obtain ⟨rfl, hs0, hs1⟩ := h1
  obtain ⟨rfl, hr⟩ := h0
  have HH := Lib.hid hI
  have hil := hI.len
  have HR := Lib.hid (fun w' (hx : Ext w w') => rright14_any A c ims w' (hI.ext hx))
  have HA : Hid (allR ims = true → ∀ w', Ext w w' → Calls Try.prog 13 #[.agg r.vals.toArray, .int .i64 skip, .slice A ims.length c] w' (LkP r skip ims w')) := Lib.hid (fun ha w' hx => look_any r skip A c ims w' hr (hI.ext hx) (allR_len ha))
  have HCL : Hid (allR ims = true → ∀ i, i < ims.length → _) := Lib.hid (fun ha i hi => cnt_le (r := r) (skip := skip) ha i hi)
  have hhr := hash_lt r.name
  have hnr : r.name.size ≤ maxLen := by have := hr.name; unfold maxLen; omega
  clear hI hr
  unfold LkP at HA
  generalize allR ims = al at *
  generalize lookF r skip ims = kf at *
  generalize lookN r skip ims = ln at *
  obtain ⟨fi, fk, fb⟩ := kf
  simp only at HA
  obtain ⟨rname, rver, rold, rkind, rweak, rvis, rdefd, rval, rsize⟩ := r
  simp only [Sym.vals] at HA ⊢
  simp only at HCL hhr hnr
  go_enter Try.func8, Try.ntmps8
  go_wp2_with fail
  have hb1 : Blk (w.alloc (.cells #[.string rname, .string rver, .bool rold, .int .i64 rkind, .bool rweak, .int .i64 rvis, .bool rdefd, .int .i64 rval, .int .i64 rsize] 25)) w.heap.size 25 #[.string rname, .string rver, .bool rold, .int .i64 rkind, .bool rweak, .int .i64 rvis, .bool rdefd, .int .i64 rval, .int .i64 rsize] := Blk.new _ _ _
  have hxb := Ext.alloc w (.cells #[.string rname, .string rver, .bool rold, .int .i64 rkind, .bool rweak, .int .i64 rvis, .bool rdefd, .int .i64 rval, .int .i64 rsize] 25)
  generalize w.alloc (.cells #[.string rname, .string rver, .bool rold, .int .i64 rkind, .bool rweak, .int .i64 rvis, .bool rdefd, .int .i64 rval, .int .i64 rsize] 25) = wb at *
  refine (awake14_any _).mono ?_
  rintro e w1 ⟨rfl, hx1⟩
  have HX1 := Lib.hid (hxb.trans hx1)
  have HRB := Lib.hid (hx1.blk hb1)
  clear hb1 hxb hx1
  go_wp2_with fail
  refine (HR.out _ HX1.out).mono ?_
  rintro e w2 ⟨rfl, hx2⟩
  have HX2 := Lib.hid (HX1.out.trans hx2)
  have HRB2 := Lib.hid (hx2.blk HRB.out)
  clear hx2
  cases al
  · go_wp2
    go_ret
    first | exact ⟨rfl, HX2.out⟩ | exact HX2.out
  obtain ⟨q0, q1, q2, q3, q4, q5, q6, q7, q8⟩ := HRB2.out.nine
  have HA2 := Lib.hid (HA.out rfl)
  have HCN := Lib.hid (HCL.out rfl)
  clear HA HCL HR
  go_wp2_with fail
  refine (HA2.out _ HX2.out).mono ?_
  rintro e w3 ⟨n1, rfl, ho1, hx3⟩
  obtain ⟨A1, c1, rfl⟩ := own_slice ho1
  have HX3 := Lib.hid (HX2.out.trans hx3)
  have HRB3 := Lib.hid (hx3.blk HRB2.out)
  have HRD := Lib.hid (Rd.of_own ho1)
  clear ho1 hx3 q0 q1 q2 q3 q4 q5 q6 q7 q8
  have q0 : w3.cell? ⟨w.heap.size, 0, none⟩ = some (.string rname) := HRB3.out.cell 0 rfl
  have ql : w.heap.size < w3.heap.size := HRB3.out.lt
  have hnn : ((ims.length : Int) != (ims.length : Int)) = false := bne_self_eq_false _
  have HHC : Hid (∀ w', Calls Try.prog 23 #[.string rname] w' fun e w2 => e = .returned (.int .u32 (hashN rname : Nat)) ∧ w' = w2) := Lib.hid (fun w' => (refHash_any rname w' hnr).mono fun e w2 h => ⟨by rw [hhr.1]; exact h.1, h.2⟩)
  have HHL := Lib.hid hhr.2
  have HLKS : Hid (∀ (t : Tb) (w' : World), t.In w' → Calls Try.prog 25 #[.agg #[.slice t.WA t.ws.length t.wc, .int .i64 t.sh], .int .u32 (hashN rname : Nat)] w' fun e w2 => e = .returned (.bool (lackT t.ws t.sh (hashN rname))) ∧ Ext w' w2) :=
    Lib.hid (fun t w' ht => rlacks_any t.WA t.wc t.sh t.ws (hashN rname) w' hhr.2 ht.wfit ht.wlen ht.wrd)
  clear hhr
  generalize hashN rname = hr at *
  go_wp2_with fail
  have HX4 := Lib.hid (HX3.out.trans (Ext.alloc w3 (.cells #[.int .i64 fi, .int .i64 fk, .bool fb] 29)))
  have HRD4 := Lib.hid ((Ext.alloc w3 (.cells #[.int .i64 fi, .int .i64 fk, .bool fb] 29)).rd HRD.out)
  clear q0 ql hnn
  generalize w3.alloc (.cells #[.int .i64 fi, .int .i64 fk, .bool fb] 29) = w4 at *
  refine (HHC.out _).mono ?_
  rintro e w5 ⟨rfl, rfl⟩
  clear HHC HRB3 HRD
  go_wp2_with fail
  go_loopw [11] (fun i wr => ∃ a : Nat, a ≤ ims.length ∧ i = .int .i64 a ∧ Ext w4 wr) (fun i _ => ims.length - (intOf i).toNat)
  case atStart => exact ⟨0, Nat.zero_le _, rfl, Ext.refl _⟩
  case round =>
    obtain ⟨a, ha, rfl, hx⟩ := hrel
    have HXO := Lib.hid hx
    clear hx
    by_cases hlt : a < ims.length
    · obtain ⟨hn1, hn2, x, hx, hxl, hxc⟩ := HCN.out a hlt
      obtain ⟨yb, yo, rfl, hyb, hy⟩ := HH.out.rd.at hlt
      have hgd : ims.getD a im0 = ims[a] := by rw [List.getD_eq_getElem?_getD, List.getElem?_eq_getElem hlt]; rfl
      rw [hgd] at hn1 hn2 hxl hxc
      have HXW := Lib.hid (HX4.out.trans HXO.out)
      have HIN := Lib.hid ((HH.out.each _ (List.getElem_mem hlt)).ext HXW.out)
      have hI := hy.ext HXW.out
      have hcell : ∃ nb no, A1 = some ⟨nb, no, none⟩ ∧ wr.cell? ⟨nb, no + a, none⟩ = some (.int .i64 (x : Nat)) := by
        have hal : a < (ints ln).length := by
          have := (List.getElem?_eq_some_iff.1 hx).1
          simpa [ints] using this
        obtain ⟨nb, no, h1, h2⟩ := HRD4.out a hal
        refine ⟨nb, no, h1, HXO.out.cell ?_⟩
        rw [h2]
        have := (List.getElem?_eq_some_iff.1 hx).2
        simp [ints, this]
      obtain ⟨nb, no, rfl, hnc⟩ := hcell
      have HXL := Lib.hid hxl
      have HXC := Lib.hid hxc
      clear hgd hy hx hxl hxc
      generalize ims[a] = m at *
      have HLK := Lib.hid (fun w' hx => HLKS.out m.t w' (HIN.out.t.ext (show Ext wr w' from hx)))
      obtain ⟨d0, d1, d2, d3, d4, SA, sc, l, ⟨BA, bc, bs, WA, wc, ws, sh⟩, d9, d10, d11, d12, d13, d14⟩ := m
      obtain ⟨a0, a1, a2, a3, a4, a5, a6, a7, a8, a9, a10, a11, a12, a13, a14⟩ := hI
      simp only at a5 a6 a7 a8 HXL HXC HLK hn1 hn2
      clear a0 a1 a2 a3 a4 a9 a10 a11 a12 a13 a14
      have hll := HIN.out.len
      simp only at hll
      generalize lackT ws sh hr = lk at *
      have hqn : hr % bs.length < bs.length := Nat.mod_lt _ (by omega)
      have HNB : Hid (((hr : Nat) : Int) % (bs.length : Int) = ((hr % bs.length : Nat) : Int)) := Lib.hid rfl
      generalize hr % bs.length = q at *
      go_wp2_with fail
      have hkt := Blk.new wr 55 #[.slice BA bs.length bc, .slice WA ws.length wc, .int .i64 sh]
      have hxt := Ext.alloc wr (.cells #[.slice BA bs.length bc, .slice WA ws.length wc, .int .i64 sh] 55)
      have HA5 := Lib.hid (hxt.cell a5)
      have HNC := Lib.hid (hxt.cell hnc)
      have HLK2 := Lib.hid (fun w' hx => HLK.out w' (hxt.trans hx))
      have HXT := Lib.hid (HXO.out.trans hxt)
      have HIN2 := Lib.hid (HIN.out.ext hxt)
      have HKT := Lib.hid hkt
      clear a5 a6 a7 a8 hnc hkt hxt HLK HIN HXO HXW hyb
      generalize wr.alloc (.cells #[.slice BA bs.length bc, .slice WA ws.length wc, .int .i64 sh] 55) = w6 at *
      generalize wr.heap.size = tb at *
      go_loopw [13, 14] (fun m i wr => ∃ k : Nat, k ≤ l.length ∧ i = .int .i64 k ∧ m = .int .i64 (cntU l bs.length q k : Nat) ∧ Ext w6 wr) (fun _ i _ => l.length - (intOf i).toNat)
      case atStart => exact ⟨0, Nat.zero_le _, rfl, rfl, Ext.refl _⟩
      case round =>
        obtain ⟨k, hk, rfl, rfl, hx⟩ := hrel
        have HX := Lib.hid hx
        have hck := cntU_le l bs.length q k
        have hmore := cntU_succ l bs.length q k
        clear hx
        have g5 := HX.out.cell HA5.out
        by_cases hkl : k < l.length
        · have hrd := HIN2.out.rd
          simp only at hrd
          obtain ⟨zb, zo, rfl, hzb, hz⟩ := hrd.nine hkl
          have hgd : l.getD k sym0 = l[k] := by rw [List.getD_eq_getElem?_getD, List.getElem?_eq_getElem hkl]; rfl
          have hft := HIN2.out.fit _ (List.getElem_mem hkl)
          rw [hgd] at hmore
          clear hgd hrd
          generalize l[k] = d at *
          have HS := Lib.hid (rseen_any d)
          have hhd := hash_lt d.name
          have hnd : d.name.size ≤ maxLen := by have := hft.name; unfold maxLen; omega
          obtain ⟨s0, s1, s2, s3, s4, s5, s6, s7, s8⟩ := hz.ext HX.out
          obtain ⟨name, ver, old, kind, weak, vis, defd, val, size⟩ := d
          simp only at s0 s1 s2 s3 s4 s5 s6 s7 s8 hmore hhd hnd
          simp only [Sym.vals] at HS
          have HHD : Hid (∀ w', Calls Try.prog 23 #[.string name] w' fun e w2 => e = .returned (.int .u32 (hashN name : Nat)) ∧ w' = w2) := Lib.hid (fun w' => (refHash_any name w' hnd).mono fun e w2 h => ⟨by rw [hhd.1]; exact h.1, h.2⟩)
          have hh5 := hhd.2
          have hh4 := HHL.out
          have hw1 : IntKind.u32.wrap (bs.length : Int) = (bs.length : Int) := by rw [IntKind.wrap_u32]; omega
          have t0 : wr.cell? ⟨tb, 0, none⟩ = some (.slice BA bs.length bc) := (HX.out.blk HKT.out).cell 0 rfl
          clear hz hft hhd hnd
          generalize cntU l bs.length q k = m at *
          have HNB2 : Hid (((hashN name : Nat) : Int) % (bs.length : Int) = ((hashN name % bs.length : Nat) : Int)) := Lib.hid rfl
          have hqn2 : hashN name % bs.length < bs.length := Nat.mod_lt _ (by omega)
          generalize hashN name % bs.length = q2 at *
          generalize hashN name = hn2 at *
          have hnz : ¬ ((bs.length : Int) = 0) := by omega
          go_wp2_with fail
          have hks := Blk.new wr 25 #[.string name, .string ver, .bool old, .int .i64 kind, .bool weak, .int .i64 vis, .bool defd, .int .i64 val, .int .i64 size]
          have hxs := Ext.alloc wr (.cells #[.string name, .string ver, .bool old, .int .i64 kind, .bool weak, .int .i64 vis, .bool defd, .int .i64 val, .int .i64 size] 25)
          have HXS := Lib.hid (HX.out.trans hxs)
          replace t0 := hxs.cell t0
          obtain ⟨p0, p1, p2, p3, p4, p5, p6, p7, p8⟩ := hks.nine
          clear s0 s1 s2 s3 s4 s5 s6 s7 s8 g5 hks hxs hzb
          generalize wr.alloc (.cells #[.string name, .string ver, .bool old, .int .i64 kind, .bool weak, .int .i64 vis, .bool defd, .int .i64 val, .int .i64 size] 25) = w7 at *
          generalize wr.heap.size = sb at *
          have e0 : ∀ u : EW w7, u.w.cell? _ = _ := fun u => u.cell t0
          have f0 : ∀ u : EW w7, u.w.cell? _ = _ := fun u => u.cell p0
          have f1 : ∀ u : EW w7, u.w.cell? _ = _ := fun u => u.cell p1
          have f2 : ∀ u : EW w7, u.w.cell? _ = _ := fun u => u.cell p2
          have f3 : ∀ u : EW w7, u.w.cell? _ = _ := fun u => u.cell p3
          have f4 : ∀ u : EW w7, u.w.cell? _ = _ := fun u => u.cell p4
          have f5 : ∀ u : EW w7, u.w.cell? _ = _ := fun u => u.cell p5
          have f6 : ∀ u : EW w7, u.w.cell? _ = _ := fun u => u.cell p6
          have f7 : ∀ u : EW w7, u.w.cell? _ = _ := fun u => u.cell p7
          have f8 : ∀ u : EW w7, u.w.cell? _ = _ := fun u => u.cell p8
          clear t0 p0 p1 p2 p3 p4 p5 p6 p7 p8
          cases hsb : seenB ⟨name, ver, old, kind, weak, vis, defd, val, size⟩
          · rw [hsb] at hmore HS
            have HM := Lib.hid hmore
            clear hsb hmore
            refine wp_region_ext (by kernel_rfl) (by kernel_rfl) ?_
            repeat (go_big_quiet_step ((first | (go_at_call 24; exact ext_call (HS.out _)) | (go_at_call 23; exact ext_same (HHD.out _)))))
            refine wpQuiet_nil ?_
            rintro w9 ⟨u9, rfl⟩
            go_wp2
            go_roundw
            case rel => exact ⟨k + 1, by omega, by go_num, by rw [HM.out]; rfl, HXS.out.trans u9.ext⟩
            case measure => simp [intOf]; omega
          · rw [hsb] at hmore HS
            have HM := Lib.hid hmore
            clear hsb hmore
            have nb1 := HNB.out
            have nb2 := HNB2.out
            refine wp_region_ext (by kernel_rfl) (by kernel_rfl) ?_
            repeat (go_big_quiet_step ((first | (go_at_call 24; exact ext_call (HS.out _)) | (go_at_call 23; exact ext_same (HHD.out _)))))
            refine wpQuiet_nil ?_
            rintro w9 ⟨u9, rfl⟩
            by_cases hq : q2 = q
            · have hbe : ((q2 : Int) == (q : Int)) = true := by rw [hq]; simp
              have HM1 := Lib.hid (HM.out.trans (by rw [decide_eq_true hq]; rfl : _ = m + 1))
              clear hq nb1 nb2
              go_wp2
              go_roundw
              case rel => exact ⟨k + 1, by omega, by go_num, by rw [HM1.out]; go_num, HXS.out.trans u9.ext⟩
              case measure => simp [intOf]; omega
            · have hbe : ((q2 : Int) == (q : Int)) = false := beq_eq_false_iff_ne.mpr (by omega)
              have HM1 := Lib.hid (HM.out.trans (by rw [decide_eq_false hq]; rfl : _ = m))
              clear nb1 nb2
              go_wp2
              go_roundw
              case rel => exact ⟨k + 1, by omega, by go_num, by rw [HM1.out], HXS.out.trans u9.ext⟩
              case measure => simp [intOf]; omega
        · have hke : k = l.length := by omega
          subst hke
          clear hmore
          have hxc := HXC.out
          generalize cntU l bs.length q l.length = mm at *
          have t1 : wr.cell? ⟨tb, 1, none⟩ = some (.slice WA ws.length wc) := (HX.out.blk HKT.out).cell 1 rfl
          have t2 : wr.cell? ⟨tb, 2, none⟩ = some (.int .i64 sh) := (HX.out.blk HKT.out).cell 2 rfl
          have l1 : decide ((x : Int) < 0) = false := decide_eq_false (by omega)
          have l2 : decide ((mm : Int) < (x : Int)) = false := decide_eq_false (by omega)
          cases lk
          · go_wp2_with fail
            refine (HLK2.out wr HX.out).mono ?_
            rintro e w9 ⟨rfl, hx9⟩
            have nc := (HX.out.trans hx9).cell HNC.out
            have HX9 := Lib.hid (HXT.out.trans (HX.out.trans hx9))
            clear t1 t2 g5 hx9
            go_wp2
            go_roundw
            case rel => exact ⟨a + 1, by omega, by go_num, HX9.out⟩
            case measure => simp [intOf]; omega
          · have hx0 : x = 0 := HXL.out rfl
            subst hx0
            go_wp2_with fail
            refine (HLK2.out wr HX.out).mono ?_
            rintro e w9 ⟨rfl, hx9⟩
            have nc := (HX.out.trans hx9).cell HNC.out
            have HX9 := Lib.hid (HXT.out.trans (HX.out.trans hx9))
            clear t1 t2 g5 hx9
            go_wp2
            go_roundw
            case rel => exact ⟨a + 1, by omega, by go_num, HX9.out⟩
            case measure => simp [intOf]; omega
    · go_wp2
      go_ret
      first | exact ⟨rfl, HX4.out.trans HXO.out⟩ | exact HX4.out.trans HXO.out

set_option maxRecDepth 100000 in
theorem lifted_ScopeCounts (os : Os) (started : os.Started) (H : Type) (enc : TypeId × Value → H) :
    ReturnsInHanded {} Try.checked os 8 .any (Rows.scopeCountsSpec.pre6 enc Try.prog Try.f8 Rows.scopeCountsRow.domain false) (Rows.scopeCountsSpec.post enc Try.prog Try.f8 false true false false) := by
  refine returnsInHanded_of_change_sized (C := Try.checked) own started (by kernel_rfl) Try.func8
    (ChangeSpec.witness6 (enc := enc) (C := Try.checked) false ⟨#[], #[.agg #[.string ByteArray.empty, .string ByteArray.empty, .bool false, .int .i64 0, .bool false, .int .i64 0, .bool false, .int .i64 0, .int .i64 0], .int .i64 0, .slice none 0 0], []⟩ 8 (by kernel_rfl) (by kernel_rfl) (by kernel_rfl) (by kernel_rfl)) ?_
  intro W base args ds gs before hval0 hW hcnd hsz0 _
  have hsz : (DataW.weightsEach Try.prog (Try.f8.params.toList ++ Rows.scopeCountsSpec.plain.varTypes Try.prog) (ds ++ gs)).all (· ≤ reachBytes) = true := hsz0
  clear hsz0
  have hval : ∀ (j : Nat) t v, Try.f8.params[j]? = some t → args[j]? = some v → Value.okWide Try.prog W .any base t v := hval0
  have hW' := hW
  obtain ⟨p, q, hA0, hV, rfl, hfz, hnd⟩ := hW
  have hA : DataW.TrodAll enc Try.prog W 0 (fun _ => true) true Try.f8.params.toList args.toList ds p := hA0
  rw [Try.params8] at hA hval hsz
  obtain ⟨v0, vs0, d0, ds0, p0, q0, hargs, rfl, rfl, h0, r0⟩ := trodAll_cons hA
  obtain ⟨v1, vs1, d1, ds1, p1, q1, rfl, rfl, rfl, h1, r1⟩ := trodAll_cons r0
  obtain ⟨v2, vs2, d2, ds2, p2, q2, rfl, rfl, rfl, h2, r2⟩ := trodAll_cons r1
  obtain ⟨rfl, rfl, rfl⟩ := trodAll_nil r2
  obtain rfl : args = #[v0, v1, v2] := by cases args; simp_all
  obtain ⟨rfl, rfl⟩ := trodVars_none hV
  have lt0 : ∀ x ∈ p0, x.block < W.heap.size := by obtain ⟨m, hm⟩ := h0; exact DataW.trod_lt m _ _ _ hm
  obtain ⟨x0, hx0⟩ := open_InSym (hval 0 25 v0 rfl rfl) h0 (light_each (j := 0) hsz rfl rfl)
  have lt1 : ∀ x ∈ p1, x.block < W.heap.size := by obtain ⟨m, hm⟩ := h1; exact DataW.trod_lt m _ _ _ hm
  obtain ⟨x1, hx1⟩ := open_InInt Try.underlying3 (hval 1 3 v1 rfl rfl) h1 (light_each (j := 1) hsz rfl rfl)
  have lt2 : ∀ x ∈ p2, x.block < W.heap.size := by obtain ⟨m, hm⟩ := h2; exact DataW.trod_lt m _ _ _ hm
  obtain ⟨x2, hx2⟩ := open_InImgs (hval 2 26 v2 rfl rfl) h2 (light_each (j := 2) hsz rfl rfl)
  clear hA0 hval0
  refine (walk_ScopeCounts v0 v1 v2 x0 x1 x2 W hx0 hx1 hx2).mono fun e W' ⟨he, bel⟩ => ?_
  subst he
  exact ⟨_, rfl, _, _, _, [], _, [], hW', trodAll_mk1 (shut_bool Try.underlying4 _), (trodAll_cons_mk (Below.trod laidOut (by kernel_rfl) (of_decide_eq_true (by kernel_rfl)) h0 bel lt0) (trodAll_cons_mk (Below.trod laidOut (by kernel_rfl) (of_decide_eq_true (by kernel_rfl)) h1 bel lt1) (trodAll_cons_mk (Below.trod laidOut (by kernel_rfl) (of_decide_eq_true (by kernel_rfl)) h2 bel lt2) trodAll_mk0))), rfl, bel.frame _, fun h => by cases h⟩

theorem over_ScopeCounts : Rows.scopeCountsRow.holds Try.pinned (OpenSpec.ofChange Rows.scopeCountsSpec) :=
  OpenClaim.holds_of_wide 8 Try.f8 rfl rfl rfl rfl rfl rfl rfl ⟨rfl, rfl, rfl, rfl, rfl⟩ rfl rfl rfl rfl rfl (by kernel_rfl) Try.func8 (by kernel_rfl)
    (of_decide_eq_true (by kernel_rfl)) (by unfold Func.isWrapper; first | (rw [if_pos (by decide +kernel)]; kernel_rfl) | (rw [if_neg (by decide +kernel)]; exact ⟨rfl, rfl⟩))
    (fun os started H enc _ => lifted_ScopeCounts os started H enc)

/-- the statement -/
theorem holds_ScopeCounts : Rows.ScopeCountsSaid := over_ScopeCounts
#print axioms holds_ScopeCounts

end Go.Proofs.Ytcjmngonpijeiaa
