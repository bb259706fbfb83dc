/- clevisref08.Same: two tables that are the same are called so. -/
import Derived.Test.YtejdknmlggdndaaFind
import Derived.Test.YtejdknmlggdndaaExtR
import Derived.Test.YtejdknmlggdndaaSieve7
namespace Go.Proofs.Ytejdknmlggdndaa
open Go.RowKit Pl
set_option linter.unusedVariables false

theorem map_is_get {qs bs : List Bk} (h : qs.map Bk.is = bs.map Bk.is) (b : Nat) : (qs.getD b bk0).is = (bs.getD b bk0).is := by
  have h1 : (qs.map Bk.is)[b]? = (bs.map Bk.is)[b]? := by rw [h]
  rw [List.getElem?_map, List.getElem?_map] at h1
  rw [List.getD_eq_getElem?_getD, List.getD_eq_getElem?_getD]
  cases ha : qs[b]? with
  | none => cases hb : bs[b]? with
    | none => rfl
    | some y => rw [ha, hb] at h1; cases h1
  | some x => cases hb : bs[b]? with
    | none => rw [ha, hb] at h1; cases h1
    | some y => rw [ha, hb] at h1; simpa using h1

set_option maxRecDepth 100000 in
set_option maxHeartbeats 3200000 in
theorem rtsame_yes (t u : Tb) (w : World) (ht : t.In w) (hu : u.In w) (h1 : t.bs.map Bk.is = u.bs.map Bk.is) (h2 : t.ws = u.ws) (h3 : t.sh = u.sh) :
    Calls Try.prog 15 #[.agg t.vals.toArray, .agg u.vals.toArray] w fun e w' => e = .returned (.bool true) ∧ Ext w w' := by
  have HT := Lib.hid ht
  have HU := Lib.hid hu
  have HM := Lib.hid (map_is_get h1)
  have hl : t.bs.length = u.bs.length := by have := congrArg List.length h1; simpa using this
  have hwl := ht.wlen
  have hbl := ht.blen
  have HSC := Lib.hid (fun w' hx => same_any t.WA u.WA t.wc u.wc t.ws u.ws t.sh u.sh w' ((show Ext w w' from hx).rd ht.wrd) (Ext.rd hx hu.wrd) (by unfold maxLen; omega) (by unfold maxLen; rw [← h2]; omega))
  have HSV : Hid (sameB (t.ws, t.sh) (u.ws, u.sh) = true) := Lib.hid (by rw [h2, h3]; unfold sameB; simp)
  clear ht hu h1
  obtain ⟨BA, bc, bs, WA, wc, ws, sh⟩ := t
  obtain ⟨UA, uc, us, VA, vc, vs, su⟩ := u
  simp only at h2 h3 hl hwl hbl HM HSC HSV
  subst h2 h3
  simp only [Tb.vals]
  rw [← hl]
  have hul : ∀ b, b < bs.length → b < us.length := fun b h => by omega
  have HUL := Lib.hid hul
  clear hl hul
  go_enter Try.func15, Try.ntmps15
  go_wp2_with fail
  have hbx := box2 w #[.slice BA bs.length bc, .slice WA ws.length wc, .int .i64 sh] #[.slice UA bs.length uc, .slice VA ws.length vc, .int .i64 sh] 29 29
  obtain ⟨hb1, hb2, hxb⟩ := hbx
  generalize (w.alloc (.cells #[.slice BA bs.length bc, .slice WA ws.length wc, .int .i64 sh] 29)).alloc (.cells #[.slice UA bs.length uc, .slice VA ws.length vc, .int .i64 sh] 29) = wb at *
  generalize hta : w.heap.size = ta at *
  generalize htu : ta + 1 = tu at *
  clear hta htu
  have t0 : wb.cell? ⟨ta, 0, none⟩ = some (.slice BA bs.length bc) := hb1.cell 0 rfl
  have t1 : wb.cell? ⟨ta, 1, none⟩ = some (.slice WA ws.length wc) := hb1.cell 1 rfl
  have t2 : wb.cell? ⟨ta, 2, none⟩ = some (.int .i64 sh) := hb1.cell 2 rfl
  have u0 : wb.cell? ⟨tu, 0, none⟩ = some (.slice UA bs.length uc) := hb2.cell 0 rfl
  have u1 : wb.cell? ⟨tu, 1, none⟩ = some (.slice VA ws.length vc) := hb2.cell 1 rfl
  have u2 : wb.cell? ⟨tu, 2, none⟩ = some (.int .i64 sh) := hb2.cell 2 rfl
  have HB1 := Lib.hid hb1
  have HB2 := Lib.hid hb2
  have HXB := Lib.hid hxb
  clear hb1 hb2 hxb
  have hne0 : ((bs.length : Int) != bs.length) = false := by simp
  go_wp2_with fail
  refine (HSC.out _ HXB.out).mono ?_
  rintro e w2 ⟨rfl, hx2⟩
  rw [HSV.out]
  have HX2 : Hid (Ext wb w2) := Lib.hid hx2
  clear t0 t1 t2 u0 u1 u2 hx2
  go_wp2_with fail
  go_loopw [5] (fun i wr => ∃ b : Nat, b ≤ bs.length ∧ i = .int .i64 b ∧ Ext w2 wr) (fun i _ => bs.length - (intOf i).toNat)
  case atStart => exact ⟨0, Nat.zero_le _, rfl, Ext.refl _⟩
  case round =>
    obtain ⟨b, hb, rfl, hx⟩ := hrel
    have HX := Lib.hid hx
    clear hx
    obtain ⟨wo, rfl⟩ : ∃ wo, wo = wr := ⟨wr, rfl⟩
    have t0 : wo.cell? ⟨ta, 0, none⟩ = some (.slice BA bs.length bc) := ((HX2.out.trans HX.out).blk HB1.out).cell 0 rfl
    have u0 : wo.cell? ⟨tu, 0, none⟩ = some (.slice UA bs.length uc) := ((HX2.out.trans HX.out).blk HB2.out).cell 0 rfl
    by_cases hlt : b < bs.length
    · obtain ⟨bb, bo, hBA, hbc, hbk⟩ := HT.out.bucket (i := b) hlt
      obtain ⟨cb, co, hCA, hcc, hck⟩ := HU.out.bucket (i := b) (HUL.out b hlt)
      simp only at hBA hbc hbk hCA hcc hck
      subst hBA hCA
      have hme := HM.out b
      replace hbc := (HXB.out.trans (HX2.out.trans HX.out)).cell hbc
      replace hcc := (HXB.out.trans (HX2.out.trans HX.out)).cell hcc
      generalize bs.getD b bk0 = bk at *
      generalize us.getD b bk0 = ck at *
      have HBK := Lib.hid hbk
      have HCK := Lib.hid hck
      have hkl := hbk.len
      obtain ⟨KA, kc, is⟩ := bk
      obtain ⟨LA, lc, js⟩ := ck
      simp only [Bk.cell] at hbc hcc
      simp only at hkl hme
      subst hme
      clear hbk hck
      have e0 : ∀ u : EW wo, u.w.cell? ⟨ta, 0, none⟩ = some (.slice (some ⟨bb, bo, none⟩) bs.length bc) := fun u => u.cell t0
      have e1 : ∀ u : EW wo, u.w.cell? ⟨tu, 0, none⟩ = some (.slice (some ⟨cb, co, none⟩) bs.length uc) := fun u => u.cell u0
      have e2 : ∀ u : EW wo, u.w.cell? ⟨bb, bo + b, none⟩ = some (.slice KA is.length kc) := fun u => u.cell hbc
      have e3 : ∀ u : EW wo, u.w.cell? ⟨cb, co + b, none⟩ = some (.slice LA is.length lc) := fun u => u.cell hcc
      have hne1 : ((is.length : Int) != is.length) = false := by simp
      go_wp2_with fail
      refine wp_region_ext (by kernel_rfl) (by kernel_rfl) ?_
      repeat (go_big_quiet_step (fail))
      refine wpQuiet_nil ?_
      rintro w9 ⟨u9, rfl⟩
      have HX9 := Lib.hid u9.ext
      generalize u9.w = w9 at *
      replace t0 := HX9.out.cell t0
      replace u0 := HX9.out.cell u0
      replace hbc := HX9.out.cell hbc
      replace hcc := HX9.out.cell hcc
      clear e0 e1 e2 e3
      have HT0 := Lib.hid t0
      have HU0 := Lib.hid u0
      have HBC := Lib.hid hbc
      have HCC := Lib.hid hcc
      clear t0 u0 hbc hcc
      go_wp2_with fail
      go_loopw [6] (fun i wr => ∃ k : Nat, k ≤ is.length ∧ i = .int .i64 k ∧ Ext w9 wr) (fun i _ => is.length - (intOf i).toNat)
      case atStart => exact ⟨0, Nat.zero_le _, rfl, Ext.refl _⟩
      case round =>
        obtain ⟨k, hk, rfl, hx⟩ := hrel
        have HXI := Lib.hid hx
        clear hx
        have t0 := HXI.out.cell HT0.out
        have u0 := HXI.out.cell HU0.out
        have hbc := HXI.out.cell HBC.out
        have hcc := HXI.out.cell HCC.out
        by_cases hkl2 : k < is.length
        · obtain ⟨ib, io, hKA, hib, hic⟩ := HBK.out.rd.int hkl2
          obtain ⟨jb, jo, hLA, hjb, hjc⟩ := HCK.out.rd.int hkl2
          simp only at hKA hLA
          subst hKA hLA
          replace hic := (HXB.out.trans (HX2.out.trans (HX.out.trans (HX9.out.trans HXI.out)))).cell hic
          replace hjc := (HXB.out.trans (HX2.out.trans (HX.out.trans (HX9.out.trans HXI.out)))).cell hjc
          generalize is.getD k 0 = x at *
          have e0 : ∀ u : EW wr, u.w.cell? ⟨ta, 0, none⟩ = some (.slice (some ⟨bb, bo, none⟩) bs.length bc) := fun u => u.cell t0
          have e1 : ∀ u : EW wr, u.w.cell? ⟨tu, 0, none⟩ = some (.slice (some ⟨cb, co, none⟩) bs.length uc) := fun u => u.cell u0
          have e2 : ∀ u : EW wr, u.w.cell? ⟨bb, bo + b, none⟩ = some (.slice (some ⟨ib, io, none⟩) is.length kc) := fun u => u.cell hbc
          have e3 : ∀ u : EW wr, u.w.cell? ⟨cb, co + b, none⟩ = some (.slice (some ⟨jb, jo, none⟩) is.length lc) := fun u => u.cell hcc
          have e4 : ∀ u : EW wr, u.w.cell? ⟨ib, io + k, none⟩ = some (.int .i64 x) := fun u => u.cell hic
          have e5 : ∀ u : EW wr, u.w.cell? ⟨jb, jo + k, none⟩ = some (.int .i64 x) := fun u => u.cell hjc
          have hne2 : (x != x) = false := by simp
          go_wp2_with fail
          refine wp_region_ext (by kernel_rfl) (by kernel_rfl) ?_
          repeat (go_big_quiet_step (fail))
          refine wpQuiet_nil ?_
          rintro w8 ⟨u8, rfl⟩
          go_wp2
          go_roundw
          case rel => exact ⟨k + 1, by omega, by go_num, HXI.out.trans u8.ext⟩
          case measure => simp [intOf]; omega
        · go_wp2
          go_roundw
          case rel => exact ⟨b + 1, by omega, by go_num, HX.out.trans (HX9.out.trans HXI.out)⟩
          case measure => simp [intOf]; omega
    · go_wp2
      go_ret
      exact ⟨rfl, HXB.out.trans (HX2.out.trans HX.out)⟩

end Go.Proofs.Ytejdknmlggdndaa
