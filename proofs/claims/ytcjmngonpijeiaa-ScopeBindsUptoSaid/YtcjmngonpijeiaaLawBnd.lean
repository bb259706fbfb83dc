/- clevislaw14.ScopeBinds, where what comes in is of bulk at most 1048576. -/
import Derived.Test.YtcjmngonpijeiaaAwk14
import Derived.Test.YtcjmngonpijeiaaRLin
import Derived.Test.YtcjmngonpijeiaaRBind
import Derived.Test.YtcjmngonpijeiaaLawLks
import Derived.Deep.CondSized
namespace Go.Proofs.Ytcjmngonpijeiaa
set_option maxRecDepth 100000
open Go.ChangeShapes Go.WideShapes Go.ChangeAt Go.RowKit Go.Joins Pl
set_option linter.unusedVariables false

set_option maxRecDepth 100000 in
set_option maxHeartbeats 6400000 in
theorem walk_ScopeBinds (v0 v1 v2 v3 : Value) (i k : Int) (copied : Bool) (ims : List Im) (w : World) (h0 : InInt w v0 i) (h1 : InInt w v1 k) (h2 : InBool w v2 copied) (h3 : InImgs w v3 ims) (hk : 1 + (1 + (1 + ((ims.map fun m => m.t.bs.length).sum + 1 + 0))) ≤ 1048576) :
    Calls Try.prog 4 #[v0, v1, v2, v3] w fun e w' => e = .returned (.bool true) ∧ Below w.heap.size w w' := by
  obtain ⟨A, c, rfl, hI, hlc, hcm⟩ := h3
  obtain rfl := h2
  obtain ⟨rfl, _, _⟩ := h1
  obtain ⟨rfl, _, _⟩ := h0
  have hb : ∀ m ∈ ims, m.t.bs.length < 4294967296 := fun m hm => by
    have := le_sumL (List.mem_map_of_mem (f := fun m : Im => m.t.bs.length) hm)
    omega
  have HH := Lib.hid hI
  have hil := hI.len
  have HA := Lib.hid (fun w' (hx : Ext w w') => bind_any i k copied A c ims w' (hI.ext hx) hb)
  have HB := Lib.hid (fun w' (hx : Ext w w') => rbind_any i k copied A c ims w' (hI.ext hx) hb)
  clear hI hb hk
  unfold BdP at HA HB
  generalize bindP i k copied ims = bp at *
  obtain ⟨⟨fi, fk, fb⟩, fc⟩ := bp
  simp only at HA HB
  go_enter Try.func4, Try.ntmps4
  go_wp2_with fail
  refine (awake14_any _).mono ?_
  rintro e w1 ⟨rfl, hx1⟩
  have HX1 := Lib.hid hx1
  clear hx1
  go_wp2_with fail
  refine (HA.out _ HX1.out).mono ?_
  rintro e w2 ⟨rfl, hx2⟩
  go_wp2_with fail
  have hkf := Blk.new w2 29 #[.int .i64 fi, .int .i64 fk, .bool fb]
  have hxf := Ext.alloc w2 (.cells #[.int .i64 fi, .int .i64 fk, .bool fb] 29)
  generalize w2.alloc (.cells #[.int .i64 fi, .int .i64 fk, .bool fb] 29) = w3 at *
  generalize w2.heap.size = t10 at *
  refine (HB.out _ (HX1.out.trans (hx2.trans hxf))).mono ?_
  rintro e w4 ⟨rfl, hx4⟩
  have HX3 := Lib.hid (HX1.out.trans (hx2.trans (hxf.trans hx4)))
  have HK1' := Lib.hid (hx4.blk hkf)
  clear hx2 hxf hx4 hkf
  have hkg := Blk.new w4 34 #[.int .i64 fi, .int .i64 fk, .bool fb]
  have hxg := Ext.alloc w4 (.cells #[.int .i64 fi, .int .i64 fk, .bool fb] 34)
  by_cases hin : 0 ≤ i ∧ i < ims.length ∧ 0 ≤ k ∧ k < (ims.getD i.toNat im0).l.length
  · obtain ⟨hi0, hi1, hk0, hk1⟩ := hin
    obtain ⟨a, rfl⟩ : ∃ a : Nat, i = a := ⟨i.toNat, by omega⟩
    obtain ⟨b, rfl⟩ : ∃ b : Nat, k = b := ⟨k.toNat, by omega⟩
    rw [Int.toNat_natCast] at hk1
    have hlt : a < ims.length := by omega
    obtain ⟨yb, yo, rfl, hyb, hy⟩ := HH.out.rd.at hlt
    have hgd : ims.getD a im0 = ims[a] := by rw [List.getD_eq_getElem?_getD, List.getElem?_eq_getElem hlt]; rfl
    rw [hgd] at hk1
    have hIN := HH.out.each _ (List.getElem_mem hlt)
    clear hgd
    generalize ims[a] = m at *
    obtain ⟨d0, d1, d2, d3, d4, SA, sc, l, ⟨BA, bc, bs, WA, wc, ws, sh⟩, d9, d10, d11, d12, d13, d14⟩ := m
    obtain ⟨a0, a1, a2, a3, a4, a5, a6, a7, a8, a9, a10, a11, a12, a13, a14⟩ := hy
    simp only at a5 hk1
    have hrd := hIN.rd
    simp only at hrd
    clear a0 a1 a2 a3 a4 a6 a7 a8 a9 a10 a11 a12 a13 a14 hIN
    have hkl : b < l.length := by omega
    obtain ⟨zb, zo, rfl, hzb, hz⟩ := hrd.nine hkl
    clear hrd hk1 hi0 hi1 hk0
    have HW1 := Lib.hid (fun w' => own_any l[b] w')
    have HW2 := Lib.hid (fun w' => rown_any l[b] w')
    generalize l[b] = s at *
    generalize ownB s = ob at *
    obtain ⟨name, ver, old, kind, weak, vis, defd, val, size⟩ := s
    simp only [Sym.vals] at HW1 HW2
    have HX4 := Lib.hid (HX3.out.trans hxg)
    have HK1 := Lib.hid (hxg.blk HK1'.out)
    obtain ⟨s0, s1, s2, s3, s4, s5, s6, s7, s8⟩ := hz.ext HX4.out
    simp only at s0 s1 s2 s3 s4 s5 s6 s7 s8
    replace a5 := HX4.out.cell a5
    have HK2 := Lib.hid hkg
    clear hz hkg hxg
    go_wp2_with fail
    generalize w4.alloc (.cells #[.int .i64 fi, .int .i64 fk, .bool fb] 34) = w5 at *
    generalize w4.heap.size = t12 at *
    have f0 : ∀ u : EW w5, u.w.cell? _ = _ := fun u => u.cell s0
    have f1 : ∀ u : EW w5, u.w.cell? _ = _ := fun u => u.cell s1
    have f2 : ∀ u : EW w5, u.w.cell? _ = _ := fun u => u.cell s2
    have f3 : ∀ u : EW w5, u.w.cell? _ = _ := fun u => u.cell s3
    have f4 : ∀ u : EW w5, u.w.cell? _ = _ := fun u => u.cell s4
    have f5 : ∀ u : EW w5, u.w.cell? _ = _ := fun u => u.cell s5
    have f6 : ∀ u : EW w5, u.w.cell? _ = _ := fun u => u.cell s6
    have f7 : ∀ u : EW w5, u.w.cell? _ = _ := fun u => u.cell s7
    have f8 : ∀ u : EW w5, u.w.cell? _ = _ := fun u => u.cell s8
    have g5 : ∀ u : EW w5, u.w.cell? _ = _ := fun u => u.cell a5
    have hoo : (ob != ob) = false := bne_self_eq_false _
    clear s0 s1 s2 s3 s4 s5 s6 s7 s8 a5
    refine wp_region_ext (by kernel_rfl) (by kernel_rfl) ?_
    repeat (go_big_quiet_step ((first | (go_at_call 19; exact ext_call (HW1.out _)) | (go_at_call 20; exact ext_call (HW2.out _)))))
    refine wpQuiet_nil ?_
    rintro w6 ⟨u6, rfl⟩
    have u6x : Ext w5 u6.w := u6.ext
    generalize u6.w = w6 at *
    have r0 : w6.cell? ⟨t10, 0, none⟩ = some (.int .i64 fi) := (u6x.blk HK1.out).cell 0 rfl
    have r1 : w6.cell? ⟨t10, 1, none⟩ = some (.int .i64 fk) := (u6x.blk HK1.out).cell 1 rfl
    have r2 : w6.cell? ⟨t10, 2, none⟩ = some (.bool fb) := (u6x.blk HK1.out).cell 2 rfl
    have q0 : w6.cell? ⟨t12, 0, none⟩ = some (.int .i64 fi) := (u6x.blk HK2.out).cell 0 rfl
    have q1 : w6.cell? ⟨t12, 1, none⟩ = some (.int .i64 fk) := (u6x.blk HK2.out).cell 1 rfl
    have q2 : w6.cell? ⟨t12, 2, none⟩ = some (.bool fb) := (u6x.blk HK2.out).cell 2 rfl
    have hcc : (fc == fc) = true := beq_self_eq_true _
    go_wp2_with fail
    refine (alike_any fi fk fb _).mono ?_
    rintro e w7 ⟨rfl, hx7⟩
    go_wp2
    go_ret
    first | exact ⟨rfl, HX4.out.trans (u6x.trans hx7)⟩ | exact ⟨retv (by simp), HX4.out.trans (u6x.trans hx7)⟩
  · have HX4 := Lib.hid (HX3.out.trans hxg)
    have HK1 := Lib.hid (hxg.blk HK1'.out)
    have HK2 := Lib.hid hkg
    clear hkg hxg
    by_cases hi0 : 0 ≤ i
    · by_cases hi1 : i < ims.length
      · by_cases hk0 : 0 ≤ k
        · have hk1 : ¬ k < (ims.getD i.toNat im0).l.length := fun h => hin ⟨hi0, hi1, hk0, h⟩
          obtain ⟨a, rfl⟩ : ∃ a : Nat, i = a := ⟨i.toNat, by omega⟩
          rw [Int.toNat_natCast] at hk1
          have hlt : a < ims.length := by omega
          obtain ⟨yb, yo, rfl, hyb, hy⟩ := HH.out.rd.at hlt
          have hgd : ims.getD a im0 = ims[a] := by rw [List.getD_eq_getElem?_getD, List.getElem?_eq_getElem hlt]; rfl
          rw [hgd] at hk1
          clear hgd hin
          generalize ims[a] = m at *
          obtain ⟨d0, d1, d2, d3, d4, SA, sc, l, ⟨BA, bc, bs, WA, wc, ws, sh⟩, d9, d10, d11, d12, d13, d14⟩ := m
          obtain ⟨a0, a1, a2, a3, a4, a5, a6, a7, a8, a9, a10, a11, a12, a13, a14⟩ := hy
          simp only at a5 hk1
          replace a5 := HX4.out.cell a5
          clear a0 a1 a2 a3 a4 a6 a7 a8 a9 a10 a11 a12 a13 a14
          have l1 : decide ((0 : Int) ≤ (a : Int)) = true := decide_eq_true (by omega)
          have l2 : decide ((a : Int) < (ims.length : Int)) = true := decide_eq_true (by omega)
          have l3 : decide ((0 : Int) ≤ k) = true := decide_eq_true hk0
          have l4 : decide (k < (l.length : Int)) = false := decide_eq_false hk1
          clear hi0 hk0 hk1
          go_wp2_with fail
          generalize w4.alloc (.cells #[.int .i64 fi, .int .i64 fk, .bool fb] 34) = w5 at *
          generalize w4.heap.size = t12 at *
          have g5 : ∀ u : EW w5, u.w.cell? _ = _ := fun u => u.cell a5
          clear a5
          refine wp_region_ext (by kernel_rfl) (by kernel_rfl) ?_
          repeat (go_big_quiet_step (fail))
          refine wpQuiet_nil ?_
          rintro w6 ⟨u6, rfl⟩
          have u6x : Ext w5 u6.w := u6.ext
          generalize u6.w = w6 at *
          have r0 : w6.cell? ⟨t10, 0, none⟩ = some (.int .i64 fi) := (u6x.blk HK1.out).cell 0 rfl
          have r1 : w6.cell? ⟨t10, 1, none⟩ = some (.int .i64 fk) := (u6x.blk HK1.out).cell 1 rfl
          have r2 : w6.cell? ⟨t10, 2, none⟩ = some (.bool fb) := (u6x.blk HK1.out).cell 2 rfl
          have q0 : w6.cell? ⟨t12, 0, none⟩ = some (.int .i64 fi) := (u6x.blk HK2.out).cell 0 rfl
          have q1 : w6.cell? ⟨t12, 1, none⟩ = some (.int .i64 fk) := (u6x.blk HK2.out).cell 1 rfl
          have q2 : w6.cell? ⟨t12, 2, none⟩ = some (.bool fb) := (u6x.blk HK2.out).cell 2 rfl
          have hcc : (fc == fc) = true := beq_self_eq_true _
          go_wp2_with fail
          refine (alike_any fi fk fb _).mono ?_
          rintro e w7 ⟨rfl, hx7⟩
          go_wp2
          go_ret
          first | exact ⟨rfl, HX4.out.trans (u6x.trans hx7)⟩ | exact ⟨retv (by simp), HX4.out.trans (u6x.trans hx7)⟩
        · clear hin
          have l1 : decide ((0 : Int) ≤ i) = true := decide_eq_true hi0
          have l2 : decide (i < (ims.length : Int)) = true := decide_eq_true hi1
          have l3 : decide ((0 : Int) ≤ k) = false := decide_eq_false hk0
          clear hi0 hi1 hk0
          go_wp2_with fail
          generalize w4.alloc (.cells #[.int .i64 fi, .int .i64 fk, .bool fb] 34) = w5 at *
          generalize w4.heap.size = t12 at *
          refine wp_region_ext (by kernel_rfl) (by kernel_rfl) ?_
          repeat (go_big_quiet_step (fail))
          refine wpQuiet_nil ?_
          rintro w6 ⟨u6, rfl⟩
          have u6x : Ext w5 u6.w := u6.ext
          generalize u6.w = w6 at *
          have r0 : w6.cell? ⟨t10, 0, none⟩ = some (.int .i64 fi) := (u6x.blk HK1.out).cell 0 rfl
          have r1 : w6.cell? ⟨t10, 1, none⟩ = some (.int .i64 fk) := (u6x.blk HK1.out).cell 1 rfl
          have r2 : w6.cell? ⟨t10, 2, none⟩ = some (.bool fb) := (u6x.blk HK1.out).cell 2 rfl
          have q0 : w6.cell? ⟨t12, 0, none⟩ = some (.int .i64 fi) := (u6x.blk HK2.out).cell 0 rfl
          have q1 : w6.cell? ⟨t12, 1, none⟩ = some (.int .i64 fk) := (u6x.blk HK2.out).cell 1 rfl
          have q2 : w6.cell? ⟨t12, 2, none⟩ = some (.bool fb) := (u6x.blk HK2.out).cell 2 rfl
          have hcc : (fc == fc) = true := beq_self_eq_true _
          go_wp2_with fail
          refine (alike_any fi fk fb _).mono ?_
          rintro e w7 ⟨rfl, hx7⟩
          go_wp2
          go_ret
          first | exact ⟨rfl, HX4.out.trans (u6x.trans hx7)⟩ | exact ⟨retv (by simp), HX4.out.trans (u6x.trans hx7)⟩
      · clear hin
        have l1 : decide ((0 : Int) ≤ i) = true := decide_eq_true hi0
        have l2 : decide (i < (ims.length : Int)) = false := decide_eq_false hi1
        clear hi0 hi1
        go_wp2_with fail
        generalize w4.alloc (.cells #[.int .i64 fi, .int .i64 fk, .bool fb] 34) = w5 at *
        generalize w4.heap.size = t12 at *
        refine wp_region_ext (by kernel_rfl) (by kernel_rfl) ?_
        repeat (go_big_quiet_step (fail))
        refine wpQuiet_nil ?_
        rintro w6 ⟨u6, rfl⟩
        have u6x : Ext w5 u6.w := u6.ext
        generalize u6.w = w6 at *
        have r0 : w6.cell? ⟨t10, 0, none⟩ = some (.int .i64 fi) := (u6x.blk HK1.out).cell 0 rfl
        have r1 : w6.cell? ⟨t10, 1, none⟩ = some (.int .i64 fk) := (u6x.blk HK1.out).cell 1 rfl
        have r2 : w6.cell? ⟨t10, 2, none⟩ = some (.bool fb) := (u6x.blk HK1.out).cell 2 rfl
        have q0 : w6.cell? ⟨t12, 0, none⟩ = some (.int .i64 fi) := (u6x.blk HK2.out).cell 0 rfl
        have q1 : w6.cell? ⟨t12, 1, none⟩ = some (.int .i64 fk) := (u6x.blk HK2.out).cell 1 rfl
        have q2 : w6.cell? ⟨t12, 2, none⟩ = some (.bool fb) := (u6x.blk HK2.out).cell 2 rfl
        have hcc : (fc == fc) = true := beq_self_eq_true _
        go_wp2_with fail
        refine (alike_any fi fk fb _).mono ?_
        rintro e w7 ⟨rfl, hx7⟩
        go_wp2
        go_ret
        first | exact ⟨rfl, HX4.out.trans (u6x.trans hx7)⟩ | exact ⟨retv (by simp), HX4.out.trans (u6x.trans hx7)⟩
    · clear hin
      have l1 : decide ((0 : Int) ≤ i) = false := decide_eq_false hi0
      clear hi0
      go_wp2_with fail
      generalize w4.alloc (.cells #[.int .i64 fi, .int .i64 fk, .bool fb] 34) = w5 at *
      generalize w4.heap.size = t12 at *
      refine wp_region_ext (by kernel_rfl) (by kernel_rfl) ?_
      repeat (go_big_quiet_step (fail))
      refine wpQuiet_nil ?_
      rintro w6 ⟨u6, rfl⟩
      have u6x : Ext w5 u6.w := u6.ext
      generalize u6.w = w6 at *
      have r0 : w6.cell? ⟨t10, 0, none⟩ = some (.int .i64 fi) := (u6x.blk HK1.out).cell 0 rfl
      have r1 : w6.cell? ⟨t10, 1, none⟩ = some (.int .i64 fk) := (u6x.blk HK1.out).cell 1 rfl
      have r2 : w6.cell? ⟨t10, 2, none⟩ = some (.bool fb) := (u6x.blk HK1.out).cell 2 rfl
      have q0 : w6.cell? ⟨t12, 0, none⟩ = some (.int .i64 fi) := (u6x.blk HK2.out).cell 0 rfl
      have q1 : w6.cell? ⟨t12, 1, none⟩ = some (.int .i64 fk) := (u6x.blk HK2.out).cell 1 rfl
      have q2 : w6.cell? ⟨t12, 2, none⟩ = some (.bool fb) := (u6x.blk HK2.out).cell 2 rfl
      have hcc : (fc == fc) = true := beq_self_eq_true _
      go_wp2_with fail
      refine (alike_any fi fk fb _).mono ?_
      rintro e w7 ⟨rfl, hx7⟩
      go_wp2
      go_ret
      first | exact ⟨rfl, HX4.out.trans (u6x.trans hx7)⟩ | exact ⟨retv (by simp), HX4.out.trans (u6x.trans hx7)⟩

set_option maxRecDepth 100000 in
theorem liftedU_ScopeBinds (os : Os) (started : os.Started) (H : Type) (enc : TypeId × Value → H) (F : Stop.Interp) :
    ReturnsInHanded {} Try.checked os 4 .any ((Rows.OpenSpec.upto Rows.scopeBindsSpec).pre6 enc Try.prog Try.f4 Rows.scopeBindsUptoRow.domain false) (((Rows.OpenSpec.upto Rows.scopeBindsSpec).at F).post enc Try.prog Try.f4 false true false false) := by
  refine returnsInHanded_of_cond_sized (C := Try.checked) (s := Rows.OpenSpec.upto Rows.scopeBindsSpec) (k := Rows.uptoSmall) rfl own started (by kernel_rfl) Try.func4
    (OpenSpec.witness (enc := enc) (C := Try.checked) (s := Rows.OpenSpec.upto Rows.scopeBindsSpec) (k := Rows.uptoSmall) rfl false ⟨#[], #[.int .i64 0, .int .i64 0, .bool false, .slice none 0 0], []⟩ 8 (by kernel_rfl) (by kernel_rfl) (by kernel_rfl)
      (x := ([.lit (.int .i64 0), .lit (.int .i64 0), .lit (.bool false), .nil], [], [])) (by kernel_rfl) rfl (by kernel_rfl)) ?_
  intro W base args ds gs before hval0 hW _ hk0 hsz0 _
  have hsz : (DataW.weightsEach Try.prog (Try.f4.params.toList ++ Rows.scopeBindsSpec.plain.varTypes Try.prog) (ds ++ gs)).all (· ≤ reachBytes) = true := hsz0
  clear hsz0
  have hval : ∀ (j : Nat) t v, Try.f4.params[j]? = some t → args[j]? = some v → Value.okWide Try.prog W .any base t v := hval0
  have hW' := hW
  obtain ⟨p, q, hA0, hV, rfl, hfz, hnd⟩ := hW
  have hA : DataW.TrodAll enc Try.prog W 0 (fun _ => true) true Try.f4.params.toList args.toList ds p := hA0
  rw [Try.params4] at hA hval hsz
  obtain ⟨v0, vs0, d0, ds0, p0, q0, hargs, rfl, rfl, h0, r0⟩ := trodAll_cons hA
  obtain ⟨v1, vs1, d1, ds1, p1, q1, rfl, rfl, rfl, h1, r1⟩ := trodAll_cons r0
  obtain ⟨v2, vs2, d2, ds2, p2, q2, rfl, rfl, rfl, h2, r2⟩ := trodAll_cons r1
  obtain ⟨v3, vs3, d3, ds3, p3, q3, rfl, rfl, rfl, h3, r3⟩ := trodAll_cons r2
  obtain ⟨rfl, rfl, rfl⟩ := trodAll_nil r3
  obtain rfl : args = #[v0, v1, v2, v3] := by cases args; simp_all
  obtain ⟨rfl, rfl⟩ := trodVars_none hV
  have hk : Rows.uptoBulkAll [d0, d1, d2, d3] ≤ 1048576 := of_decide_eq_true hk0
  simp only [Rows.uptoBulkAll] at hk
  have lt0 : ∀ x ∈ p0, x.block < W.heap.size := by obtain ⟨m, hm⟩ := h0; exact DataW.trod_lt m _ _ _ hm
  obtain ⟨x0, hx0, hb0⟩ := open_InIntU (hval 0 3 v0 rfl rfl) h0 (light_each (j := 0) hsz rfl rfl)
  have lt1 : ∀ x ∈ p1, x.block < W.heap.size := by obtain ⟨m, hm⟩ := h1; exact DataW.trod_lt m _ _ _ hm
  obtain ⟨x1, hx1, hb1⟩ := open_InIntU (hval 1 3 v1 rfl rfl) h1 (light_each (j := 1) hsz rfl rfl)
  have lt2 : ∀ x ∈ p2, x.block < W.heap.size := by obtain ⟨m, hm⟩ := h2; exact DataW.trod_lt m _ _ _ hm
  obtain ⟨x2, hx2, hb2⟩ := open_InBoolU (hval 2 4 v2 rfl rfl) h2 (light_each (j := 2) hsz rfl rfl)
  have lt3 : ∀ x ∈ p3, x.block < W.heap.size := by obtain ⟨m, hm⟩ := h3; exact DataW.trod_lt m _ _ _ hm
  obtain ⟨x3, hx3, hb3⟩ := open_InImgsU (hval 3 26 v3 rfl rfl) h3 (light_each (j := 3) hsz rfl rfl)
  clear hA0 hval0
  refine (walk_ScopeBinds v0 v1 v2 v3 x0 x1 x2 x3 W hx0 hx1 hx2 hx3 (by omega)).mono fun e W' ⟨he, bel⟩ => ?_
  subst he
  exact ⟨_, rfl, _, _, _, [], _, [], hW', trodAll_mk1 (shut_bool Try.underlying4 _), (trodAll_cons_mk (Below.trod laidOut (by kernel_rfl) (of_decide_eq_true (by kernel_rfl)) h0 bel lt0) (trodAll_cons_mk (Below.trod laidOut (by kernel_rfl) (of_decide_eq_true (by kernel_rfl)) h1 bel lt1) (trodAll_cons_mk (Below.trod laidOut (by kernel_rfl) (of_decide_eq_true (by kernel_rfl)) h2 bel lt2) (trodAll_cons_mk (Below.trod laidOut (by kernel_rfl) (of_decide_eq_true (by kernel_rfl)) h3 bel lt3) trodAll_mk0)))), rfl, bel.frame _, fun h => by cases h⟩

/-- the statement, where what comes in is of bulk at most 1048576 -/
theorem holds_ScopeBindsUpto : Rows.ScopeBindsUptoSaid :=
  OpenClaim.holds_of_cond 4 Try.f4 rfl rfl rfl rfl rfl rfl rfl ⟨rfl, rfl, rfl, rfl, rfl⟩ rfl rfl rfl rfl rfl (by kernel_rfl) Try.func4 (by kernel_rfl)
    (of_decide_eq_true (by kernel_rfl)) (by unfold Func.isWrapper; first | (rw [if_pos (by decide +kernel)]; kernel_rfl) | (rw [if_neg (by decide +kernel)]; exact ⟨rfl, rfl⟩))
    (fun os started H enc _ F => liftedU_ScopeBinds os started H enc F)
#print axioms holds_ScopeBindsUpto

end Go.Proofs.Ytcjmngonpijeiaa
