/- clevislaw14.ScopeWeak, where what comes in is of bulk at most 1048576. -/
import Derived.Test.YtcjmngonpijeiaaAwk14
import Derived.Test.YtcjmngonpijeiaaWeakM
import Derived.Test.YtcjmngonpijeiaaLawLks
import Derived.Deep.CondSized
namespace Go.Proofs.Ytcjmngonpijeiaa
set_option maxRecDepth 100000
open Go.ChangeShapes Go.WideShapes Go.ChangeAt Go.RowKit Go.Joins Pl
set_option linter.unusedVariables false

theorem info_imgW : (Try.prog.info? 60).map (fun i => (i.zero, i.size, i.bytes)) = some (some (.agg im0.vals.toArray), 15, 304) := by kernel_rfl
theorem info_symW : (Try.prog.info? 25).map (fun i => (i.zero, i.size, i.bytes)) = some (some (.agg sym0.vals.toArray), 9, 88) := by kernel_rfl

set_option maxRecDepth 100000 in
set_option maxHeartbeats 6400000 in
theorem walk_ScopeWeak (v0 v1 v2 v3 : Value) (i k : Int) (copied : Bool) (ims : List Im) (w : World) (h0 : InInt w v0 i) (h1 : InInt w v1 k) (h2 : InBool w v2 copied) (h3 : InImgsW w v3 ims) (hk : 1 + (1 + (1 + ((ims.map fun m => m.t.bs.length).sum + ims.length + 1 + 0))) ≤ 1048576) :
    Calls Try.prog 7 #[v0, v1, v2, v3] w fun e w' => e = .returned (.bool true) ∧ Below w.heap.size w w' := by
  obtain ⟨⟨A, c, rfl, hI, hlc, hcm⟩, h88⟩ := h3
  obtain rfl := h2
  obtain ⟨rfl, _, _⟩ := h1
  obtain ⟨rfl, _, _⟩ := h0
  obtain ⟨i0, hq0, hz0, hz1, hz2⟩ := info_parts info_imgW
  obtain ⟨j0, hj0, hy0, hy1, hy2⟩ := info_parts info_symW
  have hb : ∀ m ∈ ims, m.t.bs.length < 4294967296 := fun m hm => by
    have := le_sumL (List.mem_map_of_mem (f := fun m : Im => m.t.bs.length) hm)
    omega
  have hnm : ims.length ≤ 1048576 := by omega
  have HH := Lib.hid hI
  have HBB := Lib.hid hb
  have H88 := Lib.hid h88
  have hil := hI.len
  have HA := Lib.hid (fun w' (hx : Ext w w') => bind_any i k copied A c ims w' (hI.ext hx) hb)
  clear hI hb hk h88
  unfold BdP at HA
  go_enter Try.func7, Try.ntmps7
  go_wp2_with fail
  refine (awake14_any _).mono ?_
  rintro e w1 ⟨rfl, hx1⟩
  have HX1 := Lib.hid hx1
  clear hx1
  go_wp2_with fail
  refine (HA.out _ HX1.out).mono ?_
  rintro e w2 ⟨rfl, hx2⟩
  have HX2 := Lib.hid (HX1.out.trans hx2)
  clear hx2
  by_cases hin : 0 ≤ i ∧ i < ims.length ∧ 0 ≤ k ∧ k < (ims.getD i.toNat im0).l.length
  · obtain ⟨hi0, hi1, hk0, hk1⟩ := hin
    obtain ⟨a, rfl⟩ : ∃ a : Nat, i = a := ⟨i.toNat, by omega⟩
    obtain ⟨b, rfl⟩ : ∃ b : Nat, k = b := ⟨k.toNat, by omega⟩
    rw [Int.toNat_natCast] at hk1
    have hlt : a < ims.length := by omega
    obtain ⟨yb, yo, rfl, hyb, hy⟩ := HH.out.rd.at hlt
    have hgd : ims.getD a im0 = ims[a] := by rw [List.getD_eq_getElem?_getD, List.getElem?_eq_getElem hlt]; rfl
    rw [hgd] at hk1
    have hkl : b < ims[a].l.length := by omega
    have HIN := Lib.hid (HH.out.each _ (List.getElem_mem hlt))
    have HM88 := Lib.hid (H88.out _ (List.getElem_mem hlt))
    have HI2 := Lib.hid (HH.out.ext HX2.out)
    have HTW := Lib.hid (fun w5 g1 k1 g3 k3 (hx : Ext w2 w5) h1 h3 => bind_tw_any (w5 := w5) (g1 := g1) (k1 := k1) (g3 := g3) (k3 := k3) copied HI2.out HBB.out hx h1 hlt h3 hkl)
    have HTC := Lib.hid (fun w5 g1 k1 g3 k3 h1 h3 => tw_cells (w5 := w5) (B1 := w2.heap.size) (B3 := w2.heap.size) (g1 := g1) (k1 := k1) (g3 := g3) (k3 := k3) h1 hlt h3 hkl)
    generalize bindP a b copied ims = bp at *
    obtain ⟨⟨f1, f2, f3⟩, fc⟩ := bp
    simp only at HTW ⊢
    clear hgd hk1 HA
    generalize hws : ims[a].l[b] = s at *
    clear hws
    generalize ims[a] = m at *
    obtain ⟨d0, d1, d2, d3, d4, SA, sc, l, ⟨BA, bc, bs, WA, wc, ws, sh⟩, d9, d10, d11, d12, d13, d14⟩ := m
    obtain ⟨a0, a1, a2, a3, a4, a5, a6, a7, a8, a9, a10, a11, a12, a13, a14⟩ := hy
    simp only at a5 HTW HTC HM88 hkl
    have HA5 := Lib.hid (HX2.out.cell a5)
    replace a5 := HX2.out.cell a5
    clear a0 a1 a2 a3 a4 a6 a7 a8 a9 a10 a11 a12 a13 a14
    have hyl : yb < w2.heap.size := Nat.lt_of_lt_of_le hyb HX2.out.size
    clear hyb
    go_wp2_with (at_builtin; go_loud (refine wpList_app_rdN rfl _ _ 26 rfl w2.heap.size 60 i0 (.agg im0.vals.toArray) 15 304 Try.underlying26 hq0 hz0 hz1 hz2 rfl (by omega) (.slice none 0 0) 0 [] rfl (World.ownsRow_nil _ _ _ _) (some ⟨yb, yo, none⟩) c (flat ims) ims.length rfl (flat_len ims) ((HI2.out.rd.ext (Ext.alloc _ _)).flat) (flat_oneCell _) ?d3 ?d4 ?d5 ?_))
    case d3 => unfold maxLen; omega
    case d4 => omega
    case d5 => exact (Ext.alloc _ _).size
    intro v1 w4 p1 g1 _
    obtain ⟨g1', k1, rfl, _⟩ := own_at p1 (by omega)
    have HO1 := Lib.hid p1
    have HX4 := Lib.hid ((Ext.alloc w2 _).trans (ext_none g1))
    have HK4 := Lib.hid ((ext_none g1).blk (Blk.new w2 29 #[.int .i64 f1, .int .i64 f2, .bool f3]))
    clear p1 g1 hyl
    replace a5 := HX4.out.cell HA5.out
    go_wp2_with (at_builtin; go_loud (refine wpList_app_rdN rfl _ _ 49 rfl w2.heap.size 25 j0 (.agg sym0.vals.toArray) 9 88 Try.underlying49 hj0 hy0 hy1 hy2 rfl (by omega) (.slice none 0 0) 0 [] rfl (World.ownsRow_nil _ _ _ _) SA sc (flatY l) l.length rfl (flatY_len l) (RdY.flat (HIN.out.rd.ext (HX2.out.trans HX4.out))) (flatY_oneCell _) ?d3 ?d4 ?d5 ?_))
    case d3 => have := HM88.out; unfold maxLen; omega
    case d4 => have := HM88.out; omega
    case d5 => exact HX4.out.size
    intro v3 w5 p3 g3 _
    obtain ⟨g3', k3, rfl, _⟩ := own_at p3 (by omega)
    have HX5 := Lib.hid (HX4.out.trans (ext_none g3))
    have HO1' := Lib.hid ((ext_none g3).own HO1.out)
    obtain ⟨hne, hs1, hs3, c3, c1, z3, z1⟩ := HTC.out _ _ _ _ _ HO1'.out p3
    obtain ⟨hXW, gc, hcd, hcall⟩ := HTW.out _ _ _ _ _ HX5.out HO1'.out p3
    have HXW := Lib.hid hXW
    have HCD := Lib.hid hcd
    have HCL := Lib.hid hcall
    have HK5 := Lib.hid ((ext_none g3).blk HK4.out)
    have hn1 := own_ne HO1'.out HK5.out (by decide)
    have hn3 := own_ne p3 HK5.out (by decide)
    have HKW := Lib.hid ((HK5.out.far (p := ⟨g3', b * 9 + 4, none⟩) hn3 (.bool (!s.weak))).far (p := ⟨g1', a * 15 + 5, none⟩) hn1 (.slice (some ⟨g3', 0, none⟩) l.length k3))
    clear hXW hcd hcall p3 g3 a5 HO1 HK4 HK5 hn1 hn3
    go_wp2_with fail
    refine HCL.out.mono ?_
    rintro e w8 ⟨rfl, hx8⟩
    have HK8 := Lib.hid (hx8.blk HKW.out)
    have r0 : w8.cell? ⟨w2.heap.size, 0, none⟩ = some (.int .i64 f1) := HK8.out.cell 0 rfl
    have r1 : w8.cell? ⟨w2.heap.size, 1, none⟩ = some (.int .i64 f2) := HK8.out.cell 1 rfl
    have r2 : w8.cell? ⟨w2.heap.size, 2, none⟩ = some (.bool f3) := HK8.out.cell 2 rfl
    have hrl : w2.heap.size < w8.heap.size := HK8.out.lt
    have HXF := Lib.hid (HX2.out.trans (HXW.out.trans (hx8.trans (Ext.alloc w8 (.cells #[.int .i64 f1, .int .i64 f2, .bool f3] 29)))))
    clear hx8 hne hs1 hs3 c3 c1 z3 z1
    rcases HCD.out with ⟨rfl, rfl, rfl⟩ | ⟨rfl, ⟨rfl, rfl⟩ | ⟨rfl, rfl⟩⟩
    · go_wp2
      go_ret
      first | exact ⟨rfl, HXF.out⟩ | exact ⟨retv (by simp), HXF.out⟩
    · go_wp2
      go_ret
      first | exact ⟨rfl, HXF.out⟩ | exact ⟨retv (by simp), HXF.out⟩
    · go_wp2
      go_ret
      first | exact ⟨rfl, HXF.out⟩ | exact ⟨retv (by simp), HXF.out⟩
  · have HE : bindP i k copied ims = ((0, 0, false), 140) := by
      unfold bindP
      rw [if_pos (by
        by_cases h1 : i < 0
        · exact .inl h1
        by_cases h2 : (ims.length : Int) ≤ i
        · exact .inr (.inl h2)
        by_cases h3 : k < 0
        · exact .inr (.inr (.inl h3))
        exact .inr (.inr (.inr (by omega))))]
    rw [HE]
    simp only
    have HXF := Lib.hid (HX2.out.trans (Ext.alloc w2 (.cells #[.int .i64 0, .int .i64 0, .bool false] 29)))
    by_cases hi0 : i < 0
    · clear hin HE
      go_wp2
      go_ret
      first | exact ⟨rfl, HXF.out⟩ | exact ⟨retv (by simp), HXF.out⟩
    by_cases hi1 : (ims.length : Int) ≤ i
    · clear hin HE
      go_wp2
      go_ret
      first | exact ⟨rfl, HXF.out⟩ | exact ⟨retv (by simp), HXF.out⟩
    by_cases hk0 : k < 0
    · clear hin HE
      go_wp2
      go_ret
      first | exact ⟨rfl, HXF.out⟩ | exact ⟨retv (by simp), HXF.out⟩
    obtain ⟨a, rfl⟩ : ∃ a : Nat, i = a := ⟨i.toNat, by omega⟩
    rw [Int.toNat_natCast] at hin
    have hlt : a < ims.length := by omega
    obtain ⟨yb, yo, rfl, hyb, hy⟩ := HH.out.rd.at hlt
    have hgd : ims.getD a im0 = ims[a] := by rw [List.getD_eq_getElem?_getD, List.getElem?_eq_getElem hlt]; rfl
    rw [hgd] at hin
    have hk1 : (ims[a].l.length : Int) ≤ k := by omega
    clear hgd hin HE
    generalize ims[a] = m at *
    obtain ⟨d0, d1, d2, d3, d4, SA, sc, l, ⟨BA, bc, bs, WA, wc, ws, sh⟩, d9, d10, d11, d12, d13, d14⟩ := m
    obtain ⟨a0, a1, a2, a3, a4, a5, a6, a7, a8, a9, a10, a11, a12, a13, a14⟩ := hy
    simp only at a5 hk1
    replace a5 := HX2.out.cell a5
    clear a0 a1 a2 a3 a4 a6 a7 a8 a9 a10 a11 a12 a13 a14
    have hyl : yb < w2.heap.size := Nat.lt_of_lt_of_le hyb HX2.out.size
    go_wp2
    go_ret
    first | exact ⟨rfl, HXF.out⟩ | exact ⟨retv (by simp), HXF.out⟩

set_option maxRecDepth 100000 in
theorem liftedU_ScopeWeak (os : Os) (started : os.Started) (H : Type) (enc : TypeId × Value → H) (F : Stop.Interp) :
    ReturnsInHanded {} Try.checked os 7 .any ((Rows.OpenSpec.upto Rows.scopeWeakSpec).pre6 enc Try.prog Try.f7 Rows.scopeWeakUptoRow.domain false) (((Rows.OpenSpec.upto Rows.scopeWeakSpec).at F).post enc Try.prog Try.f7 false true false false) := by
  refine returnsInHanded_of_cond_sized (C := Try.checked) (s := Rows.OpenSpec.upto Rows.scopeWeakSpec) (k := Rows.uptoSmall) rfl own started (by kernel_rfl) Try.func7
    (OpenSpec.witness (enc := enc) (C := Try.checked) (s := Rows.OpenSpec.upto Rows.scopeWeakSpec) (k := Rows.uptoSmall) rfl false ⟨#[], #[.int .i64 0, .int .i64 0, .bool false, .slice none 0 0], []⟩ 8 (by kernel_rfl) (by kernel_rfl) (by kernel_rfl)
      (x := ([.lit (.int .i64 0), .lit (.int .i64 0), .lit (.bool false), .nil], [], [])) (by kernel_rfl) rfl (by kernel_rfl)) ?_
  intro W base args ds gs before hval0 hW _ hk0 hsz0 _
  have hsz : (DataW.weightsEach Try.prog (Try.f7.params.toList ++ Rows.scopeWeakSpec.plain.varTypes Try.prog) (ds ++ gs)).all (· ≤ reachBytes) = true := hsz0
  clear hsz0
  have hval : ∀ (j : Nat) t v, Try.f7.params[j]? = some t → args[j]? = some v → Value.okWide Try.prog W .any base t v := hval0
  have hW' := hW
  obtain ⟨p, q, hA0, hV, rfl, hfz, hnd⟩ := hW
  have hA : DataW.TrodAll enc Try.prog W 0 (fun _ => true) true Try.f7.params.toList args.toList ds p := hA0
  rw [Try.params7] at hA hval hsz
  obtain ⟨v0, vs0, d0, ds0, p0, q0, hargs, rfl, rfl, h0, r0⟩ := trodAll_cons hA
  obtain ⟨v1, vs1, d1, ds1, p1, q1, rfl, rfl, rfl, h1, r1⟩ := trodAll_cons r0
  obtain ⟨v2, vs2, d2, ds2, p2, q2, rfl, rfl, rfl, h2, r2⟩ := trodAll_cons r1
  obtain ⟨v3, vs3, d3, ds3, p3, q3, rfl, rfl, rfl, h3, r3⟩ := trodAll_cons r2
  obtain ⟨rfl, rfl, rfl⟩ := trodAll_nil r3
  obtain rfl : args = #[v0, v1, v2, v3] := by cases args; simp_all
  obtain ⟨rfl, rfl⟩ := trodVars_none hV
  have hk : Rows.uptoBulkAll [d0, d1, d2, d3] ≤ 1048576 := of_decide_eq_true hk0
  simp only [Rows.uptoBulkAll] at hk
  have lt0 : ∀ x ∈ p0, x.block < W.heap.size := by obtain ⟨m, hm⟩ := h0; exact DataW.trod_lt m _ _ _ hm
  obtain ⟨x0, hx0, hb0⟩ := open_InIntU (hval 0 3 v0 rfl rfl) h0 (light_each (j := 0) hsz rfl rfl)
  have lt1 : ∀ x ∈ p1, x.block < W.heap.size := by obtain ⟨m, hm⟩ := h1; exact DataW.trod_lt m _ _ _ hm
  obtain ⟨x1, hx1, hb1⟩ := open_InIntU (hval 1 3 v1 rfl rfl) h1 (light_each (j := 1) hsz rfl rfl)
  have lt2 : ∀ x ∈ p2, x.block < W.heap.size := by obtain ⟨m, hm⟩ := h2; exact DataW.trod_lt m _ _ _ hm
  obtain ⟨x2, hx2, hb2⟩ := open_InBoolU (hval 2 4 v2 rfl rfl) h2 (light_each (j := 2) hsz rfl rfl)
  have lt3 : ∀ x ∈ p3, x.block < W.heap.size := by obtain ⟨m, hm⟩ := h3; exact DataW.trod_lt m _ _ _ hm
  obtain ⟨x3, hx3, hb3⟩ := open_InImgsW (hval 3 26 v3 rfl rfl) h3 (light_each (j := 3) hsz rfl rfl)
  clear hA0 hval0
  refine (walk_ScopeWeak v0 v1 v2 v3 x0 x1 x2 x3 W hx0 hx1 hx2 hx3 (by omega)).mono fun e W' ⟨he, bel⟩ => ?_
  subst he
  exact ⟨_, rfl, _, _, _, [], _, [], hW', trodAll_mk1 (shut_bool Try.underlying4 _), (trodAll_cons_mk (Below.trod laidOut (by kernel_rfl) (of_decide_eq_true (by kernel_rfl)) h0 bel lt0) (trodAll_cons_mk (Below.trod laidOut (by kernel_rfl) (of_decide_eq_true (by kernel_rfl)) h1 bel lt1) (trodAll_cons_mk (Below.trod laidOut (by kernel_rfl) (of_decide_eq_true (by kernel_rfl)) h2 bel lt2) (trodAll_cons_mk (Below.trod laidOut (by kernel_rfl) (of_decide_eq_true (by kernel_rfl)) h3 bel lt3) trodAll_mk0)))), rfl, bel.frame _, fun h => by cases h⟩

/-- the statement, where what comes in is of bulk at most 1048576 -/
theorem holds_ScopeWeakUpto : Rows.ScopeWeakUptoSaid :=
  OpenClaim.holds_of_cond 7 Try.f7 rfl rfl rfl rfl rfl rfl rfl ⟨rfl, rfl, rfl, rfl, rfl⟩ rfl rfl rfl rfl rfl (by kernel_rfl) Try.func7 (by kernel_rfl)
    (of_decide_eq_true (by kernel_rfl)) (by unfold Func.isWrapper; first | (rw [if_pos (by decide +kernel)]; kernel_rfl) | (rw [if_neg (by decide +kernel)]; exact ⟨rfl, rfl⟩))
    (fun os started H enc _ F => liftedU_ScopeWeak os started H enc F)
#print axioms holds_ScopeWeakUpto

end Go.Proofs.Ytcjmngonpijeiaa
