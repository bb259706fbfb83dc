/- SieveAdds: any filter is right or not, with any hashes besides is what the reference says, and stays as it was. No condition. -/
import Derived.Test.YtmjkkmmgbndcoaaOpen
import Derived.Test.YtmjkkmmgbndcoaaSieve5
import Derived.Test.YtmjkkmmgbndcoaaSieve7
import Derived.Test.YtmjkkmmgbndcoaaSieve8
namespace Go.Proofs.Ytmjkkmmgbndcoaa
open Go.ChangeShapes Go.WideShapes Go.ChangeAt Go.RowKit Pl
set_option linter.unusedVariables false

set_option maxHeartbeats 1600000 in
theorem adds_no (A : Option Addr) (cap : Nat) (ws : List Nat) (sh : Int) (H : Option Addr) (hcap : Nat) (hl : Nat) (w : World) (hws : ∀ x ∈ ws, x < 18446744073709551616) (hlw : ws.length * 8 ≤ 140737488351232) (hR : Rd w A (u64s ws))
    (hr : rightB ws.length sh = false) :
    Calls Try.prog 4 #[.agg #[.slice A ws.length cap, .int .i64 sh], .slice H hl hcap] w fun e w' => e = .returned (.bool true) ∧ Below w.heap.size w w' := by
  have HR := Lib.hid hr
  have HA := Lib.hid hR
  have hm : ws.length ≤ maxLen := by unfold maxLen; omega
  have HM := Lib.hid hm
  have HB := Lib.hid hws
  clear hr hm hR hws
  go_enter Try.func4, Try.ntmps4
  go_wp2_with fail
  have k0 := Blk.new w 26 #[.slice A ws.length cap, .int .i64 sh]
  have xx := Ext.alloc w (.cells #[.slice A ws.length cap, .int .i64 sh] 26)
  generalize w.alloc (.cells #[.slice A ws.length cap, .int .i64 sh] 26) = w0 at *
  refine (awake_any _).mono ?_
  rintro e w1 ⟨rfl, hb1⟩
  have x1 : Ext w0 w1 := hb1
  replace xx := xx.trans x1
  replace k0 := x1.blk k0
  have c0 : w1.cell? ⟨w.heap.size, 0, none⟩ = some (.slice A ws.length cap) := k0.cell 0 rfl
  have c1 : w1.cell? ⟨w.heap.size, 1, none⟩ = some (.int .i64 sh) := k0.cell 1 rfl
  clear x1 hb1 k0
  go_wp2_with fail
  refine (refAdd_any A cap sh ws none 0 [] w1 HB.out (by simp) (by simp) hlw (xx.rd HA.out) (Rd.nil _ _) (.inl rfl)).mono ?_
  rintro e w2 ⟨A2, c2, rfl, o2, hb2⟩
  have x2 : Ext w1 w2 := hb2
  have x3 := Ext.alloc w2 (.cells #[.slice A2 ws.length c2, .int .i64 sh] 26)
  replace c0 := (x2.trans x3).cell c0
  replace c1 := (x2.trans x3).cell c1
  replace xx := xx.trans (x2.trans x3)
  clear o2 hb2
  go_wp2_with fail
  generalize w2.alloc (.cells #[.slice A2 ws.length c2, .int .i64 sh] 26) = w3 at *
  refine (add_no _ _ _ _ _ _ HM.out HR.out).mono ?_
  rintro e w4 ⟨rfl, hb4⟩
  have x4 : Ext w3 w4 := hb4
  have x5 := Ext.alloc w4 (.cells #[.slice none 0 0, .int .i64 0] 26)
  have d0 := cnew w4 #[.slice none 0 0, .int .i64 0] 26 0 rfl
  replace c0 := (x4.trans x5).cell c0
  replace c1 := (x4.trans x5).cell c1
  replace xx := xx.trans (x4.trans x5)
  clear hb4 x2 x3
  go_wp2_with fail
  generalize w4.alloc (.cells #[.slice none 0 0, .int .i64 0] 26) = w5 at *
  refine (refRight_any _ _ _ _ _ HM.out).mono ?_
  rintro e w6 ⟨rfl, hb6⟩
  rw [HR.out]
  have x6 : Ext w5 w6 := hb6
  replace c0 := x6.cell c0
  replace c1 := x6.cell c1
  have d0' : w6.cell? ⟨w4.heap.size, 0, none⟩ = some (.slice none 0 0) := x6.cell d0
  replace xx := xx.trans x6
  clear d0 x4 x5 hb6 x6
  go_wp2_with fail
  refine (right_no _ _ _ _ _ HM.out HR.out).mono ?_
  rintro e w7 ⟨rfl, hb7⟩
  have x7 : Ext w6 w7 := hb7
  go_wp2
  go_ret
  exact ⟨rfl, xx.trans x7⟩

set_option maxHeartbeats 3200000 in
theorem adds_yes (A : Option Addr) (cap : Nat) (ws : List Nat) (sh : Nat) (H : Option Addr) (hcap : Nat) (hs : List Nat) (w : World) (hws : ∀ x ∈ ws, x < 18446744073709551616) (hR : Rd w A (u64s ws))
    (hhs : ∀ x ∈ hs, x < 4294967296) (hlen : hs.length ≤ maxLen) (hH : Rd w H (u32s hs)) (hr : rightB ws.length sh = true) :
    Calls Try.prog 4 #[.agg #[.slice A ws.length cap, .int .i64 sh], .slice H hs.length hcap] w fun e w' => e = .returned (.bool true) ∧ Below w.heap.size w w' := by
  have hbd := rightB_bd hr
  have HR := Lib.hid hr
  have HA := Lib.hid hR
  have hm : ws.length ≤ maxLen := by unfold maxLen; omega
  have HM := Lib.hid hm
  have HB := Lib.hid hws
  have HH := Lib.hid hH
  have HHS := Lib.hid hhs
  have HPL := Lib.hid (putAll_length sh hs ws)
  clear hr hm hR hws hH hhs
  go_enter Try.func4, Try.ntmps4
  go_wp2_with fail
  have k0 := Blk.new w 26 #[.slice A ws.length cap, .int .i64 sh]
  have xx := Ext.alloc w (.cells #[.slice A ws.length cap, .int .i64 sh] 26)
  generalize w.alloc (.cells #[.slice A ws.length cap, .int .i64 sh] 26) = w0 at *
  refine (awake_any _).mono ?_
  rintro e w1 ⟨rfl, hb1⟩
  have x1 : Ext w0 w1 := hb1
  replace xx := xx.trans x1
  replace k0 := x1.blk k0
  have c0 : w1.cell? ⟨w.heap.size, 0, none⟩ = some (.slice A ws.length cap) := k0.cell 0 rfl
  have c1 : w1.cell? ⟨w.heap.size, 1, none⟩ = some (.int .i64 sh) := k0.cell 1 rfl
  clear x1 hb1 k0
  go_wp2_with fail
  refine (refAdd_any A cap sh ws none 0 [] w1 HB.out (by simp) (by simp) (by omega) (xx.rd HA.out) (Rd.nil _ _) (.inl rfl)).mono ?_
  rintro e w2 ⟨A2, c2, rfl, o2, hb2⟩
  have o2 : w2.ownsRow w1.heap.size 53 1 (.slice A2 ws.length c2) ws.length (u64s ws) := o2
  obtain ⟨g2, c2', hv, hg2l, hg2u, _, _⟩ := own_at o2 (by omega)
  simp only [Value.slice.injEq, true_and] at hv
  obtain ⟨rfl, rfl⟩ := hv
  have x2 : Ext w1 w2 := hb2
  have x3 := Ext.alloc w2 (.cells #[.slice (some ⟨g2, 0, none⟩) ws.length c2, .int .i64 sh] 26)
  replace c0 := (x2.trans x3).cell c0
  replace c1 := (x2.trans x3).cell c1
  have a0 := cnew w2 #[.slice (some ⟨g2, 0, none⟩) ws.length c2, .int .i64 sh] 26 0 rfl
  have a1 := cnew w2 #[.slice (some ⟨g2, 0, none⟩) ws.length c2, .int .i64 sh] 26 1 rfl
  replace o2 := x3.own o2
  replace xx := xx.trans (x2.trans x3)
  have z2 : g2 < (w2.alloc (.cells #[.slice (some ⟨g2, 0, none⟩) ws.length c2, .int .i64 sh] 26)).heap.size := by simp; omega
  have y0 := cell_lt c0
  have y1 := cell_lt a0
  clear hb2 x2 x3
  go_wp2_with fail
  generalize w2.alloc (.cells #[.slice (some ⟨g2, 0, none⟩) ws.length c2, .int .i64 sh] 26) = w3 at *
  refine (add_yes (some ⟨g2, 0, none⟩) c2 sh ws H hcap hs w3 HB.out HHS.out hlen (Rd.of_own o2) (xx.rd HH.out) HR.out).mono ?_
  rintro e w4 ⟨g4, c4, rfl, o4, hb4⟩
  have l4 := own_lt o4
  have x4 : Ext w3 w4 := hb4
  have x5 := Ext.alloc w4 (.cells #[.slice (some ⟨g4, 0, none⟩) ws.length c4, .int .i64 sh] 26)
  have k7 := Blk.new w4 26 #[.slice (some ⟨g4, 0, none⟩) ws.length c4, .int .i64 sh]
  replace c0 := (x4.trans x5).cell c0
  replace c1 := (x4.trans x5).cell c1
  replace a0 := (x4.trans x5).cell a0
  replace a1 := (x4.trans x5).cell a1
  replace o2 := (x4.trans x5).own o2
  replace o4 := x5.own o4
  replace xx := xx.trans (x4.trans x5)
  have z4 := (x4.trans x5).size
  clear hb4 x4 x5
  go_wp2_with fail
  generalize w4.alloc (.cells #[.slice (some ⟨g4, 0, none⟩) ws.length c4, .int .i64 sh] 26) = w5 at *
  refine (refRight_any _ _ _ _ _ HM.out).mono ?_
  rintro e w6 ⟨rfl, hb6⟩
  rw [HR.out]
  have x6 : Ext w5 w6 := hb6
  replace c0 := x6.cell c0
  replace c1 := x6.cell c1
  replace a0 := x6.cell a0
  replace a1 := x6.cell a1
  replace k7 := x6.blk k7
  replace o2 := x6.own o2
  replace o4 := x6.own o4
  replace xx := xx.trans x6
  have K7 := Lib.hid k7
  clear k7 hb6 x6
  go_wp2_with fail
  refine (refAdd_any A cap sh ws H hcap hs w6 HB.out HHS.out hlen (by omega) (xx.rd HA.out) (xx.rd HH.out) (.inr HR.out)).mono ?_
  rintro e w7 ⟨A9, c9, rfl, o9, hb7⟩
  rw [Int.toNat_natCast] at o9
  have x7 : Ext w6 w7 := hb7
  have x8 := Ext.alloc w7 (.cells #[.slice A9 ws.length c9, .int .i64 sh] 26)
  have e0 := cnew w7 #[.slice A9 ws.length c9, .int .i64 sh] 26 0 rfl
  have e1 := cnew w7 #[.slice A9 ws.length c9, .int .i64 sh] 26 1 rfl
  replace c0 := (x7.trans x8).cell c0
  replace c1 := (x7.trans x8).cell c1
  replace a0 := (x7.trans x8).cell a0
  replace a1 := (x7.trans x8).cell a1
  have k7 := (x7.trans x8).blk K7.out
  replace o2 := (x7.trans x8).own o2
  replace o4 := (x7.trans x8).own o4
  replace o9 := x8.own o9
  replace xx := xx.trans (x7.trans x8)
  clear hb7 x7 x8 K7
  have sR := HA.out
  go_wp2_with fail
  generalize w7.alloc (.cells #[.slice A9 ws.length c9, .int .i64 sh] 26) = w8 at *
  refine (same_any (some ⟨g2, 0, none⟩) A c2 cap ws ws sh sh w8 (Rd.of_own o2) (xx.rd sR) HM.out HM.out).mono ?_
  rintro e w9 ⟨rfl, hb9⟩
  have s1 : sameB (ws, ((sh : Nat) : Int)) (ws, ((sh : Nat) : Int)) = true := by unfold sameB; simp
  rw [s1]
  have x9 : Ext w8 w9 := hb9
  replace c0 := x9.cell c0
  replace c1 := x9.cell c1
  replace a0 := x9.cell a0
  replace a1 := x9.cell a1
  replace e0 := x9.cell e0
  replace e1 := x9.cell e1
  replace k7 := x9.blk k7
  replace o2 := x9.own o2
  replace o4 := x9.own o4
  replace o9 := x9.own o9
  replace xx := xx.trans x9
  have m0 : w9.cell? ⟨w4.heap.size, 0, none⟩ = some (.slice (some ⟨g4, 0, none⟩) ws.length c4) := k7.cell 0 rfl
  have m1 : w9.cell? ⟨w4.heap.size, 1, none⟩ = some (.int .i64 sh) := k7.cell 1 rfl
  have f0 : w9.cell? ⟨w7.heap.size, 0, none⟩ = some (.slice A9 ws.length c9) := e0
  have f1 : w9.cell? ⟨w7.heap.size, 1, none⟩ = some (.int .i64 sh) := e1
  have b0 : w9.cell? ⟨w2.heap.size, 0, none⟩ = some (.slice (some ⟨g2, 0, none⟩) ws.length c2) := a0
  have b1 : w9.cell? ⟨w2.heap.size, 1, none⟩ = some (.int .i64 sh) := a1
  have HS := Lib.hid (same_any (some ⟨g4, 0, none⟩) A9 c4 c9 _ _ sh sh w9 (Rd.of_own o4) (Rd.of_own o9) (by rw [HPL.out]; exact HM.out) (by rw [HPL.out]; exact HM.out))
  rw [HPL.out] at HS
  have s2 : sameB (putAll sh ws hs, ((sh : Nat) : Int)) (putAll sh ws hs, ((sh : Nat) : Int)) = true := by unfold sameB; simp
  rw [s2] at HS
  clear s2 e0 e1 a0 a1 hb9 x9
  go_wp2_with fail
  refine HS.out.mono ?_
  rintro e w10 ⟨rfl, hb10⟩
  have x10 : Ext w9 w10 := hb10
  replace c0 := x10.cell c0
  replace c1 := x10.cell c1
  replace b0 := x10.cell b0
  replace b1 := x10.cell b1
  replace m0 := x10.cell m0
  replace m1 := x10.cell m1
  replace o2 := x10.own o2
  replace o4 := x10.own o4
  replace xx := xx.trans x10
  clear f0 f1 o9 k7 hb10 x10 HS
  go_wp2_with fail
  refine (spoil_any _ g4 ws.length c4 sh _ _ HM.out o4).mono ?_
  rintro e w11 ⟨rfl, hg⟩
  have n4 : g2 ≠ g4 := by omega
  have o2' := o2.kept hg (.inr (by simp [Value.ownBlock]; exact n4))
  have keep : ∀ {b o : Nat} {v : Value}, w10.cell? ⟨b, o, none⟩ = some v → b ≠ g4 → w11.cell? ⟨b, o, none⟩ = some v := fun h hn => hg.cell h (by simpa using hn)
  replace c0 := keep c0 (by omega)
  replace c1 := keep c1 (by omega)
  replace b0 := keep b0 (by omega)
  replace b1 := keep b1 (by omega)
  have xb : Below w.heap.size w w11 := Below.grown xx.below hg xx.size (fun k hk => by simp at hk; omega)
  have hRw : Rd w11 A (u64s ws) := sR.of_below xb (fun _ _ _ hc => cell_lt hc)
  have HRw := Lib.hid hRw
  clear keep o2 o4 m0 m1 hRw hg sR
  go_wp2_with fail
  refine (same_any (some ⟨g2, 0, none⟩) A c2 cap ws ws sh sh w11 (Rd.of_own o2') HRw.out HM.out HM.out).mono ?_
  rintro e w12 ⟨rfl, hb12⟩
  rw [s1]
  have x12 : Ext w11 w12 := hb12
  replace c0 := x12.cell c0
  replace c1 := x12.cell c1
  clear hb12 b0 b1 s1
  go_wp2_with fail
  refine (right_yes _ _ _ _ _ HR.out).mono ?_
  rintro e w13 ⟨rfl, hb13⟩
  have x13 : Ext w12 w13 := hb13
  go_wp2
  go_ret
  exact ⟨rfl, xb.trans ((x12.trans x13).below.mono xb.size)⟩

theorem walk_SieveAdds (v0 v1 : Value) (x0 : List Nat × Int) (x1 : List Nat) (w : World) (h0 : InFilter w v0 x0) (h1 : InU32s w v1 x1) :
    Calls Try.prog 4 #[v0, v1] w fun e w' => e = .returned (.bool true) ∧ Below w.heap.size w w' := by
  obtain ⟨ws, sh⟩ := x0
  obtain ⟨A, cap, rfl, hR, hws, hm, hs0, hs1⟩ := h0
  obtain ⟨H, hcap, rfl, hH, hb, hlm⟩ := h1
  cases hr : rightB ws.length sh
  · exact adds_no A cap ws sh H hcap _ w hws hm hR hr
  · have hbd := rightB_bd hr
    obtain ⟨s, rfl⟩ := Int.eq_ofNat_of_zero_le (by omega : 0 ≤ sh)
    exact adds_yes A cap ws s H hcap x1 w hws hR hb (by unfold maxLen; omega) hH hr

set_option maxRecDepth 100000 in
theorem lifted_SieveAdds (os : Os) (started : os.Started) (H : Type) (enc : TypeId × Value → H) :
    ReturnsInHanded {} Try.checked os 4 .any (Rows.sieveAddsSpec.pre6 enc Try.prog Try.f4 Rows.sieveAddsRow.domain false) (Rows.sieveAddsSpec.post enc Try.prog Try.f4 false true false false) := by
  refine returnsInHanded_of_change_sized (C := Try.checked) own started (by kernel_rfl) Try.func4
    (ChangeSpec.witness6 (enc := enc) (C := Try.checked) false ⟨#[], #[.agg #[.slice none 0 0, .int .i64 0], .slice none 0 0], []⟩ 8 (by kernel_rfl) (by kernel_rfl) (by kernel_rfl) (by kernel_rfl)) ?_
  intro W base args ds gs before hval0 hW hcnd hsz0 _
  have hsz : (DataW.weightsEach Try.prog (Try.f4.params.toList ++ Rows.sieveAddsSpec.plain.varTypes Try.prog) (ds ++ gs)).all (· ≤ reachBytes) = true := hsz0
  clear hsz0
  have hval : ∀ (j : Nat) t v, Try.f4.params[j]? = some t → args[j]? = some v → Value.okWide Try.prog W .any base t v := hval0
  have hW' := hW
  obtain ⟨p, q, hA0, hV, rfl, hfz, hnd⟩ := hW
  have hA : DataW.TrodAll enc Try.prog W 0 (fun _ => true) true Try.f4.params.toList args.toList ds p := hA0
  rw [Try.params4] at hA hval hsz
  obtain ⟨v0, vs0, d0, ds0, p0, q0, hargs, rfl, rfl, h0, r0⟩ := trodAll_cons hA
  obtain ⟨v1, vs1, d1, ds1, p1, q1, rfl, rfl, rfl, h1, r1⟩ := trodAll_cons r0
  obtain ⟨rfl, rfl, rfl⟩ := trodAll_nil r1
  obtain rfl : args = #[v0, v1] := by cases args; simp_all
  obtain ⟨rfl, rfl⟩ := trodVars_none hV
  have lt0 : ∀ x ∈ p0, x.block < W.heap.size := by obtain ⟨m, hm⟩ := h0; exact DataW.trod_lt m _ _ _ hm
  obtain ⟨x0, hx0⟩ := open_InFilter (hval 0 26 v0 rfl rfl) h0 (light_each (j := 0) hsz rfl rfl)
  have lt1 : ∀ x ∈ p1, x.block < W.heap.size := by obtain ⟨m, hm⟩ := h1; exact DataW.trod_lt m _ _ _ hm
  obtain ⟨x1, hx1⟩ := open_InU32s Try.underlying22 Try.underlying39 (by kernel_rfl) (by kernel_rfl) (hval 1 22 v1 rfl rfl) h1 (light_each (j := 1) hsz rfl rfl)
  clear hA0 hval0
  refine (walk_SieveAdds v0 v1 x0 x1 W hx0 hx1).mono fun e W' ⟨he, bel⟩ => ?_
  subst he
  exact ⟨_, rfl, _, _, _, [], _, [], hW', trodAll_mk1 (shut_bool Try.underlying4 _), (trodAll_cons_mk (Below.trod laidOut (by kernel_rfl) (of_decide_eq_true (by kernel_rfl)) h0 bel lt0) (trodAll_cons_mk (Below.trod laidOut (by kernel_rfl) (of_decide_eq_true (by kernel_rfl)) h1 bel lt1) trodAll_mk0)), rfl, bel.frame _, fun h => by cases h⟩

theorem over_SieveAdds : Rows.sieveAddsRow.holds Try.pinned (OpenSpec.ofChange Rows.sieveAddsSpec) :=
  OpenClaim.holds_of_wide 4 Try.f4 rfl rfl rfl rfl rfl rfl rfl ⟨rfl, rfl, rfl, rfl, rfl⟩ rfl rfl rfl rfl rfl (by kernel_rfl) Try.func4 (by kernel_rfl)
    (of_decide_eq_true (by kernel_rfl)) (by unfold Func.isWrapper; first | (rw [if_pos (by decide +kernel)]; kernel_rfl) | (rw [if_neg (by decide +kernel)]; exact ⟨rfl, rfl⟩))
    (fun os started H enc _ => lifted_SieveAdds os started H enc)

/-- the statement -/
theorem holds_SieveAdds : Rows.SieveAddsSaid := over_SieveAdds
#print axioms holds_SieveAdds

end Go.Proofs.Ytmjkkmmgbndcoaa
