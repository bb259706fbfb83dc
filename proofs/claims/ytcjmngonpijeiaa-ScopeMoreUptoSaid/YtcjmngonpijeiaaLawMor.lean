/- clevislaw14.ScopeMore, where what comes in is of bulk at most 1048576. (MANY IMAGES: the opener with their number.) -/
import Derived.Test.YtcjmngonpijeiaaAwk14
import Derived.Test.YtcjmngonpijeiaaMoreP
import Derived.Test.YtcjmngonpijeiaaApp15
import Derived.Test.YtcjmngonpijeiaaCop
import Derived.Test.YtcjmngonpijeiaaLawLks
import Derived.Deep.CondSized
namespace Go.Proofs.Ytcjmngonpijeiaa
set_option maxRecDepth 100000
open Go.ChangeShapes Go.WideShapes Go.ChangeAt Go.RowKit Go.Joins Pl
set_option linter.unusedVariables false

theorem info_img15 : (Try.prog.info? 60).map (fun i => (i.zero, i.size, i.bytes)) = some (some (.agg im0.vals.toArray), 15, 304) := by kernel_rfl

set_option maxRecDepth 100000 in
set_option maxHeartbeats 6400000 in
theorem walk_ScopeMore (v0 v1 v2 : Value) (r : Sym) (ims : List Im) (m : Im) (w : World) (h0 : InSym w v0 r) (h1 : InImgs w v1 ims) (h2 : InImg w v2 m) (hk : 1 + ((ims.map fun m => m.t.bs.length).sum + ims.length + 1 + (m.t.bs.length + 0)) ≤ 1048576) :
    Calls Try.prog 6 #[v0, v1, v2] w fun e w' => e = .returned (.bool true) ∧ Below w.heap.size w w' := by
  obtain ⟨A, c, rfl, hI, hlc, hcm⟩ := h1
  obtain ⟨rfl, hr⟩ := h0
  obtain ⟨rfl, hm⟩ := h2
  obtain ⟨i0, hi0, hz0, hz1, hz2⟩ := info_parts info_img15
  have hb : ∀ q ∈ ims, q.t.bs.length < 4294967296 := fun q hq => by
    have := le_sumL (List.mem_map_of_mem (f := fun m : Im => m.t.bs.length) hq)
    omega
  have hbm : m.t.bs.length < 4294967296 := by omega
  have hil : (ims.length + 1) * 304 ≤ 140737488351232 := by omega
  have HH := Lib.hid hI
  have HM := Lib.hid hm
  have HBI := Lib.hid hb
  have HBM := Lib.hid hbm
  have HL : Hid (∀ skip A c xs w', ImsIn w' A xs → (∀ q ∈ xs, q.t.bs.length < 4294967296) → Calls Try.prog 13 #[.agg r.vals.toArray, .int .i64 skip, .slice A xs.length c] w' fun e w2 =>
      ∃ v, e = .returned (.tuple #[.agg #[.int .i64 (lookF r skip xs).1, .int .i64 (lookF r skip xs).2.1, .bool (lookF r skip xs).2.2], v]) ∧ Ext w' w2) :=
    Lib.hid (fun skip A c xs w' hx hbx => (look_any r skip A c xs w' hr hx hbx).mono (fun e w2 ⟨v, h1, _, h3⟩ => ⟨v, h1, h3⟩))
  have HSN := Lib.hid (look_snoc r ims m)
  have HSK := Lib.hid (look_skip r ims m)
  have HAH := Lib.hid (look_ahead r ims m)
  have HCA : Hid ((lookF r (-1) ims).2.2 = true → ∃ k : Nat, (lookF r (-1) ims).1 = k ∧ k < ims.length) := Lib.hid (by
    rcases lookF_cases r (-1) ims with ⟨k, h1, _, _, h4⟩ | ⟨_, h4⟩
    · intro _; exact ⟨k, by rw [h4], h1⟩
    · intro h; rw [h4] at h; cases h)
  have HA1 := Lib.hid (fun w' h => HL.out (-1) A c ims w' h HBI.out)
  have HA2 := Lib.hid (fun B d w' h => HL.out (-1) B d (ims ++ [m]) w' h (fun q hq => by
    rcases List.mem_append.1 hq with h | h
    · exact HBI.out q h
    · rw [List.mem_singleton.1 h]; exact HBM.out))
  have hbc : ∀ q ∈ m :: ims, q.t.bs.length < 4294967296 := fun q hq => by
    rcases List.mem_cons.1 hq with h | h
    · rw [h]; exact HBM.out
    · exact HBI.out q h
  have HA3 := Lib.hid (fun B d w' h => HL.out 0 B d (m :: ims) w' h hbc)
  have HA5 := Lib.hid (fun B d w' h => HL.out (-1) B d (m :: ims) w' h hbc)
  have HA4 := Lib.hid (fun B d w' h => HL.out (-1) B d [m] w' h (fun q hq => by rw [List.mem_singleton.1 hq]; exact HBM.out))
  clear hI hr hm hb hbm hk hbc HL
  generalize lookF r (-1) ims = fa at *
  generalize lookF r (-1) (ims ++ [m]) = fb at *
  generalize lookF r 0 (m :: ims) = fc at *
  generalize lookF r (-1) [m] = fo at *
  generalize lookF r (-1) (m :: ims) = fd at *
  obtain ⟨a1, a2, a3⟩ := fa
  obtain ⟨b1, b2, b3⟩ := fb
  obtain ⟨c1, c2, c3⟩ := fc
  obtain ⟨o1, o2, o3⟩ := fo
  obtain ⟨e1, e2, e3⟩ := fd
  simp only at HSN HSK HAH HCA HA1 HA2 HA3 HA4 HA5
  obtain ⟨rname, rver, rold, rkind, rweak, rvis, rdefd, rval, rsize⟩ := r
  obtain ⟨d0, d1, d2, d3, d4, SA, sc, l, ⟨BA, bc, bs, WA, wc, ws, sh⟩, d9, d10, d11, d12, d13, d14⟩ := m
  simp only [Sym.vals, Im.vals, List.length_append, List.length_cons, List.length_nil] at HA1 HA2 HA3 HA4 HA5 ⊢
  simp only [Nat.add_comm ims.length 1] at HA3 HA5
  go_enter Try.func6, Try.ntmps6
  go_wp2_with fail
  have hbx := box2 w #[.string rname, .string rver, .bool rold, .int .i64 rkind, .bool rweak, .int .i64 rvis, .bool rdefd, .int .i64 rval, .int .i64 rsize] #[.string d0, .int .i64 d1, .slice d2.A d2.n d2.c, .slice d3.A d3.n d3.c, .slice d4.A d4.n d4.c, .slice SA l.length sc, .slice BA bs.length bc, .slice WA ws.length wc, .int .i64 sh, .slice d9.A d9.n d9.c, .slice d10.A d10.n d10.c, .slice d11.A d11.n d11.c, .slice d12.A d12.n d12.c, .slice d13.A d13.n d13.c, .int .i64 d14] 25 60
  obtain ⟨hb1, hb2, hxb⟩ := hbx
  generalize (w.alloc (.cells #[.string rname, .string rver, .bool rold, .int .i64 rkind, .bool rweak, .int .i64 rvis, .bool rdefd, .int .i64 rval, .int .i64 rsize] 25)).alloc (.cells #[.string d0, .int .i64 d1, .slice d2.A d2.n d2.c, .slice d3.A d3.n d3.c, .slice d4.A d4.n d4.c, .slice SA l.length sc, .slice BA bs.length bc, .slice WA ws.length wc, .int .i64 sh, .slice d9.A d9.n d9.c, .slice d10.A d10.n d10.c, .slice d11.A d11.n d11.c, .slice d12.A d12.n d12.c, .slice d13.A d13.n d13.c, .int .i64 d14] 60) = wb at *
  generalize w.heap.size + 1 = tb at *
  refine (awake14_any _).mono ?_
  rintro e w1 ⟨rfl, hx1⟩
  have HX1 := Lib.hid (hxb.trans hx1)
  have HRB := Lib.hid (hx1.blk hb1)
  have HMB := Lib.hid (hx1.blk hb2)
  clear hb1 hb2 hxb hx1
  have m0 : w1.cell? ⟨tb, 0, none⟩ = some (.string d0) := HMB.out.cell 0 rfl
  have m1 : w1.cell? ⟨tb, 1, none⟩ = some (.int .i64 d1) := HMB.out.cell 1 rfl
  have m2 : w1.cell? ⟨tb, 2, none⟩ = some (.slice d2.A d2.n d2.c) := HMB.out.cell 2 rfl
  have m3 : w1.cell? ⟨tb, 3, none⟩ = some (.slice d3.A d3.n d3.c) := HMB.out.cell 3 rfl
  have m4 : w1.cell? ⟨tb, 4, none⟩ = some (.slice d4.A d4.n d4.c) := HMB.out.cell 4 rfl
  have m5 : w1.cell? ⟨tb, 5, none⟩ = some (.slice SA l.length sc) := HMB.out.cell 5 rfl
  have m6 : w1.cell? ⟨tb, 6, none⟩ = some (.slice BA bs.length bc) := HMB.out.cell 6 rfl
  have m7 : w1.cell? ⟨tb, 7, none⟩ = some (.slice WA ws.length wc) := HMB.out.cell 7 rfl
  have m8 : w1.cell? ⟨tb, 8, none⟩ = some (.int .i64 sh) := HMB.out.cell 8 rfl
  have m9 : w1.cell? ⟨tb, 9, none⟩ = some (.slice d9.A d9.n d9.c) := HMB.out.cell 9 rfl
  have m10 : w1.cell? ⟨tb, 10, none⟩ = some (.slice d10.A d10.n d10.c) := HMB.out.cell 10 rfl
  have m11 : w1.cell? ⟨tb, 11, none⟩ = some (.slice d11.A d11.n d11.c) := HMB.out.cell 11 rfl
  have m12 : w1.cell? ⟨tb, 12, none⟩ = some (.slice d12.A d12.n d12.c) := HMB.out.cell 12 rfl
  have m13 : w1.cell? ⟨tb, 13, none⟩ = some (.slice d13.A d13.n d13.c) := HMB.out.cell 13 rfl
  have m14 : w1.cell? ⟨tb, 14, none⟩ = some (.int .i64 d14) := HMB.out.cell 14 rfl
  have ml : tb < w1.heap.size := HMB.out.lt
  go_wp2_with (at_builtin; go_loud (refine wpList_app_rdN rfl _ _ 26 rfl w1.heap.size 60 i0 (.agg im0.vals.toArray) 15 304 Try.underlying26 hi0 hz0 hz1 hz2 rfl (by omega) (.slice none 0 0) 0 [] rfl (World.ownsRow_nil _ _ _ _) (some ⟨w1.heap.size, 0, none⟩) 1 (Im.vals (⟨d0, d1, d2, d3, d4, SA, sc, l, ⟨BA, bc, bs, WA, wc, ws, sh⟩, d9, d10, d11, d12, d13, d14⟩ : Im)) 1 rfl rfl (Blk.rd (Blk.new _ _ _)) (by rw [← flat_one]; exact flat_oneCell _) ?d3 ?d4 ?d5 ?_))
  case d3 => unfold maxLen; omega
  case d4 => omega
  case d5 => exact (Ext.alloc _ _).size
  intro v1 w2 p1 g1 _
  obtain ⟨A1, k1, rfl⟩ := own_slice p1
  have HO1 : Hid (w2.ownsRow w1.heap.size 60 15 (.slice A1 1 k1) 1 (flat [(⟨d0, d1, d2, d3, d4, SA, sc, l, ⟨BA, bc, bs, WA, wc, ws, sh⟩, d9, d10, d11, d12, d13, d14⟩ : Im)])) := Lib.hid (by rw [flat_one]; exact p1)
  have HX2 := Lib.hid ((Ext.alloc w1 _).trans (ext_none g1))
  clear p1 g1
  clear m0 m1 m2 m3 m4 m5 m6 m7 m8 m9 m10 m11 m12 m13 m14 ml
  go_wp2_with (at_builtin; go_loud (refine wpList_app_rdN rfl _ _ 26 rfl w1.heap.size 60 i0 (.agg im0.vals.toArray) 15 304 Try.underlying26 hi0 hz0 hz1 hz2 rfl (by omega) (.slice A1 1 k1) 1 (flat [(⟨d0, d1, d2, d3, d4, SA, sc, l, ⟨BA, bc, bs, WA, wc, ws, sh⟩, d9, d10, d11, d12, d13, d14⟩ : Im)]) rfl HO1.out A c (flat ims) ims.length rfl (flat_len ims) ((HH.out.rd.ext (HX1.out.trans HX2.out)).flat) (flat_oneCell _) ?d3 ?d4 ?d5 ?_))
  case d3 => unfold maxLen; omega
  case d4 => omega
  case d5 => exact HX2.out.size
  intro v2 w3 p2 g2 _
  obtain ⟨A2, k2, rfl⟩ := own_slice p2
  have HO2 : Hid (w3.ownsRow w1.heap.size 60 15 (.slice A2 (1 + ims.length) k2) (1 + ims.length) (flat ((⟨d0, d1, d2, d3, d4, SA, sc, l, ⟨BA, bc, bs, WA, wc, ws, sh⟩, d9, d10, d11, d12, d13, d14⟩ : Im) :: ims))) := Lib.hid (by
    rw [show (⟨d0, d1, d2, d3, d4, SA, sc, l, ⟨BA, bc, bs, WA, wc, ws, sh⟩, d9, d10, d11, d12, d13, d14⟩ : Im) :: ims = [(⟨d0, d1, d2, d3, d4, SA, sc, l, ⟨BA, bc, bs, WA, wc, ws, sh⟩, d9, d10, d11, d12, d13, d14⟩ : Im)] ++ ims from rfl, flat_append]; exact p2)
  have HX3 := Lib.hid ((Chg.grown g2).ext HX2.out (fun b hb => (HO1.out.lt b hb.symm).1))
  clear p2 g2 HO1
  go_wp2_with (at_builtin; go_loud (refine wpList_app_rdN rfl _ _ 26 rfl w3.heap.size 60 i0 (.agg im0.vals.toArray) 15 304 Try.underlying26 hi0 hz0 hz1 hz2 rfl (by omega) (.slice none 0 0) 0 [] rfl (World.ownsRow_nil _ _ _ _) A c (flat ims) ims.length rfl (flat_len ims) ((HH.out.rd.ext (HX1.out.trans HX3.out)).flat) (flat_oneCell _) ?d3 ?d4 ?d5 ?_))
  case d3 => unfold maxLen; omega
  case d4 => omega
  case d5 => exact Nat.le_refl _
  intro v3 w4 p3 g3 _
  obtain ⟨A3, k3, rfl⟩ := own_slice p3
  have HO3 := Lib.hid p3
  have HX4 := Lib.hid (ext_none g3)
  have HMB4 := Lib.hid ((HX3.out.trans HX4.out).blk HMB.out)
  clear p3 g3
  have m0 : w4.cell? ⟨tb, 0, none⟩ = some (.string d0) := HMB4.out.cell 0 rfl
  have m1 : w4.cell? ⟨tb, 1, none⟩ = some (.int .i64 d1) := HMB4.out.cell 1 rfl
  have m2 : w4.cell? ⟨tb, 2, none⟩ = some (.slice d2.A d2.n d2.c) := HMB4.out.cell 2 rfl
  have m3 : w4.cell? ⟨tb, 3, none⟩ = some (.slice d3.A d3.n d3.c) := HMB4.out.cell 3 rfl
  have m4 : w4.cell? ⟨tb, 4, none⟩ = some (.slice d4.A d4.n d4.c) := HMB4.out.cell 4 rfl
  have m5 : w4.cell? ⟨tb, 5, none⟩ = some (.slice SA l.length sc) := HMB4.out.cell 5 rfl
  have m6 : w4.cell? ⟨tb, 6, none⟩ = some (.slice BA bs.length bc) := HMB4.out.cell 6 rfl
  have m7 : w4.cell? ⟨tb, 7, none⟩ = some (.slice WA ws.length wc) := HMB4.out.cell 7 rfl
  have m8 : w4.cell? ⟨tb, 8, none⟩ = some (.int .i64 sh) := HMB4.out.cell 8 rfl
  have m9 : w4.cell? ⟨tb, 9, none⟩ = some (.slice d9.A d9.n d9.c) := HMB4.out.cell 9 rfl
  have m10 : w4.cell? ⟨tb, 10, none⟩ = some (.slice d10.A d10.n d10.c) := HMB4.out.cell 10 rfl
  have m11 : w4.cell? ⟨tb, 11, none⟩ = some (.slice d11.A d11.n d11.c) := HMB4.out.cell 11 rfl
  have m12 : w4.cell? ⟨tb, 12, none⟩ = some (.slice d12.A d12.n d12.c) := HMB4.out.cell 12 rfl
  have m13 : w4.cell? ⟨tb, 13, none⟩ = some (.slice d13.A d13.n d13.c) := HMB4.out.cell 13 rfl
  have m14 : w4.cell? ⟨tb, 14, none⟩ = some (.int .i64 d14) := HMB4.out.cell 14 rfl
  have ml : tb < w4.heap.size := HMB4.out.lt
  go_wp2_with (at_builtin; go_loud (refine wpList_app_rdN rfl _ _ 26 rfl w3.heap.size 60 i0 (.agg im0.vals.toArray) 15 304 Try.underlying26 hi0 hz0 hz1 hz2 rfl (by omega) (.slice A3 ims.length k3) ims.length (flat ims) rfl ((Ext.alloc _ _).own HO3.out) (some ⟨w4.heap.size, 0, none⟩) 1 (Im.vals (⟨d0, d1, d2, d3, d4, SA, sc, l, ⟨BA, bc, bs, WA, wc, ws, sh⟩, d9, d10, d11, d12, d13, d14⟩ : Im)) 1 rfl rfl (Blk.rd (Blk.new _ _ _)) (by rw [← flat_one]; exact flat_oneCell _) ?d3 ?d4 ?d5 ?_))
  case d3 => unfold maxLen; omega
  case d4 => omega
  case d5 => exact Nat.le_trans HX4.out.size (Ext.alloc _ _).size
  intro v4 w5 p4 g4 _
  obtain ⟨A4, k4, rfl⟩ := own_slice p4
  have HO4 : Hid (w5.ownsRow w3.heap.size 60 15 (.slice A4 (ims.length + 1) k4) (ims.length + 1) (flat (ims ++ [(⟨d0, d1, d2, d3, d4, SA, sc, l, ⟨BA, bc, bs, WA, wc, ws, sh⟩, d9, d10, d11, d12, d13, d14⟩ : Im)]))) := Lib.hid (by
    rw [flat_append, flat_one]; exact p4)
  have HX5 : Hid (Ext w3 w5) := Lib.hid ((Chg.grown g4).ext (HX4.out.trans (Ext.alloc _ _)) (fun b hb => (HO3.out.lt b hb.symm).1))
  have HO2' := Lib.hid (HX5.out.own HO2.out)
  clear p4 g4 HO2
  clear m0 m1 m2 m3 m4 m5 m6 m7 m8 m9 m10 m11 m12 m13 m14 ml
  have HXW := Lib.hid (HX1.out.trans (HX3.out.trans HX5.out))
  have HI1 : Hid (ImsIn w5 A ims) := Lib.hid (HH.out.ext HXW.out)
  have HMW := Lib.hid (HM.out.ext HXW.out)
  have HI2 : Hid (ImsIn w5 A4 (ims ++ [(⟨d0, d1, d2, d3, d4, SA, sc, l, ⟨BA, bc, bs, WA, wc, ws, sh⟩, d9, d10, d11, d12, d13, d14⟩ : Im)])) := Lib.hid ⟨Rd.imgs (Rd.of_ownN HO4.out), fun q hq => by
    rcases List.mem_append.1 hq with h | h
    · exact HI1.out.each q h
    · rw [List.mem_singleton.1 h]; exact HMW.out, by simp; omega⟩
  have HI3 : Hid (ImsIn w5 A2 ((⟨d0, d1, d2, d3, d4, SA, sc, l, ⟨BA, bc, bs, WA, wc, ws, sh⟩, d9, d10, d11, d12, d13, d14⟩ : Im) :: ims)) := Lib.hid ⟨Rd.imgs (Rd.of_ownN HO2'.out), fun q hq => by
    rcases List.mem_cons.1 hq with h | h
    · rw [h]; exact HMW.out
    · exact HI1.out.each q h, by simp; omega⟩
  have HRB5 := Lib.hid ((HX3.out.trans HX5.out).blk HRB.out)
  have HMB5 := Lib.hid ((HX3.out.trans HX5.out).blk HMB.out)
  have hrl : w.heap.size < w5.heap.size := HRB5.out.lt
  obtain ⟨q0, q1, q2, q3, q4, q5, q6, q7, q8⟩ := HRB5.out.nine
  go_wp2_with fail
  refine (HA1.out w5 HI1.out).mono ?_
  rintro e w6 ⟨_, rfl, hx6⟩
  have HT6 := Lib.hid hx6
  clear q0 q1 q2 q3 q4 q5 q6 q7 q8 hrl
  clear hx6
  have HR_w6 := Lib.hid (HT6.out.blk HRB5.out)
  have hrl : w.heap.size < w6.heap.size := HR_w6.out.lt
  obtain ⟨q0, q1, q2, q3, q4, q5, q6, q7, q8⟩ := HR_w6.out.nine
  go_wp2_with fail
  have hkf := Blk.new w6 29 #[.int .i64 a1, .int .i64 a2, .bool a3]
  have hxf := Ext.alloc w6 (.cells #[.int .i64 a1, .int .i64 a2, .bool a3] 29)
  generalize w6.alloc (.cells #[.int .i64 a1, .int .i64 a2, .bool a3] 29) = w7 at *
  generalize w6.heap.size = t10 at *
  have HT7 := Lib.hid (HT6.out.trans hxf)
  refine (HA2.out A4 k4 w7 (HI2.out.ext HT7.out)).mono ?_
  rintro e w8 ⟨_, rfl, hx9⟩
  have HT8 := Lib.hid (HT7.out.trans hx9)
  have HS8 := Lib.hid (hxf.trans hx9)
  have HKt10 := Lib.hid (hx9.blk hkf)
  clear hkf hxf hx9
  clear q0 q1 q2 q3 q4 q5 q6 q7 q8 hrl
  have HR_w8 := Lib.hid (HT8.out.blk HRB5.out)
  have hrl : w.heap.size < w8.heap.size := HR_w8.out.lt
  obtain ⟨q0, q1, q2, q3, q4, q5, q6, q7, q8⟩ := HR_w8.out.nine
  go_wp2_with fail
  have hkf := Blk.new w8 29 #[.int .i64 b1, .int .i64 b2, .bool b3]
  have hxf := Ext.alloc w8 (.cells #[.int .i64 b1, .int .i64 b2, .bool b3] 29)
  generalize w8.alloc (.cells #[.int .i64 b1, .int .i64 b2, .bool b3] 29) = w9 at *
  generalize w8.heap.size = t12 at *
  have HT9 := Lib.hid (HT8.out.trans hxf)
  refine (HA3.out A2 k2 w9 (HI3.out.ext HT9.out)).mono ?_
  rintro e w10 ⟨_, rfl, hx9⟩
  have HT10 := Lib.hid (HT9.out.trans hx9)
  have HS10 := Lib.hid (hxf.trans hx9)
  have HKt12 := Lib.hid (hx9.blk hkf)
  clear hkf hxf hx9
  clear q0 q1 q2 q3 q4 q5 q6 q7 q8 hrl
  have HR_w10 := Lib.hid (HT10.out.blk HRB5.out)
  have HM_w10 := Lib.hid (HT10.out.blk HMB5.out)
  have hrl : w.heap.size < w10.heap.size := HR_w10.out.lt
  obtain ⟨q0, q1, q2, q3, q4, q5, q6, q7, q8⟩ := HR_w10.out.nine
  have m0 : w10.cell? ⟨tb, 0, none⟩ = some (.string d0) := HM_w10.out.cell 0 rfl
  have m1 : w10.cell? ⟨tb, 1, none⟩ = some (.int .i64 d1) := HM_w10.out.cell 1 rfl
  have m2 : w10.cell? ⟨tb, 2, none⟩ = some (.slice d2.A d2.n d2.c) := HM_w10.out.cell 2 rfl
  have m3 : w10.cell? ⟨tb, 3, none⟩ = some (.slice d3.A d3.n d3.c) := HM_w10.out.cell 3 rfl
  have m4 : w10.cell? ⟨tb, 4, none⟩ = some (.slice d4.A d4.n d4.c) := HM_w10.out.cell 4 rfl
  have m5 : w10.cell? ⟨tb, 5, none⟩ = some (.slice SA l.length sc) := HM_w10.out.cell 5 rfl
  have m6 : w10.cell? ⟨tb, 6, none⟩ = some (.slice BA bs.length bc) := HM_w10.out.cell 6 rfl
  have m7 : w10.cell? ⟨tb, 7, none⟩ = some (.slice WA ws.length wc) := HM_w10.out.cell 7 rfl
  have m8 : w10.cell? ⟨tb, 8, none⟩ = some (.int .i64 sh) := HM_w10.out.cell 8 rfl
  have m9 : w10.cell? ⟨tb, 9, none⟩ = some (.slice d9.A d9.n d9.c) := HM_w10.out.cell 9 rfl
  have m10 : w10.cell? ⟨tb, 10, none⟩ = some (.slice d10.A d10.n d10.c) := HM_w10.out.cell 10 rfl
  have m11 : w10.cell? ⟨tb, 11, none⟩ = some (.slice d11.A d11.n d11.c) := HM_w10.out.cell 11 rfl
  have m12 : w10.cell? ⟨tb, 12, none⟩ = some (.slice d12.A d12.n d12.c) := HM_w10.out.cell 12 rfl
  have m13 : w10.cell? ⟨tb, 13, none⟩ = some (.slice d13.A d13.n d13.c) := HM_w10.out.cell 13 rfl
  have m14 : w10.cell? ⟨tb, 14, none⟩ = some (.int .i64 d14) := HM_w10.out.cell 14 rfl
  have ml : tb < w10.heap.size := HM_w10.out.lt
  go_wp2_with fail
  have hbx := box2 w10 #[.int .i64 c1, .int .i64 c2, .bool c3] #[.string d0, .int .i64 d1, .slice d2.A d2.n d2.c, .slice d3.A d3.n d3.c, .slice d4.A d4.n d4.c, .slice SA l.length sc, .slice BA bs.length bc, .slice WA ws.length wc, .int .i64 sh, .slice d9.A d9.n d9.c, .slice d10.A d10.n d10.c, .slice d11.A d11.n d11.c, .slice d12.A d12.n d12.c, .slice d13.A d13.n d13.c, .int .i64 d14] 29 60
  obtain ⟨hb1, hb2, hxb⟩ := hbx
  generalize (w10.alloc (.cells #[.int .i64 c1, .int .i64 c2, .bool c3] 29)).alloc (.cells #[.string d0, .int .i64 d1, .slice d2.A d2.n d2.c, .slice d3.A d3.n d3.c, .slice d4.A d4.n d4.c, .slice SA l.length sc, .slice BA bs.length bc, .slice WA ws.length wc, .int .i64 sh, .slice d9.A d9.n d9.c, .slice d10.A d10.n d10.c, .slice d11.A d11.n d11.c, .slice d12.A d12.n d12.c, .slice d13.A d13.n d13.c, .int .i64 d14] 60) = w11 at *
  generalize w10.heap.size + 1 = gi at *
  generalize w10.heap.size = t14 at *
  have HT11 := Lib.hid (HT10.out.trans hxb)
  have HI4 : Hid (ImsIn w11 (some ⟨gi, 0, none⟩) [(⟨d0, d1, d2, d3, d4, SA, sc, l, ⟨BA, bc, bs, WA, wc, ws, sh⟩, d9, d10, d11, d12, d13, d14⟩ : Im)]) := Lib.hid ⟨Rd.imgs (by rw [flat_one]; exact Blk.rd hb2), fun q hq => by rw [List.mem_singleton.1 hq]; exact HMW.out.ext HT11.out, by simp⟩
  refine (HA4.out _ _ w11 HI4.out).mono ?_
  rintro e w12 ⟨_, rfl, hx9⟩
  have HT12 := Lib.hid (HT11.out.trans hx9)
  have HS12 := Lib.hid (hxb.trans hx9)
  have HKt14 := Lib.hid (hx9.blk hb1)
  clear hb1 hb2 hxb hx9
  clear q0 q1 q2 q3 q4 q5 q6 q7 q8 hrl
  clear m0 m1 m2 m3 m4 m5 m6 m7 m8 m9 m10 m11 m12 m13 m14 ml
  have HR_w12 := Lib.hid (HT12.out.blk HRB5.out)
  have hrl : w.heap.size < w12.heap.size := HR_w12.out.lt
  obtain ⟨q0, q1, q2, q3, q4, q5, q6, q7, q8⟩ := HR_w12.out.nine
  go_wp2_with fail
  have hkf := Blk.new w12 29 #[.int .i64 o1, .int .i64 o2, .bool o3]
  have hxf := Ext.alloc w12 (.cells #[.int .i64 o1, .int .i64 o2, .bool o3] 29)
  generalize w12.alloc (.cells #[.int .i64 o1, .int .i64 o2, .bool o3] 29) = w13 at *
  generalize w12.heap.size = t16 at *
  have HT13 := Lib.hid (HT12.out.trans hxf)
  refine (HA5.out A2 k2 w13 (HI3.out.ext HT13.out)).mono ?_
  rintro e w14 ⟨_, rfl, hx9⟩
  have HT14 := Lib.hid (HT13.out.trans hx9)
  have HS14 := Lib.hid (hxf.trans hx9)
  have HKt16 := Lib.hid (hx9.blk hkf)
  clear hkf hxf hx9
  clear q0 q1 q2 q3 q4 q5 q6 q7 q8 hrl
  have t10_0 : w14.cell? ⟨t10, 0, none⟩ = some (.int .i64 a1) := (HS14.out.blk (HS12.out.blk (HS10.out.blk HKt10.out))).cell 0 rfl
  have t10_1 : w14.cell? ⟨t10, 1, none⟩ = some (.int .i64 a2) := (HS14.out.blk (HS12.out.blk (HS10.out.blk HKt10.out))).cell 1 rfl
  have t10_2 : w14.cell? ⟨t10, 2, none⟩ = some (.bool a3) := (HS14.out.blk (HS12.out.blk (HS10.out.blk HKt10.out))).cell 2 rfl
  have t10_l : t10 < w14.heap.size := (HS14.out.blk (HS12.out.blk (HS10.out.blk HKt10.out))).lt
  have t12_0 : w14.cell? ⟨t12, 0, none⟩ = some (.int .i64 b1) := (HS14.out.blk (HS12.out.blk HKt12.out)).cell 0 rfl
  have t12_1 : w14.cell? ⟨t12, 1, none⟩ = some (.int .i64 b2) := (HS14.out.blk (HS12.out.blk HKt12.out)).cell 1 rfl
  have t12_2 : w14.cell? ⟨t12, 2, none⟩ = some (.bool b3) := (HS14.out.blk (HS12.out.blk HKt12.out)).cell 2 rfl
  have t12_l : t12 < w14.heap.size := (HS14.out.blk (HS12.out.blk HKt12.out)).lt
  have t14_0 : w14.cell? ⟨t14, 0, none⟩ = some (.int .i64 c1) := (HS14.out.blk HKt14.out).cell 0 rfl
  have t14_1 : w14.cell? ⟨t14, 1, none⟩ = some (.int .i64 c2) := (HS14.out.blk HKt14.out).cell 1 rfl
  have t14_2 : w14.cell? ⟨t14, 2, none⟩ = some (.bool c3) := (HS14.out.blk HKt14.out).cell 2 rfl
  have t14_l : t14 < w14.heap.size := (HS14.out.blk HKt14.out).lt
  have t16_0 : w14.cell? ⟨t16, 0, none⟩ = some (.int .i64 o1) := (HKt16.out).cell 0 rfl
  have t16_1 : w14.cell? ⟨t16, 1, none⟩ = some (.int .i64 o2) := (HKt16.out).cell 1 rfl
  have t16_2 : w14.cell? ⟨t16, 2, none⟩ = some (.bool o3) := (HKt16.out).cell 2 rfl
  have t16_l : t16 < w14.heap.size := (HKt16.out).lt
  have HXF := Lib.hid (HXW.out.trans (HT14.out.trans (Ext.alloc w14 (.cells #[.int .i64 e1, .int .i64 e2, .bool e3] 29))))
  cases a3
  · have h1 := HSN.out.2 rfl
    have h2 := HSK.out.2 rfl
    simp only [Prod.mk.injEq] at h2
    obtain ⟨rfl, rfl, rfl⟩ := h2
    subst h1
    cases b3
    · have h3 := HAH.out.2 rfl
      simp only [Prod.mk.injEq] at h3
      obtain ⟨rfl, rfl, rfl⟩ := h3
      go_wp2
      go_ret
      first | exact ⟨rfl, HXF.out⟩ | exact HXF.out
    · have h3 := HAH.out.1 rfl
      simp only [Prod.mk.injEq] at h3
      obtain ⟨rfl, rfl, rfl⟩ := h3
      go_wp2
      go_ret
      first | exact ⟨retv (by simp), HXF.out⟩ | exact HXF.out
  · have h1 := HSN.out.1 rfl
    have h2 := HSK.out.1 rfl
    obtain ⟨k, hk, hkn⟩ := HCA.out rfl
    simp only [Prod.mk.injEq] at h1 h2
    obtain ⟨rfl, rfl, rfl⟩ := h1
    obtain ⟨rfl, rfl, rfl⟩ := h2
    subst hk
    cases o3
    · have h3 := HAH.out.2 rfl
      simp only [Prod.mk.injEq] at h3
      obtain ⟨rfl, rfl, rfl⟩ := h3
      go_wp2
      go_ret
      first | exact ⟨retv (by simp), HXF.out⟩ | exact HXF.out
    · have h3 := HAH.out.1 rfl
      simp only [Prod.mk.injEq] at h3
      obtain ⟨rfl, rfl, rfl⟩ := h3
      go_wp2
      go_ret
      first | exact ⟨retv (by simp), HXF.out⟩ | exact HXF.out

set_option maxRecDepth 100000 in
theorem liftedU_ScopeMore (os : Os) (started : os.Started) (H : Type) (enc : TypeId × Value → H) (F : Stop.Interp) :
    ReturnsInHanded {} Try.checked os 6 .any ((Rows.OpenSpec.upto Rows.scopeMoreSpec).pre6 enc Try.prog Try.f6 Rows.scopeMoreUptoRow.domain false) (((Rows.OpenSpec.upto Rows.scopeMoreSpec).at F).post enc Try.prog Try.f6 false true false false) := by
  refine returnsInHanded_of_cond_sized (C := Try.checked) (s := Rows.OpenSpec.upto Rows.scopeMoreSpec) (k := Rows.uptoSmall) rfl own started (by kernel_rfl) Try.func6
    (OpenSpec.witness (enc := enc) (C := Try.checked) (s := Rows.OpenSpec.upto Rows.scopeMoreSpec) (k := Rows.uptoSmall) rfl false ⟨#[], #[.agg #[.string ByteArray.empty, .string ByteArray.empty, .bool false, .int .i64 0, .bool false, .int .i64 0, .bool false, .int .i64 0, .int .i64 0], .slice none 0 0, .agg #[.string ByteArray.empty, .int .i64 0, .slice none 0 0, .slice none 0 0, .slice none 0 0, .slice none 0 0, .slice none 0 0, .slice none 0 0, .int .i64 0, .slice none 0 0, .slice none 0 0, .slice none 0 0, .slice none 0 0, .slice none 0 0, .int .i64 0]], []⟩ 8 (by kernel_rfl) (by kernel_rfl) (by kernel_rfl)
      (x := ([.agg [.lit (.string []), .lit (.string []), .lit (.bool false), .lit (.int .i64 0), .lit (.bool false), .lit (.int .i64 0), .lit (.bool false), .lit (.int .i64 0), .lit (.int .i64 0)], .nil, .agg [.lit (.string []), .lit (.int .i64 0), .nil, .nil, .nil, .nil, .agg [.nil, .agg [.nil, .lit (.int .i64 0)]], .nil, .nil, .nil, .nil, .nil, .lit (.int .i64 0)]], [], [])) (by kernel_rfl) rfl (by kernel_rfl)) ?_
  intro W base args ds gs before hval0 hW _ hk0 hsz0 _
  have hsz : (DataW.weightsEach Try.prog (Try.f6.params.toList ++ Rows.scopeMoreSpec.plain.varTypes Try.prog) (ds ++ gs)).all (· ≤ reachBytes) = true := hsz0
  clear hsz0
  have hval : ∀ (j : Nat) t v, Try.f6.params[j]? = some t → args[j]? = some v → Value.okWide Try.prog W .any base t v := hval0
  have hW' := hW
  obtain ⟨p, q, hA0, hV, rfl, hfz, hnd⟩ := hW
  have hA : DataW.TrodAll enc Try.prog W 0 (fun _ => true) true Try.f6.params.toList args.toList ds p := hA0
  rw [Try.params6] at hA hval hsz
  obtain ⟨v0, vs0, d0, ds0, p0, q0, hargs, rfl, rfl, h0, r0⟩ := trodAll_cons hA
  obtain ⟨v1, vs1, d1, ds1, p1, q1, rfl, rfl, rfl, h1, r1⟩ := trodAll_cons r0
  obtain ⟨v2, vs2, d2, ds2, p2, q2, rfl, rfl, rfl, h2, r2⟩ := trodAll_cons r1
  obtain ⟨rfl, rfl, rfl⟩ := trodAll_nil r2
  obtain rfl : args = #[v0, v1, v2] := by cases args; simp_all
  obtain ⟨rfl, rfl⟩ := trodVars_none hV
  have hk : Rows.uptoBulkAll [d0, d1, d2] ≤ 1048576 := of_decide_eq_true hk0
  simp only [Rows.uptoBulkAll] at hk
  have lt0 : ∀ x ∈ p0, x.block < W.heap.size := by obtain ⟨m, hm⟩ := h0; exact DataW.trod_lt m _ _ _ hm
  obtain ⟨x0, hx0, hb0⟩ := open_InSymU (hval 0 25 v0 rfl rfl) h0 (light_each (j := 0) hsz rfl rfl)
  have lt1 : ∀ x ∈ p1, x.block < W.heap.size := by obtain ⟨m, hm⟩ := h1; exact DataW.trod_lt m _ _ _ hm
  obtain ⟨x1, hx1, hb1⟩ := open_InImgsN (hval 1 26 v1 rfl rfl) h1 (light_each (j := 1) hsz rfl rfl)
  have lt2 : ∀ x ∈ p2, x.block < W.heap.size := by obtain ⟨m, hm⟩ := h2; exact DataW.trod_lt m _ _ _ hm
  obtain ⟨x2, hx2, hb2⟩ := open_InImgU (hval 2 60 v2 rfl rfl) h2 (light_each (j := 2) hsz rfl rfl)
  clear hA0 hval0
  refine (walk_ScopeMore v0 v1 v2 x0 x1 x2 W hx0 hx1 hx2 (by omega)).mono fun e W' ⟨he, bel⟩ => ?_
  subst he
  exact ⟨_, rfl, _, _, _, [], _, [], hW', trodAll_mk1 (shut_bool Try.underlying4 _), (trodAll_cons_mk (Below.trod laidOut (by kernel_rfl) (of_decide_eq_true (by kernel_rfl)) h0 bel lt0) (trodAll_cons_mk (Below.trod laidOut (by kernel_rfl) (of_decide_eq_true (by kernel_rfl)) h1 bel lt1) (trodAll_cons_mk (Below.trod laidOut (by kernel_rfl) (of_decide_eq_true (by kernel_rfl)) h2 bel lt2) trodAll_mk0))), rfl, bel.frame _, fun h => by cases h⟩

/-- the statement, where what comes in is of bulk at most 1048576 -/
theorem holds_ScopeMoreUpto : Rows.ScopeMoreUptoSaid :=
  OpenClaim.holds_of_cond 6 Try.f6 rfl rfl rfl rfl rfl rfl rfl ⟨rfl, rfl, rfl, rfl, rfl⟩ rfl rfl rfl rfl rfl (by kernel_rfl) Try.func6 (by kernel_rfl)
    (of_decide_eq_true (by kernel_rfl)) (by unfold Func.isWrapper; first | (rw [if_pos (by decide +kernel)]; kernel_rfl) | (rw [if_neg (by decide +kernel)]; exact ⟨rfl, rfl⟩))
    (fun os started H enc _ F => liftedU_ScopeMore os started H enc F)
#print axioms holds_ScopeMoreUpto

end Go.Proofs.Ytcjmngonpijeiaa
