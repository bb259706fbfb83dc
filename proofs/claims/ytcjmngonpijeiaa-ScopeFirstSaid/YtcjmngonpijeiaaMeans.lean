/- clevisref14.Means: does a definition of an image match; and what is found, is found first. -/
import Derived.Test.YtcjmngonpijeiaaRRt
namespace Go.Proofs.Ytcjmngonpijeiaa
set_option maxRecDepth 100000
open Go.RowKit Pl
set_option linter.unusedVariables false

def meansB (r : Sym) (m : Im) (k : Int) : Bool := decide (0 ≤ k) && (decide (k < m.l.length) && matchB r (m.l.getD k.toNat sym0) (verB m.l))

set_option maxRecDepth 100000 in
set_option maxHeartbeats 3200000 in
theorem rmeans_any (r : Sym) (m : Im) (k : Int) (w : World) (h : m.In w) :
    Calls Try.prog 22 #[.agg r.vals.toArray, .agg m.vals.toArray, .int .i64 k] w fun e w' => e = .returned (.bool (meansB r m k)) ∧ Ext w w' := by
  have HI := Lib.hid h
  have hll := h.len
  have HMB : Hid (meansB r m k = (decide (0 ≤ k) && (decide (k < m.l.length) && matchB r (m.l.getD k.toNat sym0) (verB m.l)))) := Lib.hid rfl
  clear h
  generalize meansB r m k = mb at *
  obtain ⟨d0, d1, d2, d3, d4, SA, sc, l, ⟨BA, bc, bs, WA, wc, ws, sh⟩, d9, d10, d11, d12, d13, d14⟩ := m
  simp only at HMB hll
  have HVR := Lib.hid (fun w' hx => rversioned_any SA sc l w' (Ext.rdy (show Ext w w' from hx) HI.out.rd) hll)
  have HMT := Lib.hid (fun d ver w' => rmatch_any r d ver w')
  have HRD := Lib.hid HI.out.rd
  generalize verB l = vb at *
  generalize hmr : matchB r = mr at *
  clear hmr
  obtain ⟨rname, rver, rold, rkind, rweak, rvis, rdefd, rval, rsize⟩ := r
  simp only [Sym.vals, Im.vals] at HMT ⊢
  simp only at HRD
  go_enter Try.func22, Try.ntmps22
  go_wp2_with fail
  have hbx := box2 w #[.string rname, .string rver, .bool rold, .int .i64 rkind, .bool rweak, .int .i64 rvis, .bool rdefd, .int .i64 rval, .int .i64 rsize] #[.string d0, .int .i64 d1, .slice d2.A d2.n d2.c, .slice d3.A d3.n d3.c, .slice d4.A d4.n d4.c, .slice SA l.length sc, .slice BA bs.length bc, .slice WA ws.length wc, .int .i64 sh, .slice d9.A d9.n d9.c, .slice d10.A d10.n d10.c, .slice d11.A d11.n d11.c, .slice d12.A d12.n d12.c, .slice d13.A d13.n d13.c, .int .i64 d14] 25 60
  obtain ⟨hb1, hb2, hxb⟩ := hbx
  generalize (w.alloc (.cells #[.string rname, .string rver, .bool rold, .int .i64 rkind, .bool rweak, .int .i64 rvis, .bool rdefd, .int .i64 rval, .int .i64 rsize] 25)).alloc (.cells #[.string d0, .int .i64 d1, .slice d2.A d2.n d2.c, .slice d3.A d3.n d3.c, .slice d4.A d4.n d4.c, .slice SA l.length sc, .slice BA bs.length bc, .slice WA ws.length wc, .int .i64 sh, .slice d9.A d9.n d9.c, .slice d10.A d10.n d10.c, .slice d11.A d11.n d11.c, .slice d12.A d12.n d12.c, .slice d13.A d13.n d13.c, .int .i64 d14] 60) = w1 at *
  generalize w.heap.size + 1 = ib at *
  have HX1 := Lib.hid hxb
  have HB1 := Lib.hid hb1
  have g5 : ∀ u : EW w1, u.w.cell? ⟨ib, 5, none⟩ = some (.slice SA l.length sc) := fun u => u.cell (hb2.cell 5 rfl)
  clear hb1 hb2 hxb
  by_cases hk0 : 0 ≤ k
  · by_cases hk1 : k < l.length
    · obtain ⟨b, rfl⟩ : ∃ b : Nat, k = b := ⟨k.toNat, by omega⟩
      have hkl : b < l.length := by omega
      obtain ⟨zb, zo, rfl, hzb, hz⟩ := HRD.out.nine hkl
      have hgd : l.getD b sym0 = l[b] := by rw [List.getD_eq_getElem?_getD, List.getElem?_eq_getElem hkl]; rfl
      have HMV : Hid (mb = mr l[b] vb) := Lib.hid (by
        rw [HMB.out, decide_eq_true hk0, decide_eq_true hk1, Int.toNat_natCast, hgd]; rfl)
      clear HMB hgd hk0 hk1
      obtain ⟨s0, s1, s2, s3, s4, s5, s6, s7, s8⟩ := hz.ext HX1.out
      generalize l[b] = s at *
      have HM2 := Lib.hid (fun w' => HMT.out s vb w')
      rw [← HMV.out] at HM2
      obtain ⟨name, ver, old, kind, weak, vis, defd, val, size⟩ := s
      simp only at s0 s1 s2 s3 s4 s5 s6 s7 s8
      obtain ⟨q0, q1, q2, q3, q4, q5, q6, q7, q8⟩ := HB1.out.nine
      have HV2 : Hid (∀ u : EW w1, _) := Lib.hid (fun u : EW w1 => HVR.out u.w (HX1.out.trans u.ext))
      have f0 : ∀ u : EW w1, u.w.cell? _ = _ := fun u => u.cell s0
      have f1 : ∀ u : EW w1, u.w.cell? _ = _ := fun u => u.cell s1
      have f2 : ∀ u : EW w1, u.w.cell? _ = _ := fun u => u.cell s2
      have f3 : ∀ u : EW w1, u.w.cell? _ = _ := fun u => u.cell s3
      have f4 : ∀ u : EW w1, u.w.cell? _ = _ := fun u => u.cell s4
      have f5 : ∀ u : EW w1, u.w.cell? _ = _ := fun u => u.cell s5
      have f6 : ∀ u : EW w1, u.w.cell? _ = _ := fun u => u.cell s6
      have f7 : ∀ u : EW w1, u.w.cell? _ = _ := fun u => u.cell s7
      have f8 : ∀ u : EW w1, u.w.cell? _ = _ := fun u => u.cell s8
      have p0 : ∀ u : EW w1, u.w.cell? _ = _ := fun u => u.cell q0
      have p1 : ∀ u : EW w1, u.w.cell? _ = _ := fun u => u.cell q1
      have p2 : ∀ u : EW w1, u.w.cell? _ = _ := fun u => u.cell q2
      have p3 : ∀ u : EW w1, u.w.cell? _ = _ := fun u => u.cell q3
      have p4 : ∀ u : EW w1, u.w.cell? _ = _ := fun u => u.cell q4
      have p5 : ∀ u : EW w1, u.w.cell? _ = _ := fun u => u.cell q5
      have p6 : ∀ u : EW w1, u.w.cell? _ = _ := fun u => u.cell q6
      have p7 : ∀ u : EW w1, u.w.cell? _ = _ := fun u => u.cell q7
      have p8 : ∀ u : EW w1, u.w.cell? _ = _ := fun u => u.cell q8
      clear s0 s1 s2 s3 s4 s5 s6 s7 s8 q0 q1 q2 q3 q4 q5 q6 q7 q8 hz HMT HVR HMV
      refine wp_region_ext (by kernel_rfl) (by kernel_rfl) ?_
      repeat (go_big_quiet_step ((first | (go_at_call 33; exact ext_same (HV2.out _)) | (go_at_call 32; exact ext_call (HM2.out _)))))
      refine wpQuiet_nil ?_
      rintro w9 ⟨u9, rfl⟩
      go_wp2
      go_ret
      exact ⟨retv rfl, HX1.out.trans u9.ext⟩
    · have HN : Hid (mb = false) := Lib.hid (by rw [HMB.out, decide_eq_false hk1]; simp)
      have l1 : decide ((0 : Int) ≤ k) = true := decide_eq_true hk0
      have l2 : decide (k < (l.length : Int)) = false := decide_eq_false hk1
      clear hk0 hk1
      refine wp_region_ext (by kernel_rfl) (by kernel_rfl) ?_
      repeat (go_big_quiet_step (fail))
      refine wpQuiet_nil ?_
      rintro w9 ⟨u9, rfl⟩
      go_wp2
      go_ret
      exact ⟨retv (by rw [HN.out]; rfl), HX1.out.trans u9.ext⟩
  · have HN : Hid (mb = false) := Lib.hid (by rw [HMB.out, decide_eq_false hk0]; rfl)
    have l1 : decide ((0 : Int) ≤ k) = false := decide_eq_false hk0
    clear hk0
    refine wp_region_ext (by kernel_rfl) (by kernel_rfl) ?_
    repeat (go_big_quiet_step (fail))
    refine wpQuiet_nil ?_
    rintro w9 ⟨u9, rfl⟩
    go_wp2
    go_ret
    exact ⟨retv (by rw [HN.out]; rfl), HX1.out.trans u9.ext⟩

theorem firstP_neg {r : Sym} {l : List Sym} (h : ¬ 0 ≤ firstP r l) : ∀ q, q < l.length → matchB r (l.getD q sym0) (verB l) = false := by
  unfold firstP at h
  intro q hq
  cases hf : (List.range l.length).find? fun k => matchB r (l.getD k sym0) (verB l) with
  | some k => rw [hf] at h; exact absurd (by simp) h
  | none =>
    have := List.find?_eq_none.1 hf q (List.mem_range.2 hq)
    simpa using this
theorem firstP_pos {r : Sym} {l : List Sym} (h : 0 ≤ firstP r l) : ∃ b : Nat, firstP r l = b ∧ b < l.length ∧ matchB r (l.getD b sym0) (verB l) = true := by
  unfold firstP at h ⊢
  cases hf : (List.range l.length).find? fun k => matchB r (l.getD k sym0) (verB l) with
  | none => rw [hf] at h; simp at h
  | some k =>
    exact ⟨k, rfl, List.mem_range.1 (List.mem_of_find?_eq_some hf), by simpa using List.find?_some hf⟩

/-- what is found: by right tables -/
theorem found_first {r : Sym} {skip : Int} {ims : List Im} (h : allR ims = true) :
    (lookF r skip ims = (0, 0, false) ∧ lookN r skip ims = cntK r skip ims ims.length ∧ ∀ j, j < ims.length → (j : Int) ≠ skip → ∀ q : Nat, meansB r (ims.getD j im0) q = false) ∨
    (∃ a b : Nat, lookF r skip ims = ((a : Int), (b : Int), true) ∧ lookN r skip ims = cntK r skip ims (a + 1) ∧ a < ims.length ∧ (a : Int) ≠ skip ∧ meansB r (ims.getD a im0) b = true ∧
      ∀ j, j < a → (j : Int) ≠ skip → ∀ q : Nat, meansB r (ims.getD j im0) q = false) := by
  have hfp : ∀ k, k < ims.length → (findI r ims k).1 = firstP r (ims.getD k im0).l := fun k hk => by
    have hm : ims.getD k im0 ∈ ims := getD_mem hk
    obtain ⟨h1, _, _, h4, h5⟩ := right_full _ _ (allR_each h _ hm)
    exact (find_first _ r _ h1 h4 h5).1
  have hno : ∀ j, j < ims.length → (j : Int) ≠ skip → hitB r skip ims j = false → ∀ q : Nat, meansB r (ims.getD j im0) q = false := by
    intro j hj hs hh q
    unfold hitB at hh
    rw [decide_eq_true hs, Bool.true_and, hfp j hj] at hh
    have hn := firstP_neg (of_decide_eq_false hh)
    unfold meansB
    by_cases hq : q < (ims.getD j im0).l.length
    · rw [Int.toNat_natCast, hn q hq]; simp
    · rw [decide_eq_false (by omega : ¬ (q : Int) < ((ims.getD j im0).l.length : Nat))]; simp
  cases hq : lookI r skip ims with
  | none =>
    left
    have hn : ∀ j, j < ims.length → hitB r skip ims j = false := fun j hj => by
      have := List.find?_eq_none.1 hq j (List.mem_range.2 hj)
      simpa using this
    obtain ⟨h1, h2⟩ := look_none hn
    exact ⟨h1, h2, fun j hj hs => hno j hj hs (hn j hj)⟩
  | some k =>
    right
    have hk : k < ims.length := List.mem_range.1 (List.mem_of_find?_eq_some hq)
    have hhit : hitB r skip ims k = true := by simpa using List.find?_some hq
    obtain ⟨_, as1, bs1, h2, h3⟩ := List.find?_eq_some_iff_append.1 hq
    have hlen : as1.length = k := by
      have h4 := congrArg (fun l : List Nat => l[as1.length]?) h2
      rw [List.getElem?_append_right (Nat.le_refl _), Nat.sub_self, List.getElem?_cons_zero] at h4
      have hal : as1.length < ims.length := by
        have := congrArg List.length h2
        simp at this
        omega
      rw [List.getElem?_range hal] at h4
      simpa using h4
    have hn : ∀ j, j < k → hitB r skip ims j = false := fun j hj => by
      have h4 := congrArg (fun l : List Nat => l[j]?) h2
      rw [List.getElem?_range (by omega), List.getElem?_append_left (by omega), List.getElem?_eq_getElem (by omega)] at h4
      simp only [Option.some.injEq] at h4
      have := h3 as1[j] (List.getElem_mem _)
      rw [← h4] at this
      simpa using this
    obtain ⟨h5, h6⟩ := look_hit hk hn hhit
    unfold hitB at hhit
    rw [Bool.and_eq_true] at hhit
    have hs := of_decide_eq_true hhit.1
    have hp := of_decide_eq_true hhit.2
    rw [hfp k hk] at hp h5
    obtain ⟨b, e, hb, hm⟩ := firstP_pos hp
    rw [e] at h5
    refine ⟨k, b, h5, h6, hk, hs, ?_, fun j hj hs => hno j (by omega) hs (hn j hj)⟩
    unfold meansB
    rw [Int.toNat_natCast, hm, decide_eq_true (by omega : (0 : Int) ≤ (b : Int)), decide_eq_true (by omega : (b : Int) < (((ims.getD k im0).l.length : Nat) : Int))]
    rfl

theorem cntK_after {r : Sym} {skip : Int} {ims : List Im} {k i : Nat} (hi : i < ims.length) (h : k ≤ i ∨ (i : Int) = skip) : (cntK r skip ims k)[i]? = some 0 := by
  unfold cntK
  rw [List.getElem?_map, List.getElem?_range hi]
  simp only [Option.map_some, Option.some.injEq]
  unfold cnt1
  rw [if_neg (fun h2 => by rcases h with h | h; omega; exact h2.2 h)]

end Go.Proofs.Ytcjmngonpijeiaa
