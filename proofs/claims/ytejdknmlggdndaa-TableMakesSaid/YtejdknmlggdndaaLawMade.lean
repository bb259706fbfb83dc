/- clevislaw08.TableMade. -/
import Derived.Test.YtejdknmlggdndaaFirst
import Derived.Test.YtejdknmlggdndaaName

import Derived.Test.YtejdknmlggdndaaSieveQ
namespace Go.Proofs.Ytejdknmlggdndaa
open Go.ChangeShapes Go.WideShapes Go.ChangeAt Go.RowKit Pl
set_option linter.unusedVariables false

/-- what is asked for by a definition's name and version -/
def refOf (x : Sym) : Sym := ⟨x.name, x.ver, false, 0, false, 0, false, 0, 0⟩
theorem refOf_fit {x : Sym} (h : x.Fit) : (refOf x).Fit := ⟨h.name, h.ver, by unfold refOf i64B; simp, by unfold refOf i64B; simp, by unfold refOf i64B; simp, by unfold refOf i64B; simp⟩

theorem made_holds (l : List Sym) (i : Nat) (hi : i ∈ seenI l) : lackT (wordsI l (seenI l)) 6 (hashN (l.getD i sym0).name) = false := by
  have hw := wideN_words (seenI l).length
  have hm : hashN (l.getD i sym0).name ∈ hashL l (seenI l) := List.mem_map.2 ⟨i, hi, rfl⟩
  have hc := Cov.mem (sh := 6) (hashL l (seenI l)) (ws := List.replicate (wideN (seenI l).length) 0) (by rw [List.length_replicate]; omega) hm
  have := Cov.lacks hc
  unfold lackT wordsI
  rw [show (6 : Int).toNat = 6 from rfl, this, Bool.and_false]

theorem made_first (t : Tb) (l : List Sym) (n : Nat) (hn : 1 ≤ n) (h1 : t.bs.map Bk.is = bksI l n (seenI l)) (h2 : t.ws = wordsI l (seenI l)) (h3 : t.sh = 6) (r : Sym) : (findP t r l).1 = firstP r l := by
  have hbl : t.bs.length = n := by have := congrArg List.length h1; simpa [bksI_len] using this
  exact (find_first t r l (by omega) (by rw [hbl]; exact h1) (fun i hi => by rw [h2, h3]; exact made_holds l i hi)).1

/-- what is right and seen is found, or one ahead -/
theorem own_first (l : List Sym) (j : Nat) (hj : j < l.length) (x : Sym) (hx : l.getD j sym0 = x) (hs : seenB x = true) (ho : x.ver.size = 0 → x.old = false) :
    ∃ k : Nat, firstP (refOf x) l = k ∧ k ≤ j ∧ (l.getD k sym0).name = x.name := by
  have hm : matchB (refOf x) (l.getD j sym0) (verB l) = true := by
    rw [hx]
    unfold matchB
    by_cases hv : x.ver.size = 0
    · rw [hs, if_pos (show (refOf x).ver.size = 0 from hv), ho hv, decide_eq_true (show (refOf x).name = x.name from rfl)]; rfl
    · rw [hs, if_neg (show ¬ (refOf x).ver.size = 0 from hv), decide_eq_true (show (refOf x).name = x.name from rfl), decide_eq_true (show (refOf x).ver = x.ver from rfl)]; rfl
  cases hf : (List.range l.length).find? fun k => matchB (refOf x) (l.getD k sym0) (verB l) with
  | none => exact absurd hm (by simpa using (List.find?_eq_none.1 hf) j (List.mem_range.2 hj))
  | some k =>
    refine ⟨k, by unfold firstP; rw [hf], ?_, ?_⟩
    · have hk := (List.find?_eq_some_iff_append.1 hf)
      obtain ⟨_, pre, post, hab, hn⟩ := hk
      by_cases hlt : j < k
      · exfalso
        have hlen : pre.length = k := by
          have h1 : (List.range l.length)[pre.length]? = (pre ++ k :: post)[pre.length]? := by rw [hab]
          rw [List.getElem?_append_right (Nat.le_refl _), Nat.sub_self] at h1
          have hal : pre.length < l.length := by
            have := congrArg List.length hab
            simp at this
            omega
          rw [List.getElem?_range hal] at h1
          simpa using h1
        have hja : j ∈ pre := by
          have h1 : (List.range l.length)[j]? = (pre ++ k :: post)[j]? := by rw [hab]
          rw [List.getElem?_append_left (by omega), List.getElem?_range hj] at h1
          exact List.mem_of_getElem? h1.symm
        have := hn j hja
        rw [hm] at this
        simp at this
      · omega
    · have hp := List.find?_some hf
      exact (match_seen hp).2.symm

section
variable {H : Type} {enc : TypeId × Value → H} {P : Program} {w : World} {base : Nat} {spare : Nat → Bool} {held : Bool} {r : Reach} {b0 : Nat} {t : TypeId} {v : Value} {d : DataW H} {ps : List MemPlace}
theorem open_InU16 (ht : P.underlying t = some (.int .u16)) (hval : Value.okWide P w r b0 t v) (hd : DataW.Trod enc P w base spare held t v d ps) (hz : Light P t d) : ∃ x, InU16 w v x := by
  obtain ⟨x, rfl, _, _, hx⟩ := open_int ht hval hd
  have := bounds_u16 hx
  exact ⟨x.toNat, by rw [Int.toNat_of_nonneg (by omega)], by omega⟩
end

set_option maxRecDepth 100000 in
set_option maxHeartbeats 3200000 in
theorem walk_TableMade (v0 v1 : Value) (l : List Sym) (x0 : Nat) (w : World) (h0 : InSyms w v0 l) (h1 : InU16 w v1 x0) :
    Calls Try.prog 8 #[v0, v1] w fun e w' => e = .returned (.bool true) ∧ Below w.heap.size w w' := by
  obtain ⟨A, c, rfl, hA, hf, hl, hlc, hcm⟩ := h0
  obtain ⟨rfl, hx0⟩ := h1
  have HA := Lib.hid hA
  have HF := Lib.hid hf
  clear hA hf
  go_enter Try.func8, Try.ntmps8
  go_wp2_with fail
  refine (awake_any _).mono ?_
  rintro e w1 ⟨rfl, hx1⟩
  have HX1 := Lib.hid hx1
  clear hx1
  go_wp2_with fail
  refine (make_any A c l w1 (HX1.out.rdy HA.out) HF.out hl).mono ?_
  rintro e w2 (⟨h, rfl, hx2⟩ | ⟨h, t, rfl, hown, h1, h2, h3⟩)
  · go_wp2
    go_ret
    exact ⟨rfl, (HX1.out.trans hx2).trans (Ext.alloc _ _)⟩
  have hcp := cntN_pos (seenI l).length
  have hbl : t.bs.length = cntN (seenI l).length := by have := congrArg List.length h1; simpa [bksI_len] using this
  have hcl := cntN_le (seenI l).length
  have hsl := seenK_len l l.length
  change (seenI l).length ≤ l.length at hsl
  have HTI := Lib.hid (hown.inn h1 h2 h3 h (by omega))
  have HX2 := Lib.hid (HX1.out.trans hown.x)
  have HFM := Lib.hid (fun r => made_first t l _ hcp h1 h2 h3 r)
  have hb6 : t.bs.length ≤ 600 := by omega
  clear hown h1 h2 h3 hbl hcl hsl hcp
  have HFA := Lib.hid (fun r w' hx hr => find_any t r A c l w' (HTI.out.ext (show Ext w2 w' from hx)) hr ((HX2.out.trans hx).rdy HA.out) hl (by omega))
  obtain ⟨BA, bc, bs, WA, wc, ws, sh⟩ := t
  simp only [Tb.vals] at HFA ⊢
  by_cases hz : l.length = 0
  · have hd1 : ((l.length : Int) == 0) = true := by rw [hz]; rfl
    go_wp2
    go_ret
    exact ⟨rfl, HX2.out.trans (Ext.alloc _ _)⟩
  have hd1 : ((l.length : Int) == 0) = false := beq_eq_false_iff_ne.mpr (by omega)
  have hj : x0 % l.length < l.length := Nat.mod_lt _ (by omega)
  have hmod : ((x0 : Int) % (l.length : Int)) = ((x0 % l.length : Nat) : Int) := rfl
  have HMOD := Lib.hid hmod
  clear hmod
  generalize x0 % l.length = j at *
  obtain ⟨yb, yo, rfl, hyb, hy⟩ := HA.out.nine hj
  have hgd : l.getD j sym0 = l[j] := by rw [List.getD_eq_getElem?_getD, List.getElem?_eq_getElem hj]; rfl
  have hft := HF.out _ (List.getElem_mem hj)
  have HOF := Lib.hid (own_first l j hj l[j] hgd)
  clear hgd
  generalize l[j] = d at *
  have HRS := Lib.hid (fun w' => rrsym_any d w' hft)
  have HSE := Lib.hid (fun w' => rseen_any d w')
  have HFC := Lib.hid (fun w' hx => rfirst_any (refOf d) (some ⟨yb, yo, none⟩) c l w' ((HX2.out.trans (show Ext w2 w' from hx)).rdy HA.out) hl)
  have HFD := Lib.hid (fun w' hx => HFA.out (refOf d) w' hx (refOf_fit hft))
  have HFE := Lib.hid (HFM.out (refOf d))
  clear HFA HFM hft
  have hx3 := Ext.alloc w2 (.cells #[.slice BA bs.length bc, .slice WA ws.length wc, .int .i64 sh] 29)
  obtain ⟨g0, g1, g2, g3, g4, g5, g6, g7, g8⟩ := hy.ext (HX2.out.trans hx3)
  obtain ⟨name, ver, old, kind, weak, vis, defd, val, size⟩ := d
  simp only [Sym.vals, refOf] at HRS HSE HFC HFD HFE HOF
  simp only at g0 g1 g2 g3 g4 g5 g6 g7 g8
  clear hx3 hy
  have hm1 := HMOD.out
  go_wp2_with fail
  have hbT : Blk (((w2.alloc (.cells #[.slice BA bs.length bc, .slice WA ws.length wc, .int .i64 sh] 29)).alloc (.cells #[.string name, .string ver, .bool old, .int .i64 kind, .bool weak, .int .i64 vis, .bool defd, .int .i64 val, .int .i64 size] 43)).alloc (.cells #[.string name, .string ver, .bool false, .int .i64 0, .bool false, .int .i64 0, .bool false, .int .i64 0, .int .i64 0] 43)) (w2.heap.size + 1) 43 #[.string name, .string ver, .bool old, .int .i64 kind, .bool weak, .int .i64 vis, .bool defd, .int .i64 val, .int .i64 size] := by
    have := (Blk.new (w2.alloc (.cells #[.slice BA bs.length bc, .slice WA ws.length wc, .int .i64 sh] 29)) 43 #[.string name, .string ver, .bool old, .int .i64 kind, .bool weak, .int .i64 vis, .bool defd, .int .i64 val, .int .i64 size]).alloc (.cells #[.string name, .string ver, .bool false, .int .i64 0, .bool false, .int .i64 0, .bool false, .int .i64 0, .int .i64 0] 43)
    simpa using this
  have hbR : Blk (((w2.alloc (.cells #[.slice BA bs.length bc, .slice WA ws.length wc, .int .i64 sh] 29)).alloc (.cells #[.string name, .string ver, .bool old, .int .i64 kind, .bool weak, .int .i64 vis, .bool defd, .int .i64 val, .int .i64 size] 43)).alloc (.cells #[.string name, .string ver, .bool false, .int .i64 0, .bool false, .int .i64 0, .bool false, .int .i64 0, .int .i64 0] 43)) (w2.heap.size + 1 + 1) 43 #[.string name, .string ver, .bool false, .int .i64 0, .bool false, .int .i64 0, .bool false, .int .i64 0, .int .i64 0] := by
    have := Blk.new ((w2.alloc (.cells #[.slice BA bs.length bc, .slice WA ws.length wc, .int .i64 sh] 29)).alloc (.cells #[.string name, .string ver, .bool old, .int .i64 kind, .bool weak, .int .i64 vis, .bool defd, .int .i64 val, .int .i64 size] 43)) 43 #[.string name, .string ver, .bool false, .int .i64 0, .bool false, .int .i64 0, .bool false, .int .i64 0, .int .i64 0]
    simpa using this
  have hx5 : Ext w2 (((w2.alloc (.cells #[.slice BA bs.length bc, .slice WA ws.length wc, .int .i64 sh] 29)).alloc (.cells #[.string name, .string ver, .bool old, .int .i64 kind, .bool weak, .int .i64 vis, .bool defd, .int .i64 val, .int .i64 size] 43)).alloc (.cells #[.string name, .string ver, .bool false, .int .i64 0, .bool false, .int .i64 0, .bool false, .int .i64 0, .int .i64 0] 43)) :=
    (Ext.alloc _ _).trans ((Ext.alloc _ _).trans (Ext.alloc _ _))
  generalize (((w2.alloc (.cells #[.slice BA bs.length bc, .slice WA ws.length wc, .int .i64 sh] 29)).alloc (.cells #[.string name, .string ver, .bool old, .int .i64 kind, .bool weak, .int .i64 vis, .bool defd, .int .i64 val, .int .i64 size] 43)).alloc (.cells #[.string name, .string ver, .bool false, .int .i64 0, .bool false, .int .i64 0, .bool false, .int .i64 0, .int .i64 0] 43)) = w5 at *
  clear g0 g1 g2 g3 g4 g5 g6 g7 g8
  generalize hxb : w2.heap.size + 1 = xb at *
  generalize hrb : xb + 1 = rb at *
  clear hxb hrb
  refine (HFD.out w5 hx5).mono ?_
  rintro e w6 ⟨rfl, hx6⟩
  rw [HFE.out]
  have HX6 := Lib.hid (hx5.trans hx6)
  have HBX := Lib.hid (hx6.blk hbT)
  have HBR := Lib.hid (hx6.blk hbR)
  clear hx5 hx6 hbT hbR HFD HFE hm1
  obtain ⟨x0', x1, x2, x3, x4, x5, x6, x7, x8⟩ := HBX.out.nine
  have HHB : Hid (∃ k : Nat, k < l.length ∧ (seenB ⟨name, ver, old, kind, weak, vis, defd, val, size⟩ = true → (ver.size = 0 → old = false) → firstP ⟨name, ver, false, 0, false, 0, false, 0, 0⟩ l = k ∧ k ≤ j ∧ (l.getD k sym0).name = name)) := Lib.hid (by
    by_cases h1 : seenB ⟨name, ver, old, kind, weak, vis, defd, val, size⟩ = true ∧ (ver.size = 0 → old = false)
    · obtain ⟨k, hk⟩ := HOF.out h1.1 h1.2
      exact ⟨k, by omega, fun _ _ => hk⟩
    · exact ⟨0, by omega, fun a b => absurd ⟨a, b⟩ h1⟩)
  clear HOF
  generalize (findP ⟨BA, bc, bs, WA, wc, ws, sh⟩ ⟨name, ver, false, 0, false, 0, false, 0, 0⟩ l).2 = fn at *
  generalize firstP ⟨name, ver, false, 0, false, 0, false, 0, 0⟩ l = rP at *
  go_wp2_with fail
  refine (HSE.out _).mono ?_
  rintro e w7 ⟨rfl, hx7⟩
  clear x0' x1 x2 x3 x4 x5 x6 x7 x8
  have HXX := Lib.hid hx7
  cases hsb : seenB ⟨name, ver, old, kind, weak, vis, defd, val, size⟩
  · clear hsb HHB hx7
    obtain ⟨m0, m1, m2, m3, m4, m5, m6, m7, m8⟩ := (HXX.out.blk HBR.out).nine
    go_wp2_with fail
    refine (HFC.out _ (HX6.out.trans HXX.out)).mono ?_
    rintro e w9 ⟨rfl, hx9⟩
    go_wp2
    go_ret
    exact ⟨rfl, HX2.out.trans (HX6.out.trans (HXX.out.trans hx9))⟩
  · obtain ⟨x0', x1, x2, x3, x4, x5, x6, x7, x8⟩ := (hx7.blk HBX.out).nine
    clear hx7
    go_wp2_with fail
    refine (HRS.out _).mono ?_
    rintro e w8 ⟨⟨b, rfl, hb⟩, hx8⟩
    clear x0' x1 x2 x3 x4 x5 x6 x7 x8
    have HXX8 := Lib.hid (HXX.out.trans hx8)
    clear HXX hx8
    have HXX := HXX8
    clear HXX8
    cases b
    · clear hb hsb HHB
      obtain ⟨m0, m1, m2, m3, m4, m5, m6, m7, m8⟩ := (HXX.out.blk HBR.out).nine
      go_wp2_with fail
      refine (HFC.out _ (HX6.out.trans HXX.out)).mono ?_
      rintro e w9 ⟨rfl, hx9⟩
      go_wp2
      go_ret
      exact ⟨rfl, HX2.out.trans (HX6.out.trans (HXX.out.trans hx9))⟩

    · obtain ⟨k, hk, hkk⟩ := HHB.out
      obtain ⟨rfl, hkj, hkn⟩ := hkk hsb (hb rfl)
      clear hkk hb hsb HHB HFC HRS HSE
      obtain ⟨x0', x1, x2, x3, x4, x5, x6, x7, x8⟩ := (HXX.out.blk HBX.out).nine
      clear x1 x2 x3 x4 x5 x6 x7 x8
      obtain ⟨yb', yo', hAA, _, hyk⟩ := HA.out.nine hk
      obtain ⟨rfl, rfl⟩ : yb = yb' ∧ yo = yo' := by simpa using hAA
      have hgd : l.getD k sym0 = l[k] := by rw [List.getD_eq_getElem?_getD, List.getElem?_eq_getElem hk]; rfl
      rw [hgd] at hkn
      obtain ⟨y0, -⟩ := hyk.ext (HX2.out.trans (HX6.out.trans HXX.out))
      rw [hkn] at y0
      clear hgd hkn hyk hAA
      have hm1 := HMOD.out
      have hd4 : decide (0 ≤ (k : Int)) = true := decide_eq_true (by omega)
      have hd5 : decide ((k : Int) ≤ j) = true := decide_eq_true (by omega)
      have e0 : ∀ u : EW w8, u.w.cell? ⟨yb, yo + k * 9, none⟩ = some (.string name) := fun u => u.cell y0
      have e1 : ∀ u : EW w8, u.w.cell? ⟨xb, 0, none⟩ = some (.string name) := fun u => u.cell x0'
      clear y0 x0'
      go_wp2_with fail
      refine wp_region_ext (by kernel_rfl) (by kernel_rfl) ?_
      repeat (go_big_quiet_step (fail))
      refine wpQuiet_nil ?_
      rintro w9 ⟨u9, rfl⟩
      go_wp2
      go_ret
      exact ⟨rfl, HX2.out.trans (HX6.out.trans (HXX.out.trans u9.ext))⟩

set_option maxRecDepth 100000 in
theorem lifted_TableMade (os : Os) (started : os.Started) (H : Type) (enc : TypeId × Value → H) :
    ReturnsInHanded {} Try.checked os 8 .any (Rows.tableMadeSpec.pre6 enc Try.prog Try.f8 Rows.tableMadeRow.domain false) (Rows.tableMadeSpec.post enc Try.prog Try.f8 false true false false) := by
  refine returnsInHanded_of_change_sized (C := Try.checked) own started (by kernel_rfl) Try.func8
    (ChangeSpec.witness6 (enc := enc) (C := Try.checked) false ⟨#[], #[.slice none 0 0, .int .u16 0], []⟩ 8 (by kernel_rfl) (by kernel_rfl) (by kernel_rfl) (by kernel_rfl)) ?_
  intro W base args ds gs before hval0 hW hcnd hsz0 _
  have hsz : (DataW.weightsEach Try.prog (Try.f8.params.toList ++ Rows.tableMadeSpec.plain.varTypes Try.prog) (ds ++ gs)).all (· ≤ reachBytes) = true := hsz0
  clear hsz0
  have hval : ∀ (j : Nat) t v, Try.f8.params[j]? = some t → args[j]? = some v → Value.okWide Try.prog W .any base t v := hval0
  have hW' := hW
  obtain ⟨p, q, hA0, hV, rfl, hfz, hnd⟩ := hW
  have hA : DataW.TrodAll enc Try.prog W 0 (fun _ => true) true Try.f8.params.toList args.toList ds p := hA0
  rw [Try.params8] at hA hval hsz
  obtain ⟨v0, vs0, d0, ds0, p0, q0, hargs, rfl, rfl, h0, r0⟩ := trodAll_cons hA
  obtain ⟨v1, vs1, d1, ds1, p1, q1, rfl, rfl, rfl, h1, r1⟩ := trodAll_cons r0
  obtain ⟨rfl, rfl, rfl⟩ := trodAll_nil r1
  obtain rfl : args = #[v0, v1] := by cases args; simp_all
  obtain ⟨rfl, rfl⟩ := trodVars_none hV
  have lt0 : ∀ x ∈ p0, x.block < W.heap.size := by obtain ⟨m, hm⟩ := h0; exact DataW.trod_lt m _ _ _ hm
  obtain ⟨x0, hx0⟩ := open_InSyms (hval 0 22 v0 rfl rfl) h0 (light_each (j := 0) hsz rfl rfl)
  have lt1 : ∀ x ∈ p1, x.block < W.heap.size := by obtain ⟨m, hm⟩ := h1; exact DataW.trod_lt m _ _ _ hm
  obtain ⟨x1, hx1⟩ := open_InU16 Try.underlying51 (hval 1 51 v1 rfl rfl) h1 (light_each (j := 1) hsz rfl rfl)
  clear hA0 hval0
  refine (walk_TableMade v0 v1 x0 x1 W hx0 hx1).mono fun e W' ⟨he, bel⟩ => ?_
  subst he
  exact ⟨_, rfl, _, _, _, [], _, [], hW', trodAll_mk1 (shut_bool Try.underlying4 _), (trodAll_cons_mk (Below.trod laidOut (by kernel_rfl) (of_decide_eq_true (by kernel_rfl)) h0 bel lt0) (trodAll_cons_mk (Below.trod laidOut (by kernel_rfl) (of_decide_eq_true (by kernel_rfl)) h1 bel lt1) trodAll_mk0)), rfl, bel.frame _, fun h => by cases h⟩

theorem over_TableMade : Rows.tableMadeRow.holds Try.pinned (OpenSpec.ofChange Rows.tableMadeSpec) :=
  OpenClaim.holds_of_wide 8 Try.f8 rfl rfl rfl rfl rfl rfl rfl ⟨rfl, rfl, rfl, rfl, rfl⟩ rfl rfl rfl rfl rfl (by kernel_rfl) Try.func8 (by kernel_rfl)
    (of_decide_eq_true (by kernel_rfl)) (by unfold Func.isWrapper; first | (rw [if_pos (by decide +kernel)]; kernel_rfl) | (rw [if_neg (by decide +kernel)]; exact ⟨rfl, rfl⟩))
    (fun os started H enc _ => lifted_TableMade os started H enc)

/-- the statement -/
theorem holds_TableMade : Rows.TableMadeSaid := over_TableMade
#print axioms holds_TableMade

end Go.Proofs.Ytejdknmlggdndaa
