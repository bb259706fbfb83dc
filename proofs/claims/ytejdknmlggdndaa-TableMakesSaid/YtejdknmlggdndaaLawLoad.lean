/- clevislaw08.TableLoad. -/
import Derived.Test.YtejdknmlggdndaaAw8
namespace Go.Proofs.Ytejdknmlggdndaa
open Go.ChangeShapes Go.WideShapes Go.ChangeAt Go.RowKit Pl
set_option linter.unusedVariables false

theorem bk_step (f : Nat → Nat) (m : Nat) (is : List Nat) : (is.filter fun i => decide (f i < m + 1)).length = (is.filter fun i => decide (f i < m)).length + (is.filter fun i => decide (f i = m)).length := by
  induction is with
  | nil => rfl
  | cons a r ih =>
    simp only [List.filter_cons]
    rcases Nat.lt_trichotomy (f a) m with h | h | h
    · rw [decide_eq_true (by omega : f a < m + 1), decide_eq_true h, decide_eq_false (by omega : ¬ f a = m)]
      simp only [if_true, List.length_cons, Bool.false_eq_true, if_false]
      omega
    · rw [decide_eq_true (by omega : f a < m + 1), decide_eq_false (by omega : ¬ f a < m), decide_eq_true h]
      simp only [if_true, List.length_cons, Bool.false_eq_true, if_false]
      omega
    · rw [decide_eq_false (by omega : ¬ f a < m + 1), decide_eq_false (by omega : ¬ f a < m), decide_eq_false (by omega : ¬ f a = m)]
      simp only [Bool.false_eq_true, if_false]
      exact ih
theorem bks_total (l : List Sym) (is : List Nat) (many : Nat) : ∀ m, ((List.range m).map fun b => (natI (bkI l many is b)).length).sum = (is.filter fun i => decide (hashN (l.getD i sym0).name % many < m)).length
  | 0 => by rw [List.filter_eq_nil_iff.2 (fun i _ => by simp)]; rfl
  | m + 1 => by
    rw [List.range_succ, List.map_append, List.sum_append, bks_total l is many m, bk_step (fun i => hashN (l.getD i sym0).name % many) m is]
    simp [natI_len, bkI]
theorem total_made (t : Tb) (l : List Sym) (many : Nat) (hm : 0 < many) (h : t.bs.map Bk.is = bksI l many (seenI l)) : total t.bs = (seenI l).length := by
  unfold total
  have e : (t.bs.map fun k => k.is.length) = (bksI l many (seenI l)).map List.length := by rw [← h, List.map_map]; rfl
  rw [e]
  unfold bksI
  rw [List.map_map]
  have := bks_total l (seenI l) many many
  rw [show (List.map (List.length ∘ fun b => natI (bkI l many (seenI l) b)) (List.range many)).sum = ((List.range many).map fun b => (natI (bkI l many (seenI l) b)).length).sum from rfl, this]
  rw [List.filter_eq_self.2 (fun i _ => decide_eq_true (Nat.mod_lt _ hm))]
theorem cntN_four (n : Nat) : n ≤ 4 * cntN n := by unfold cntN; split <;> omega
theorem seenK_more (l : List Sym) (k : Nat) : (seenK l (k + 1)).length = (seenK l k).length + if seenB (l.getD k sym0) then 1 else 0 := by
  rw [seenK_succ, List.length_append]
  cases seenB (l.getD k sym0) <;> rfl
theorem total_mono (bs : List Bk) (b : Nat) : total (bs.take b) ≤ total bs := by
  unfold total
  conv => rhs; rw [← List.take_append_drop b bs]
  rw [List.map_append, List.sum_append]
  omega

set_option maxHeartbeats 1600000 in
theorem walk_TableLoad (v0 : Value) (l : List Sym) (w : World) (h0 : InSyms w v0 l) :
    Calls Try.prog 10 #[v0] w fun e w' => e = .returned (.bool true) ∧ Below w.heap.size w w' := by
  obtain ⟨A, c, rfl, hA, hf, hl, hlc, hcm⟩ := h0
  have HA := Lib.hid hA
  have HF := Lib.hid hf
  clear hA hf
  go_enter Try.func10, Try.ntmps10
  go_wp2_with fail
  refine (awake_any _).mono ?_
  rintro e w1 ⟨rfl, hx1⟩
  have HX1 := Lib.hid hx1
  clear hx1
  go_wp2_with fail
  refine (make_any A c l w1 (HX1.out.rdy HA.out) HF.out hl).mono ?_
  rintro e w2 (⟨h, rfl, hx2⟩ | ⟨h, t, rfl, hown, h1, h2, h3⟩)
  · go_wp2
    go_ret
    refine ⟨retv ?_, (HX1.out.trans hx2).trans (Ext.alloc _ _)⟩
    show Value.bool (decide (512 < (l.length : Int))) = _
    rw [decide_eq_true (by omega)]
  have hcp := cntN_pos (seenI l).length
  have hbl : t.bs.length = cntN (seenI l).length := by have := congrArg List.length h1; simpa [bksI_len] using this
  have htot := total_made t l _ hcp h1
  have hc4 := cntN_four (seenI l).length
  have hcl := cntN_le (seenI l).length
  have hsl := seenK_len l l.length
  change (seenI l).length ≤ l.length at hsl
  have HTI := Lib.hid (hown.inn h1 h2 h3 h (by omega))
  have HX2 := Lib.hid (HX1.out.trans hown.x)
  clear hown h1 h2 h3
  obtain ⟨BA, bc, bs, WA, wc, ws, sh⟩ := t
  simp only at hbl htot
  simp only [Tb.vals]
  have hb6 : bs.length ≤ 600 := by omega
  have hb1 : 1 ≤ bs.length := by omega
  have hb4n : (seenI l).length ≤ 4 * bs.length := by omega
  have HTOT := Lib.hid htot
  have ht6 : total bs ≤ 512 := by omega
  clear hbl htot hcp hc4 hcl
  go_wp2_with fail
  have hb4 : Blk (w2.alloc (.cells #[.slice BA bs.length bc, .slice WA ws.length wc, .int .i64 sh] 29)) w2.heap.size 29 #[.slice BA bs.length bc, .slice WA ws.length wc, .int .i64 sh] := Blk.new _ _ _
  have hx3 := Ext.alloc w2 (.cells #[.slice BA bs.length bc, .slice WA ws.length wc, .int .i64 sh] 29)
  generalize w2.alloc (.cells #[.slice BA bs.length bc, .slice WA ws.length wc, .int .i64 sh] 29) = w3 at *
  generalize w2.heap.size = tb at *
  have HT3 := Lib.hid (HTI.out.ext hx3)
  have HB3 := Lib.hid hb4
  have HX3 := Lib.hid (HX2.out.trans hx3)
  clear hx3 hb4 HTI HX2
  go_loopw [6, 8] (fun m i wr => ∃ k : Nat, k ≤ l.length ∧ i = .int .i64 k ∧ m = .int .i64 ((seenK l k).length : Nat) ∧ Ext w3 wr) (fun _ i _ => l.length - (intOf i).toNat)
  case atStart => exact ⟨0, Nat.zero_le _, rfl, rfl, Ext.refl _⟩
  case round =>
    obtain ⟨k, hk, rfl, rfl, hx⟩ := hrel
    have HX := Lib.hid hx
    have hsk := seenK_len l k
    have hmore := seenK_more l k
    clear hx
    by_cases hlt : k < l.length
    · obtain ⟨yb, yo, rfl, hyb, hy⟩ := HA.out.nine hlt
      have hgd : l.getD k sym0 = l[k] := by rw [List.getD_eq_getElem?_getD, List.getElem?_eq_getElem hlt]; rfl
      rw [hgd] at hmore
      clear hgd
      generalize l[k] = d at *
      have HS := Lib.hid (rseen_any d)
      obtain ⟨g0, g1, g2, g3, g4, g5, g6, g7, g8⟩ := hy.ext (HX3.out.trans HX.out)
      obtain ⟨name, ver, old, kind, weak, vis, defd, val, size⟩ := d
      simp only at g0 g1 g2 g3 g4 g5 g6 g7 g8
      simp only [Sym.vals] at HS
      clear hy
      go_wp2_with fail
      refine (HS.out _).mono ?_
      rintro e w5 ⟨rfl, hx5⟩
      clear g0 g1 g2 g3 g4 g5 g6 g7 g8
      generalize (seenK l k).length = m at *
      cases hsb : seenB ⟨name, ver, old, kind, weak, vis, defd, val, size⟩
      · rw [hsb] at hmore
        have HM := Lib.hid hmore
        clear hsb hmore HS
        go_wp2
        go_roundw
        case rel => exact ⟨k + 1, by omega, by go_num, by rw [HM.out]; rfl, HX.out.trans hx5⟩
        case measure => simp [intOf]; omega
      · rw [hsb] at hmore
        have HM := Lib.hid hmore
        clear hsb hmore HS
        go_wp2
        go_roundw
        case rel => exact ⟨k + 1, by omega, by go_num, by rw [HM.out]; go_num, HX.out.trans hx5⟩
        case measure => simp [intOf]; omega
    · have hke : k = l.length := by omega
      subst hke
      have HQ : Hid ((seenK l l.length).length = (seenI l).length) := Lib.hid rfl
      rw [HQ.out] at *
      clear hmore hsk
      generalize (seenI l).length = sn at *
      obtain ⟨wo, rfl⟩ : ∃ wo, wo = wr := ⟨wr, rfl⟩
      go_wp2_with fail
      go_loopw [7, 9] (fun m i wr => ∃ b : Nat, b ≤ bs.length ∧ i = .int .i64 b ∧ m = .int .i64 (total (bs.take b) : Nat) ∧ Ext wo wr) (fun _ i _ => bs.length - (intOf i).toNat)
      case atStart => exact ⟨0, Nat.zero_le _, rfl, rfl, Ext.refl _⟩
      case round =>
        obtain ⟨b, hb, rfl, rfl, hx⟩ := hrel
        have HXI := Lib.hid hx
        have htm := total_mono bs b
        have htk := total_take (b := b) bs
        have htm2 := total_mono bs (b + 1)
        clear hx
        have hb3 := (HX.out.trans HXI.out).blk HB3.out
        have t0 : wr.cell? ⟨tb, 0, none⟩ = some (.slice BA bs.length bc) := hb3.cell 0 rfl
        clear hb3
        by_cases hlt : b < bs.length
        · obtain ⟨bb, bo, hBA, hbc, hbk⟩ := HT3.out.bucket (i := b) hlt
          simp only at hBA hbc hbk
          subst hBA
          replace htk := htk hlt
          replace hbc := (HX.out.trans HXI.out).cell hbc
          have HTK := Lib.hid htk
          generalize total (bs.take b) = tn at *
          generalize bs.getD b bk0 = bk at *
          obtain ⟨KA, kc, is⟩ := bk
          simp only [Bk.cell] at hbc htk HTK
          clear hbk
          go_wp2_with fail
          go_roundw
          case rel => exact ⟨b + 1, by omega, by go_num, by rw [HTK.out]; go_num, HXI.out⟩
          case measure => simp [intOf]; omega
        · have hbe : b = bs.length := by omega
          subst hbe
          have hta : total (bs.take bs.length) = total bs := by rw [List.take_length]
          rw [hta, HTOT.out]
          clear htm htk htm2 hta
          go_wp2
          go_ret
          refine ⟨retv ?_, HX3.out.trans (HX.out.trans HXI.out)⟩
          first | rfl | (show Value.bool (decide ((sn : Int) ≤ 4 * bs.length)) = _; rw [decide_eq_true (by omega)])

set_option maxRecDepth 100000 in
theorem lifted_TableLoad (os : Os) (started : os.Started) (H : Type) (enc : TypeId × Value → H) :
    ReturnsInHanded {} Try.checked os 10 .any (Rows.tableLoadSpec.pre6 enc Try.prog Try.f10 Rows.tableLoadRow.domain false) (Rows.tableLoadSpec.post enc Try.prog Try.f10 false true false false) := by
  refine returnsInHanded_of_change_sized (C := Try.checked) own started (by kernel_rfl) Try.func10
    (ChangeSpec.witness6 (enc := enc) (C := Try.checked) false ⟨#[], #[.slice none 0 0], []⟩ 8 (by kernel_rfl) (by kernel_rfl) (by kernel_rfl) (by kernel_rfl)) ?_
  intro W base args ds gs before hval0 hW hcnd hsz0 _
  have hsz : (DataW.weightsEach Try.prog (Try.f10.params.toList ++ Rows.tableLoadSpec.plain.varTypes Try.prog) (ds ++ gs)).all (· ≤ reachBytes) = true := hsz0
  clear hsz0
  have hval : ∀ (j : Nat) t v, Try.f10.params[j]? = some t → args[j]? = some v → Value.okWide Try.prog W .any base t v := hval0
  have hW' := hW
  obtain ⟨p, q, hA0, hV, rfl, hfz, hnd⟩ := hW
  have hA : DataW.TrodAll enc Try.prog W 0 (fun _ => true) true Try.f10.params.toList args.toList ds p := hA0
  rw [Try.params10] at hA hval hsz
  obtain ⟨v0, vs0, d0, ds0, p0, q0, hargs, rfl, rfl, h0, r0⟩ := trodAll_cons hA
  obtain ⟨rfl, rfl, rfl⟩ := trodAll_nil r0
  obtain rfl : args = #[v0] := by cases args; simp_all
  obtain ⟨rfl, rfl⟩ := trodVars_none hV
  have lt0 : ∀ x ∈ p0, x.block < W.heap.size := by obtain ⟨m, hm⟩ := h0; exact DataW.trod_lt m _ _ _ hm
  obtain ⟨x0, hx0⟩ := open_InSyms (hval 0 22 v0 rfl rfl) h0 (light_each (j := 0) hsz rfl rfl)
  clear hA0 hval0
  refine (walk_TableLoad v0 x0 W hx0).mono fun e W' ⟨he, bel⟩ => ?_
  subst he
  exact ⟨_, rfl, _, _, _, [], _, [], hW', trodAll_mk1 (shut_bool Try.underlying4 _), (trodAll_cons_mk (Below.trod laidOut (by kernel_rfl) (of_decide_eq_true (by kernel_rfl)) h0 bel lt0) trodAll_mk0), rfl, bel.frame _, fun h => by cases h⟩

theorem over_TableLoad : Rows.tableLoadRow.holds Try.pinned (OpenSpec.ofChange Rows.tableLoadSpec) :=
  OpenClaim.holds_of_wide 10 Try.f10 rfl rfl rfl rfl rfl rfl rfl ⟨rfl, rfl, rfl, rfl, rfl⟩ rfl rfl rfl rfl rfl (by kernel_rfl) Try.func10 (by kernel_rfl)
    (of_decide_eq_true (by kernel_rfl)) (by unfold Func.isWrapper; first | (rw [if_pos (by decide +kernel)]; kernel_rfl) | (rw [if_neg (by decide +kernel)]; exact ⟨rfl, rfl⟩))
    (fun os started H enc _ => lifted_TableLoad os started H enc)

/-- the statement -/
theorem holds_TableLoad : Rows.TableLoadSaid := over_TableLoad
#print axioms holds_TableLoad

end Go.Proofs.Ytejdknmlggdndaa
