/- clevislaw08.TableMakes: the table of any symbols is what the document says, and right for them: twice; what comes out is its owner's. -/
import Derived.Test.YtejdknmlggdndaaRMake
import Derived.Test.YtejdknmlggdndaaSpoil
import Derived.Test.YtejdknmlggdndaaSameT
import Derived.Test.YtejdknmlggdndaaLawMade
import Derived.Test.YtejdknmlggdndaaLawLoad
import Derived.Test.YtejdknmlggdndaaRightP
namespace Go.Proofs.Ytejdknmlggdndaa
open Go.ChangeShapes Go.WideShapes Go.ChangeAt Go.RowKit Pl
set_option linter.unusedVariables false

/-- a made table is right -/
theorem made_right (t : Tb) (l : List Sym) (hl : l.length ≤ 512) (h1 : t.bs.map Bk.is = bksI l (cntN (seenI l).length) (seenI l)) (h2 : t.ws = wordsI l (seenI l)) (h3 : t.sh = 6) : rightT t l = true := by
  have hsn : (seenI l).length ≤ 512 := Nat.le_trans (seenK_len l l.length) hl
  have hbl : t.bs.length = cntN (seenI l).length := by have := congrArg List.length h1; simpa [bksI_len] using this
  have hcp := cntN_pos (seenI l).length
  have hc5 : cntN (seenI l).length ≤ 512 := by unfold cntN; split <;> omega
  have htot := total_made t l (cntN (seenI l).length) (by omega) h1
  have hww := wideN_words (seenI l).length
  have hwl : t.ws.length = wideN (seenI l).length := by rw [h2]; unfold wordsI; rw [putAll_length, List.length_replicate]
  rw [right_eq]
  have hmem : ∀ k ∈ t.bs, ∃ b, k.is = natI (bkI l (cntN (seenI l).length) (seenI l) b) := fun k hk => by
    have hm : k.is ∈ bksI l (cntN (seenI l).length) (seenI l) := by rw [← h1]; exact List.mem_map_of_mem hk
    unfold bksI at hm
    obtain ⟨b, _, hb⟩ := List.mem_map.1 hm
    exact ⟨b, hb.symm⟩
  have hin : (t.bs.all fun k => incB k.is) = true := List.all_eq_true.2 (fun k hk => by
    obtain ⟨b, hb⟩ := hmem k hk
    rw [hb]; exact (bkI_inc l _ b).1)
  have hgd : (seenI l).all (goodI t l) = true := List.all_eq_true.2 (fun i hi => by
    unfold goodI
    have hj : hashN (l.getD i sym0).name % t.bs.length < t.bs.length := Nat.mod_lt _ (by omega)
    have hg : (t.bs.getD (hashN (l.getD i sym0).name % t.bs.length) bk0).is = natI (bkI l (cntN (seenI l).length) (seenI l) (hashN (l.getD i sym0).name % t.bs.length)) := by
      have := congrArg (fun x : List (List Int) => x[hashN (l.getD i sym0).name % t.bs.length]?) h1
      simp only [List.getElem?_map] at this
      rw [bksI_get _ _ _ (by omega), List.getElem?_eq_getElem hj] at this
      simp only [Option.map_some, Option.some.injEq] at this
      rw [List.getD_eq_getElem?_getD, List.getElem?_eq_getElem hj]
      exact this
    have hm : (i : Int) ∈ natI (bkI l (cntN (seenI l).length) (seenI l) (hashN (l.getD i sym0).name % t.bs.length)) := by
      refine List.mem_map.2 ⟨i, List.mem_filter.2 ⟨hi, ?_⟩, rfl⟩
      rw [hbl]; simp
    rw [hg, inc_count _ (bkI_inc l _ _).1 _ hm, h2, h3, made_holds l i hi]
    rfl)
  unfold refR
  rw [decide_eq_true hl, decide_eq_true (by omega : 1 ≤ t.bs.length), decide_eq_true (by omega : t.bs.length ≤ 512), hwl, h3, hin, hgd, htot, decide_eq_true rfl]
  have := hww.1
  simp only [Bool.true_and, Bool.and_true]
  exact this

/-- the blocks of a table's rows -/
def rowsS (t : Tb) (b : Nat) : Prop := (∃ k ∈ t.bs, k.cell.ownBlock = some b) ∨ (Value.slice t.WA t.ws.length t.wc).ownBlock = some b

theorem OwnT.rows {w0 w : World} {t : Tb} (h : OwnT w0 w t) {b : Nat} (hb : rowsS t b) : w0.heap.size ≤ b ∧ b < w.heap.size := by
  obtain ⟨g, _, hB⟩ := h.b
  rcases hb with ⟨k, hk, hb⟩ | hb
  · obtain ⟨j, hj, hjk⟩ := List.getElem_of_mem hk
    exact (hB.each j k (by rw [List.getElem?_eq_getElem hj, hjk])).lt b hb
  · exact h.f.lt b hb

theorem own_write {w : World} {base n c : Nat} {e : TypeId} {A : Option Addr} {xs : List Value} (h : w.ownsRow base e 1 (.slice A n c) n xs) (hl : xs.length = n) {i : Nat} (hi : i < n) :
    ∃ b o, A = some ⟨b, o, none⟩ ∧ (Value.slice A n c).ownBlock = some b ∧ (∃ v, w.cell? ⟨b, o + i, none⟩ = some v) ∧ w.frozen? ⟨b, o + i, none⟩ = false := by
  obtain ⟨b, o, hA, hc⟩ := Rd.of_own h i (by omega)
  obtain ⟨g, cap, hv, _⟩ := own_at h (by omega)
  simp only [Value.slice.injEq, true_and] at hv
  obtain ⟨rfl, rfl⟩ := hv
  simp only [Option.some.injEq, Addr.mk.injEq, and_true] at hA
  obtain ⟨rfl, rfl⟩ := hA
  refine ⟨g, 0, rfl, rfl, ⟨_, hc⟩, ?_⟩
  rw [Nat.zero_add]
  exact h.frozenAt i

theorem OwnT.spT {w0 w : World} {t : Tb} (h : OwnT w0 w t) (hi : t.In w) : SpT (rowsS t) w t := by
  obtain ⟨g, hg, hB⟩ := h.b
  have hrow := hB.row
  refine ⟨hi.brd, ?_, ?_, ?_, hi.blen, fun k hk => (hi.bin k hk).len, hi.wlen, fun b hb => (h.rows hb).2⟩
  · intro b o e hS
    rw [hg] at e
    simp only [Option.some.injEq, Addr.mk.injEq] at e
    obtain ⟨rfl, _⟩ := e
    rcases hS with ⟨k, hk, hb⟩ | hb
    · obtain ⟨j, hj, hjk⟩ := List.getElem_of_mem hk
      have he := hB.each j k (by rw [List.getElem?_eq_getElem hj, hjk])
      rcases own_ne_ty he hrow (by decide) with h1 | h1
      · rw [h1] at hb; cases hb
      · exact h1 hb
    · rcases own_ne_ty h.f hrow (by decide) with h1 | h1
      · rw [h1] at hb; cases hb
      · exact h1 hb
  · intro k hk i hi2
    obtain ⟨j, hj, hjk⟩ := List.getElem_of_mem hk
    have he := hB.each j k (by rw [List.getElem?_eq_getElem hj, hjk])
    obtain ⟨b, o, h1, h2, h3, h4⟩ := own_write he (ints_len k.is) hi2
    exact ⟨b, o, h1, .inl ⟨k, hk, h2⟩, h3, h4⟩
  · intro i hi2
    obtain ⟨b, o, h1, h2, h3, h4⟩ := own_write h.f (u64s_length _) hi2
    exact ⟨b, o, h1, .inr h2, h3, h4⟩

/-- a table of the call's own is in memory still, when older blocks have turned -/
theorem OwnT.in_chg {S : Nat → Prop} {w0 w w1 w2 : World} {t : Tb} (h : OwnT w0 w t) (hi : t.In w) (hx : Ext w w1) (hc : Chg S w1 w2) (hs : ∀ b, S b → b < w0.heap.size) : t.In w2 := by
  obtain ⟨g, hg, hB⟩ := h.b
  have hi1 := hi.ext hx
  refine ⟨?_, ?_, hi.blen, ?_, hi.wfit, hi.wlen, hi.sfit⟩
  · refine hc.rd hi1.brd (fun b o e hS => ?_)
    rw [hg] at e
    simp only [Option.some.injEq, Addr.mk.injEq] at e
    have := (hB.row.lt g rfl).1
    have := hs b hS
    omega
  · intro k hk
    obtain ⟨j, hj, hjk⟩ := List.getElem_of_mem hk
    have he := hB.each j k (by rw [List.getElem?_eq_getElem hj, hjk])
    refine ⟨hc.rd (hi1.bin k hk).rd (fun b o e hS => ?_), (hi.bin k hk).fit, (hi.bin k hk).len⟩
    have := (own_inB he (k := b) ⟨o, e⟩).1
    have := hs b hS
    omega
  · refine hc.rd hi1.wrd (fun b o e hS => ?_)
    have := (own_inB h.f (k := b) ⟨o, e⟩).1
    have := hs b hS
    omega

def tbZ : Tb := ⟨none, 0, [], none, 0, [], 0⟩
theorem tbZ_in (w : World) : tbZ.In w := by
  refine ⟨Rd.nil _ _, ?_, by decide, Rd.nil _ _, ?_, by decide, ?_⟩
  · intro k hk; cases hk
  · intro x hx; cases hx
  · show i64B 0; unfold i64B; omega
theorem tbZ_sp (w : World) : SpT (fun _ => False) w tbZ := by
  refine ⟨Rd.nil _ _, fun _ _ _ h => h, ?_, ?_, by decide, ?_, by decide, fun b h => h.elim⟩
  · intro k hk; cases hk
  · intro i hi; exact absurd hi (Nat.not_lt_zero _)
  · intro k hk; cases hk

set_option maxRecDepth 100000 in
set_option maxHeartbeats 3200000 in
theorem walk_TableMakes (v0 : Value) (l : List Sym) (w : World) (h0 : InSyms w v0 l) :
    Calls Try.prog 3 #[v0] w fun e w' => e = .returned (.bool true) ∧ Below w.heap.size w w' := by
  obtain ⟨A, c, rfl, hA, hf, hl, hlc, hcm⟩ := h0
  have HMK := Lib.hid (fun w' hx => make_any A c l w' (Ext.rdy (show Ext w w' from hx) hA) hf hl)
  have HRM := Lib.hid (fun w' hx => rmake_any A c l w' (Ext.rdy (show Ext w w' from hx) hA) hf hl)
  have HRT := Lib.hid (fun u w' hx hu => right_any u A c l w' hu (Ext.rdy (show Ext w w' from hx) hA) hf hl)
  clear hA hf
  go_enter Try.func3, Try.ntmps3
  go_wp2_with fail
  refine (awake_any _).mono ?_
  rintro e w1 ⟨rfl, hx1⟩
  have HX1 := Lib.hid hx1
  clear hx1
  by_cases h512 : 512 < l.length
  · have hbig : ∀ w' r w2, Mk w' l r w2 → r = .returned (.tuple #[.agg #[.slice none 0 0, .slice none 0 0, .int .i64 0], .int .i64 2]) ∧ Ext w' w2 := by
      intro w' r w2 h
      rcases h with ⟨_, h1, h2⟩ | ⟨h1, _⟩
      · exact ⟨h1, h2⟩
      · omega
    have HBIG := Lib.hid hbig
    have HBIR : Hid (∀ w' r w2, RMk w' l r w2 → r = .returned (.tuple #[.agg #[.slice none 0 0, .slice none 0 0, .int .i64 0], .int .i64 2]) ∧ Ext w' w2) := Lib.hid (by
      intro w' r w2 h
      rcases h with ⟨_, h1, h2⟩ | ⟨h1, _⟩
      · exact ⟨h1, h2⟩
      · omega)
    clear hbig
    go_wp2_with fail
    refine (HMK.out w1 HX1.out).mono ?_
    intro e w2 hm
    obtain ⟨rfl, hx2⟩ := HBIG.out _ _ _ hm
    clear hm
    go_wp2_with fail
    have hka : Blk (w2.alloc (.cells #[.slice none 0 0, .slice none 0 0, .int .i64 0] 29)) w2.heap.size 29 #[.slice none 0 0, .slice none 0 0, .int .i64 0] := Blk.new _ _ _
    have hxa := hx2.trans (Ext.alloc w2 (.cells #[.slice none 0 0, .slice none 0 0, .int .i64 0] 29))
    generalize w2.alloc (.cells #[.slice none 0 0, .slice none 0 0, .int .i64 0] 29) = w3 at *
    generalize w2.heap.size = ta at *
    clear hx2
    refine (HMK.out w3 (HX1.out.trans hxa)).mono ?_
    intro e w4 hm
    obtain ⟨rfl, hx4⟩ := HBIG.out _ _ _ hm
    clear hm
    have HXA := Lib.hid (HX1.out.trans (hxa.trans (hx4.trans (Ext.alloc w4 (.cells #[.slice none 0 0, .slice none 0 0, .int .i64 0] 29)))))
    have HKA := Lib.hid (hx4.blk hka)
    clear hka hxa
    have t0 : (w4.alloc (.cells #[.slice none 0 0, .slice none 0 0, .int .i64 0] 29)).cell? ⟨ta, 0, none⟩ = some (.slice none 0 0) := cold (HKA.out.cell 0 rfl)
    have t1 : (w4.alloc (.cells #[.slice none 0 0, .slice none 0 0, .int .i64 0] 29)).cell? ⟨ta, 1, none⟩ = some (.slice none 0 0) := cold (HKA.out.cell 1 rfl)
    have t2 : (w4.alloc (.cells #[.slice none 0 0, .slice none 0 0, .int .i64 0] 29)).cell? ⟨ta, 2, none⟩ = some (.int .i64 0) := cold (HKA.out.cell 2 rfl)
    go_wp2_with fail
    have hkb : Blk (w4.alloc (.cells #[.slice none 0 0, .slice none 0 0, .int .i64 0] 29)) w4.heap.size 29 #[.slice none 0 0, .slice none 0 0, .int .i64 0] := Blk.new _ _ _
    clear hx4 HKA
    generalize w4.alloc (.cells #[.slice none 0 0, .slice none 0 0, .int .i64 0] 29) = w5 at *
    generalize w4.heap.size = tb at *
    refine (spoil_any _ tbZ w5 (tbZ_sp w5)).mono ?_
    rintro e w6 ⟨⟨v6, rfl⟩, hc6⟩
    have hx6 : Ext w5 w6 := hc6.ext (Ext.refl _) (fun k hk => hk.elim)
    have HX6 := Lib.hid (HXA.out.trans hx6)
    have HKB := Lib.hid (hx6.blk hkb)
    clear hx6 hc6 hkb HXA t0 t1 t2
    go_wp2_with fail
    refine (HRM.out w6 HX6.out).mono ?_
    intro e w7 hm
    obtain ⟨rfl, hx7⟩ := HBIR.out _ _ _ hm
    clear hm
    have HKB7 := Lib.hid (hx7.blk HKB.out)
    have HX7 := Lib.hid (HX6.out.trans (hx7.trans (Ext.alloc w7 (.cells #[.slice none 0 0, .slice none 0 0, .int .i64 0] 29))))
    clear hx7 HKB HX6
    have t0 : (w7.alloc (.cells #[.slice none 0 0, .slice none 0 0, .int .i64 0] 29)).cell? ⟨tb, 0, none⟩ = some (.slice none 0 0) := cold (HKB7.out.cell 0 rfl)
    have t1 : (w7.alloc (.cells #[.slice none 0 0, .slice none 0 0, .int .i64 0] 29)).cell? ⟨tb, 1, none⟩ = some (.slice none 0 0) := cold (HKB7.out.cell 1 rfl)
    have t2 : (w7.alloc (.cells #[.slice none 0 0, .slice none 0 0, .int .i64 0] 29)).cell? ⟨tb, 2, none⟩ = some (.int .i64 0) := cold (HKB7.out.cell 2 rfl)
    go_wp2_with fail
    refine (rtsame_yes tbZ tbZ _ (tbZ_in _) (tbZ_in _) rfl rfl rfl).mono ?_
    rintro e w8 ⟨rfl, hx8⟩
    go_wp2
    go_ret
    first | exact ⟨rfl, HX7.out.trans hx8⟩ | exact HX7.out.trans hx8
  · have h5 : l.length ≤ 512 := by omega
    have hmade : ∀ w' r w2, Mk w' l r w2 → ∃ t : Tb, r = .returned (.tuple #[.agg t.vals.toArray, .int .i64 0]) ∧ OwnT w' w2 t ∧ t.In w2 ∧ t.bs.map Bk.is = bksI l (cntN (seenI l).length) (seenI l) ∧ t.ws = wordsI l (seenI l) ∧ t.sh = 6 := by
      intro w' r w2 h
      rcases h with ⟨h1, _⟩ | ⟨_, t, h1, h2, h3, h4, h6⟩
      · omega
      · have hsn : (seenI l).length ≤ 512 := Nat.le_trans (seenK_len l l.length) h5
        have := cntN_le (seenI l).length
        exact ⟨t, h1, h2, h2.inn h3 h4 h6 h5 (by omega), h3, h4, h6⟩
    have HMADE := Lib.hid hmade
    have HRMD : Hid (∀ w' r w2, RMk w' l r w2 → ∃ t : Tb, r = .returned (.tuple #[.agg t.vals.toArray, .int .i64 0]) ∧ t.In w2 ∧ Ext w' w2 ∧ t.bs.map Bk.is = bksI l (cntN (seenI l).length) (seenI l) ∧ t.ws = wordsI l (seenI l) ∧ t.sh = 6) := Lib.hid (by
      intro w' r w2 h
      rcases h with ⟨h1, _⟩ | ⟨_, h1⟩
      · omega
      · exact h1)
    have HRIGHT : Hid (∀ t : Tb, t.bs.map Bk.is = bksI l (cntN (seenI l).length) (seenI l) → t.ws = wordsI l (seenI l) → t.sh = 6 → rightT t l = true) := Lib.hid (fun t a b d => made_right t l h5 a b d)
    clear hmade
    go_wp2_with fail
    refine (HMK.out w1 HX1.out).mono ?_
    intro e w2 hm
    obtain ⟨ta, rfl, hoa, hia, a1, a2, a3⟩ := HMADE.out _ _ _ hm
    clear hm a1 a2 a3
    have HSP := Lib.hid (hoa.spT hia)
    have HRW : Hid (∀ b, rowsS ta b → w1.heap.size ≤ b ∧ b < w2.heap.size) := Lib.hid (fun b h => hoa.rows h)
    have HX2 := Lib.hid hoa.x
    clear hoa hia
    generalize rowsS ta = S at *
    have HSPC := Lib.hid (fun w' => spoil_any S ta w')
    obtain ⟨BA, bc, bs, WA, wc, ws, sh⟩ := ta
    simp only [Tb.vals] at HSPC ⊢
    go_wp2_with fail
    have hka : Blk (w2.alloc (.cells #[.slice BA bs.length bc, .slice WA ws.length wc, .int .i64 sh] 29)) w2.heap.size 29 #[.slice BA bs.length bc, .slice WA ws.length wc, .int .i64 sh] := Blk.new _ _ _
    have hxa := Ext.alloc w2 (.cells #[.slice BA bs.length bc, .slice WA ws.length wc, .int .i64 sh] 29)
    have HNA : Hid (¬ S w2.heap.size) := Lib.hid (fun h => by have := (HRW.out _ h).2; omega)
    generalize w2.alloc (.cells #[.slice BA bs.length bc, .slice WA ws.length wc, .int .i64 sh] 29) = w3 at *
    have hz23 := hxa.size
    have HSP3 := Lib.hid (HSP.out.ext hxa)
    refine (HMK.out w3 (HX1.out.trans (HX2.out.trans hxa))).mono ?_
    intro e w4 hm
    obtain ⟨tb, rfl, hob, hib, b1, b2, b3⟩ := HMADE.out _ _ _ hm
    clear hm
    have HOB := Lib.hid hob
    have HIB := Lib.hid hib
    have HB1 := Lib.hid b1
    have HB2 := Lib.hid b2
    have HB3 := Lib.hid b3
    have HX4 := Lib.hid (hxa.trans hob.x)
    have HSP4 := Lib.hid (HSP3.out.ext hob.x)
    have HKA4 := Lib.hid (hob.x.blk hka)
    have HOLD : Hid (∀ b, S b → b < w3.heap.size) := Lib.hid (fun b h => by have := (HRW.out b h).2; omega)
    have HSAME : Hid (∀ (t : Tb) w', tb.In w' → t.In w' → t.bs.map Bk.is = bksI l (cntN (seenI l).length) (seenI l) → t.ws = wordsI l (seenI l) → t.sh = 6 →
        Calls Try.prog 15 #[.agg tb.vals.toArray, .agg t.vals.toArray] w' fun e w' => e = .returned (.bool true) ∧ Ext _ w') := Lib.hid (fun t w' h1 h2 h3 h4 h6 => rtsame_yes tb t w' h1 h2 (by rw [h3]; exact HB1.out) (by rw [h4]; exact HB2.out) (by rw [h6]; exact HB3.out))
    have HRTB : Hid (∀ w', Ext w w' → tb.In w' → Calls Try.prog 16 #[.agg tb.vals.toArray, .slice A l.length c] w' fun e w2 => e = .returned (.int .i64 0) ∧ Ext w' w2) := Lib.hid (fun w' hx hi => by
      refine (HRT.out tb w' hx hi).mono ?_
      intro e w2 h
      unfold RtP at h
      rw [HRIGHT.out tb HB1.out HB2.out HB3.out] at h
      exact h)
    have HINB : Hid (∀ w5 w6, Ext w4 w5 → Chg S w5 w6 → tb.In w6) := Lib.hid (fun w5 w6 hx hc => HOB.out.in_chg HIB.out hx hc HOLD.out)
    clear hob hib b1 b2 b3 hka hxa HSP HSP3 HB1 HB2 HB3 HOB HRT HRIGHT
    obtain ⟨DA, dc, ds, EA, ec, es, eh⟩ := tb
    simp only [Tb.vals] at HSAME HRTB ⊢
    have t0 : (w4.alloc (.cells #[.slice DA ds.length dc, .slice EA es.length ec, .int .i64 eh] 29)).cell? ⟨w2.heap.size, 0, none⟩ = some (.slice BA bs.length bc) := cold (HKA4.out.cell 0 rfl)
    have t1 : (w4.alloc (.cells #[.slice DA ds.length dc, .slice EA es.length ec, .int .i64 eh] 29)).cell? ⟨w2.heap.size, 1, none⟩ = some (.slice WA ws.length wc) := cold (HKA4.out.cell 1 rfl)
    have t2 : (w4.alloc (.cells #[.slice DA ds.length dc, .slice EA es.length ec, .int .i64 eh] 29)).cell? ⟨w2.heap.size, 2, none⟩ = some (.int .i64 sh) := cold (HKA4.out.cell 2 rfl)
    go_wp2_with fail
    have hkb : Blk (w4.alloc (.cells #[.slice DA ds.length dc, .slice EA es.length ec, .int .i64 eh] 29)) w4.heap.size 29 #[.slice DA ds.length dc, .slice EA es.length ec, .int .i64 eh] := Blk.new _ _ _
    have HXA := Lib.hid (Ext.alloc w4 (.cells #[.slice DA ds.length dc, .slice EA es.length ec, .int .i64 eh] 29))
    have HZ := Lib.hid HX4.out.size
    generalize w4.alloc (.cells #[.slice DA ds.length dc, .slice EA es.length ec, .int .i64 eh] 29) = w5 at *
    refine (HSPC.out w5 (HSP4.out.ext HXA.out)).mono ?_
    rintro e w6 ⟨⟨v6, rfl⟩, hc6⟩
    have hnb : ¬ S w4.heap.size := fun h => by have := (HRW.out _ h).2; have := HZ.out; omega
    have HKB := Lib.hid (hc6.blk hkb hnb)
    have HXX : Hid (Ext w1 w6) := Lib.hid (hc6.ext (HX2.out.trans (HX4.out.trans HXA.out)) (fun k hk => (HRW.out k hk).1))
    have HIN6 := Lib.hid (HINB.out w5 w6 HXA.out hc6)
    clear hc6 hkb hnb t0 t1 t2 HSPC HSP4 HINB
    generalize w4.heap.size = tbb at *
    go_wp2_with fail
    refine (HRM.out w6 (HX1.out.trans HXX.out)).mono ?_
    intro e w7 hm
    obtain ⟨tw, rfl, hiw, hx7, d1, d2, d3⟩ := HRMD.out _ _ _ hm
    clear hm
    have HS7 := Lib.hid (fun w' hx => HSAME.out tw w' (HIN6.out.ext (hx7.trans hx)) (hiw.ext (show Ext w7 w' from hx)) d1 d2 d3)
    have HKB7 := Lib.hid (hx7.blk HKB.out)
    have HX7 := Lib.hid hx7
    clear hiw hx7 d1 d2 d3 HSAME HKB
    obtain ⟨FA, fc, fs, GA, gc, gs, gh⟩ := tw
    simp only [Tb.vals] at HS7 ⊢
    have t0 : (w7.alloc (.cells #[.slice FA fs.length fc, .slice GA gs.length gc, .int .i64 gh] 29)).cell? ⟨tbb, 0, none⟩ = some (.slice DA ds.length dc) := cold (HKB7.out.cell 0 rfl)
    have t1 : (w7.alloc (.cells #[.slice FA fs.length fc, .slice GA gs.length gc, .int .i64 gh] 29)).cell? ⟨tbb, 1, none⟩ = some (.slice EA es.length ec) := cold (HKB7.out.cell 1 rfl)
    have t2 : (w7.alloc (.cells #[.slice FA fs.length fc, .slice GA gs.length gc, .int .i64 gh] 29)).cell? ⟨tbb, 2, none⟩ = some (.int .i64 eh) := cold (HKB7.out.cell 2 rfl)
    go_wp2_with fail
    refine (HS7.out _ (Ext.alloc _ _)).mono ?_
    rintro e w8 ⟨rfl, hx8⟩
    have hx78 := (Ext.alloc w7 (.cells #[.slice FA fs.length fc, .slice GA gs.length gc, .int .i64 gh] 29)).trans hx8
    have HX8 := Lib.hid (HX7.out.trans hx78)
    have HKB8 := Lib.hid (hx78.blk HKB7.out)
    clear t0 t1 t2 hx8 hx78
    have t0 : w8.cell? ⟨tbb, 0, none⟩ = some (.slice DA ds.length dc) := HKB8.out.cell 0 rfl
    have t1 : w8.cell? ⟨tbb, 1, none⟩ = some (.slice EA es.length ec) := HKB8.out.cell 1 rfl
    have t2 : w8.cell? ⟨tbb, 2, none⟩ = some (.int .i64 eh) := HKB8.out.cell 2 rfl
    go_wp2_with fail
    refine (HRTB.out _ (HX1.out.trans (HXX.out.trans HX8.out)) (HIN6.out.ext HX8.out)).mono ?_
    rintro e w9 ⟨rfl, hx9⟩
    go_wp2
    go_ret
    first | exact ⟨rfl, HX1.out.trans (HXX.out.trans (HX8.out.trans hx9))⟩ | exact HX1.out.trans (HXX.out.trans (HX8.out.trans hx9))

set_option maxRecDepth 100000 in
theorem lifted_TableMakes (os : Os) (started : os.Started) (H : Type) (enc : TypeId × Value → H) :
    ReturnsInHanded {} Try.checked os 3 .any (Rows.tableMakesSpec.pre6 enc Try.prog Try.f3 Rows.tableMakesRow.domain false) (Rows.tableMakesSpec.post enc Try.prog Try.f3 false true false false) := by
  refine returnsInHanded_of_change_sized (C := Try.checked) own started (by kernel_rfl) Try.func3
    (ChangeSpec.witness6 (enc := enc) (C := Try.checked) false ⟨#[], #[.slice none 0 0], []⟩ 8 (by kernel_rfl) (by kernel_rfl) (by kernel_rfl) (by kernel_rfl)) ?_
  intro W base args ds gs before hval0 hW hcnd hsz0 _
  have hsz : (DataW.weightsEach Try.prog (Try.f3.params.toList ++ Rows.tableMakesSpec.plain.varTypes Try.prog) (ds ++ gs)).all (· ≤ reachBytes) = true := hsz0
  clear hsz0
  have hval : ∀ (j : Nat) t v, Try.f3.params[j]? = some t → args[j]? = some v → Value.okWide Try.prog W .any base t v := hval0
  have hW' := hW
  obtain ⟨p, q, hA0, hV, rfl, hfz, hnd⟩ := hW
  have hA : DataW.TrodAll enc Try.prog W 0 (fun _ => true) true Try.f3.params.toList args.toList ds p := hA0
  rw [Try.params3] at hA hval hsz
  obtain ⟨v0, vs0, d0, ds0, p0, q0, hargs, rfl, rfl, h0, r0⟩ := trodAll_cons hA
  obtain ⟨rfl, rfl, rfl⟩ := trodAll_nil r0
  obtain rfl : args = #[v0] := by cases args; simp_all
  obtain ⟨rfl, rfl⟩ := trodVars_none hV
  have lt0 : ∀ x ∈ p0, x.block < W.heap.size := by obtain ⟨m, hm⟩ := h0; exact DataW.trod_lt m _ _ _ hm
  obtain ⟨x0, hx0⟩ := open_InSyms (hval 0 22 v0 rfl rfl) h0 (light_each (j := 0) hsz rfl rfl)
  clear hA0 hval0
  refine (walk_TableMakes v0 x0 W hx0).mono fun e W' ⟨he, bel⟩ => ?_
  subst he
  exact ⟨_, rfl, _, _, _, [], _, [], hW', trodAll_mk1 (shut_bool Try.underlying4 _), (trodAll_cons_mk (Below.trod laidOut (by kernel_rfl) (of_decide_eq_true (by kernel_rfl)) h0 bel lt0) trodAll_mk0), rfl, bel.frame _, fun h => by cases h⟩

theorem over_TableMakes : Rows.tableMakesRow.holds Try.pinned (OpenSpec.ofChange Rows.tableMakesSpec) :=
  OpenClaim.holds_of_wide 3 Try.f3 rfl rfl rfl rfl rfl rfl rfl ⟨rfl, rfl, rfl, rfl, rfl⟩ rfl rfl rfl rfl rfl (by kernel_rfl) Try.func3 (by kernel_rfl)
    (of_decide_eq_true (by kernel_rfl)) (by unfold Func.isWrapper; first | (rw [if_pos (by decide +kernel)]; kernel_rfl) | (rw [if_neg (by decide +kernel)]; exact ⟨rfl, rfl⟩))
    (fun os started H enc _ => lifted_TableMakes os started H enc)

/-- the statement -/
theorem holds_TableMakes : Rows.TableMakesSaid := over_TableMakes
#print axioms holds_TableMakes

end Go.Proofs.Ytejdknmlggdndaa
