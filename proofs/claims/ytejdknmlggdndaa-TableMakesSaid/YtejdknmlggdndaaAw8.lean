/- clevislaw08.awake: the document's examples. -/
import Derived.Test.YtejdknmlggdndaaRight
import Derived.Test.YtejdknmlggdndaaMake
import Derived.Test.YtejdknmlggdndaaFind
namespace Go.Proofs.Ytejdknmlggdndaa
open Go.RowKit Pl
set_option linter.unusedVariables false

/-- a definition with a name -/
def symD (s : ByteArray) : Sym := ⟨s, ⟨#[]⟩, false, 1, false, 0, true, 0, 0⟩
def symR (s : ByteArray) : Sym := ⟨s, ⟨#[]⟩, false, 0, false, 0, false, 0, 0⟩
def exL : List Sym := [symD ⟨#[102]⟩, symD ⟨#[103]⟩]

theorem OwnT.inn {w0 w : World} {t : Tb} {l : List Sym} {n : Nat} (h : OwnT w0 w t) (h1 : t.bs.map Bk.is = bksI l n (seenI l)) (h2 : t.ws = wordsI l (seenI l)) (h3 : t.sh = 6) (hl : l.length ≤ 512) (hn : n ≤ 600) : t.In w := by
  obtain ⟨g, hg, hb⟩ := h.b
  have hbl : t.bs.length = n := by have := congrArg List.length h1; simpa [bksI_len] using this
  have hsn := seenK_len l l.length
  have hmem : ∀ k ∈ t.bs, ∃ b, k.is = natI (bkI l n (seenI l) b) := fun k hk => by
    have hm : k.is ∈ bksI l n (seenI l) := by rw [← h1]; exact List.mem_map_of_mem hk
    unfold bksI at hm
    obtain ⟨b, _, hb⟩ := List.mem_map.1 hm
    exact ⟨b, hb.symm⟩
  refine ⟨?_, ?_, by omega, Rd.of_own h.f, ?_, ?_, by rw [h3]; unfold i64B; omega⟩
  · rw [hg]; exact Rd.of_own hb.row
  · intro k hk
    obtain ⟨j, hj, hjk⟩ := List.getElem_of_mem hk
    obtain ⟨b, hb2⟩ := hmem k hk
    refine ⟨Rd.of_own (hb.each j k (by rw [List.getElem?_eq_getElem hj, hjk])), ?_, ?_⟩
    · intro i hi
      rw [hb2] at hi
      obtain ⟨m, hm, rfl⟩ := List.mem_map.1 hi
      have := seenK_lt l l.length m (List.mem_filter.1 hm).1
      unfold i64B
      omega
    · rw [hb2, natI_len]
      have := bkI_len l n (seenI l) b
      have : (seenI l).length ≤ 512 := Nat.le_trans hsn hl
      omega
  · rw [h2]
    refine putAll_lt 6 _ _ (fun x hx => ?_)
    rw [List.eq_of_mem_replicate hx]
    omega
  · rw [h2]
    unfold wordsI
    rw [putAll_length, List.length_replicate]
    have := wideN_words (seenI l).length
    omega

theorem ex_seen : seenI exL = [0, 1] := by decide
theorem ex_bks : bksI exL (cntN (seenI exL).length) (seenI exL) = [[0, 1]] := by decide
theorem ex_facts (t : Tb) (h1 : t.bs.map Bk.is = bksI exL (cntN (seenI exL).length) (seenI exL)) (h2 : t.ws = wordsI exL (seenI exL)) (h3 : t.sh = 6) :
    t.bs.length = 1 ∧ findP t (symR ⟨#[103]⟩) exL = (1, 2) ∧ rightT t exL = true := by
  rw [ex_bks] at h1
  obtain ⟨BA, bc, bs, WA, wc, ws, sh⟩ := t
  simp only at h1 h2 h3
  subst h2 h3
  match bs, h1 with
  | [⟨A, c, is⟩], h1 =>
    simp only [List.map_cons, List.map_nil, List.cons.injEq, and_true] at h1
    subst h1
    exact ⟨rfl, by kernel_rfl, by kernel_rfl⟩
theorem ex_fit : ∀ s ∈ exL, s.Fit := by
  intro s hs
  simp only [exL, List.mem_cons, List.not_mem_nil, or_false] at hs
  rcases hs with rfl | rfl <;> exact ⟨by decide, by decide, by unfold i64B symD; decide, by unfold i64B symD; decide, by unfold i64B symD; decide, by unfold i64B symD; decide⟩
theorem exR_fit : (symR ⟨#[103]⟩).Fit := ⟨by decide, by decide, by unfold i64B symR; decide, by unfold i64B symR; decide, by unfold i64B symR; decide, by unfold i64B symR; decide⟩

theorem def_any (s : ByteArray) (w : World) : Calls Try.prog 28 #[.string s] w fun e w' => e = .returned (.agg #[.string s, .string ⟨#[]⟩, .bool false, .int .i64 1, .bool false, .int .i64 0, .bool true, .int .i64 0, .int .i64 0]) ∧ Ext w w' := by
  go_enter Try.func28, Try.ntmps28
  go_wp2
  exact bodyPost_ret (v := .agg #[.string s, .string ⟨#[]⟩, .bool false, .int .i64 1, .bool false, .int .i64 0, .bool true, .int .i64 0, .int .i64 0]) (by simp [results, Try.results28, go_sem]) rfl ⟨rfl, Ext.alloc _ _⟩

theorem ex_rdy {w : World} {g : Nat} {t : TypeId} (h : Blk w g t #[.string ⟨#[102]⟩, .string ⟨#[]⟩, .bool false, .int .i64 1, .bool false, .int .i64 0, .bool true, .int .i64 0, .int .i64 0, .string ⟨#[103]⟩, .string ⟨#[]⟩, .bool false, .int .i64 1, .bool false, .int .i64 0, .bool true, .int .i64 0, .int .i64 0]) : RdY w (some ⟨g, 0, none⟩) exL := by
  intro i a ha
  have hi := (List.getElem?_eq_some_iff.1 ha).1
  have : i = 0 ∨ i = 1 := by simp [exL] at hi; omega
  refine ⟨g, 0, a.vals, rfl, rfl, rfl, fun j hj => ?_⟩
  have hj9 : j = 0 ∨ j = 1 ∨ j = 2 ∨ j = 3 ∨ j = 4 ∨ j = 5 ∨ j = 6 ∨ j = 7 ∨ j = 8 := by omega
  rcases this with rfl | rfl
  · simp only [exL, List.getElem?_cons_zero, Option.some.injEq] at ha
    subst ha
    rcases hj9 with rfl | rfl | rfl | rfl | rfl | rfl | rfl | rfl | rfl <;> exact h.cell _ rfl
  · simp only [exL, List.getElem?_cons_zero, List.getElem?_cons_succ, Option.some.injEq] at ha
    subst ha
    rcases hj9 with rfl | rfl | rfl | rfl | rfl | rfl | rfl | rfl | rfl <;> exact h.cell _ rfl

set_option maxHeartbeats 1600000 in
theorem awake_any (w : World) : Calls Try.prog 11 #[] w fun e w' => e = .returned (.bool true) ∧ Ext w w' := by
  go_enter Try.func11, Try.ntmps11
  go_wp2_with fail
  go_at_call 28
  refine (def_any _ _).mono ?_
  rintro e w1 ⟨rfl, hx1⟩
  go_wp2_with fail
  refine (def_any _ _).mono ?_
  rintro e w2 ⟨rfl, hx2⟩
  have HX2 := Lib.hid (hx1.trans hx2)
  clear hx1 hx2
  go_wp2_with fail
  have HY := Lib.hid (ex_rdy (Blk.new w2 43 #[.string ⟨#[102]⟩, .string ⟨#[]⟩, .bool false, .int .i64 1, .bool false, .int .i64 0, .bool true, .int .i64 0, .int .i64 0, .string ⟨#[103]⟩, .string ⟨#[]⟩, .bool false, .int .i64 1, .bool false, .int .i64 0, .bool true, .int .i64 0, .int .i64 0]))
  have HX3 := Lib.hid (HX2.out.trans (Ext.alloc w2 (.cells #[.string ⟨#[102]⟩, .string ⟨#[]⟩, .bool false, .int .i64 1, .bool false, .int .i64 0, .bool true, .int .i64 0, .int .i64 0, .string ⟨#[103]⟩, .string ⟨#[]⟩, .bool false, .int .i64 1, .bool false, .int .i64 0, .bool true, .int .i64 0, .int .i64 0] 43)))
  generalize w2.alloc (.cells #[.string ⟨#[102]⟩, .string ⟨#[]⟩, .bool false, .int .i64 1, .bool false, .int .i64 0, .bool true, .int .i64 0, .int .i64 0, .string ⟨#[103]⟩, .string ⟨#[]⟩, .bool false, .int .i64 1, .bool false, .int .i64 0, .bool true, .int .i64 0, .int .i64 0] 43) = w3 at *
  generalize w2.heap.size = g at *
  refine (make_any (some ⟨g, 0, none⟩) 2 exL w3 HY.out ex_fit (by decide)).mono ?_
  rintro e w4 (⟨h, -⟩ | ⟨-, t, rfl, hown, h1, h2, h3⟩)
  · exact absurd h (by decide)
  have HTI := Lib.hid (hown.inn h1 h2 h3 (by decide) (by decide))
  obtain ⟨f1, f2, f3⟩ := ex_facts t h1 h2 h3
  have HF2 := Lib.hid f2
  have HF3 := Lib.hid f3
  have HX4 := Lib.hid hown.x
  clear hown h1 h2 h3 f2 f3
  obtain ⟨BA, bc, bs, WA, wc, ws, sh⟩ := t
  simp only at f1
  simp only [Tb.vals]
  rw [f1]
  go_wp2_with fail
  have hb4 : Blk (w4.alloc (.cells #[.slice BA 1 bc, .slice WA ws.length wc, .int .i64 sh] 29)) w4.heap.size 29 #[.slice BA 1 bc, .slice WA ws.length wc, .int .i64 sh] := Blk.new _ _ _
  have HX5 := Lib.hid (Ext.alloc w4 (.cells #[.slice BA 1 bc, .slice WA ws.length wc, .int .i64 sh] 29))
  generalize w4.alloc (.cells #[.slice BA 1 bc, .slice WA ws.length wc, .int .i64 sh] 29) = w5 at *
  generalize w4.heap.size = tb at *
  have hfi := find_any ⟨BA, bc, bs, WA, wc, ws, sh⟩ (symR ⟨#[103]⟩) (some ⟨g, 0, none⟩) 2 exL w5 (HTI.out.ext HX5.out) exR_fit ((HX4.out.trans HX5.out).rdy HY.out) (by decide) (by rw [f1]; decide)
  rw [HF2.out] at hfi
  simp only [Tb.vals, Sym.vals, symR, f1] at hfi
  refine hfi.mono ?_
  rintro e w6 ⟨rfl, hx6⟩
  have t0 : w6.cell? ⟨tb, 0, none⟩ = some (.slice BA 1 bc) := hx6.cell (hb4.cell 0 rfl)
  have t1 : w6.cell? ⟨tb, 1, none⟩ = some (.slice WA ws.length wc) := hx6.cell (hb4.cell 1 rfl)
  have t2 : w6.cell? ⟨tb, 2, none⟩ = some (.int .i64 sh) := hx6.cell (hb4.cell 2 rfl)
  have HX6 := Lib.hid (HX5.out.trans hx6)
  clear hfi hb4 hx6
  have HRC : Hid (∀ w', Ext w6 w' → Calls Try.prog 16 #[.agg #[.slice BA 1 bc, .slice WA ws.length wc, .int .i64 sh], .slice (some ⟨g, 0, none⟩) 2 2] w' fun e w2 => e = .returned (.int .i64 0) ∧ Ext w' w2) := Lib.hid (fun w' hx => by
    have h := right_any ⟨BA, bc, bs, WA, wc, ws, sh⟩ (some ⟨g, 0, none⟩) 2 exL w' (HTI.out.ext (HX6.out.trans hx)) ((HX4.out.trans (HX6.out.trans hx)).rdy HY.out) ex_fit (by decide)
    simp only [Tb.vals, f1] at h
    exact h.mono fun e w2 ⟨he, hx2⟩ => ⟨by rw [he, HF3.out]; rfl, hx2⟩)
  have HCC : Hid (∀ w', Calls Try.prog 21 #[.int .i64 5] w' fun e w2 => e = .returned (.int .i64 2) ∧ w' = w2) := Lib.hid (fun w' => (count_any 5 w' (by decide) (by decide)).mono fun e w2 h => ⟨h.1, h.2⟩)
  go_wp2_with fail
  refine (HRC.out _ (Ext.refl _)).mono ?_
  rintro e w7 ⟨rfl, hx7⟩
  go_wp2_with fail
  refine (HCC.out _).mono ?_
  rintro e w8 ⟨rfl, rfl⟩
  go_wp2
  go_ret
  exact ⟨rfl, HX3.out.trans (HX4.out.trans (HX6.out.trans hx7))⟩

end Go.Proofs.Ytejdknmlggdndaa
