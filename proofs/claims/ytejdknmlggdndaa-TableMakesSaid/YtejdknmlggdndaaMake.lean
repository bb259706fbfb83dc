/- table.Make: the table of any symbols. -/
import Derived.Test.YtejdknmlggdndaaBuck
import Derived.Test.YtejdknmlggdndaaSieve5
namespace Go.Proofs.Ytejdknmlggdndaa
open Go.RowKit Pl
set_option linter.unusedVariables false

/-- the buckets of some places -/
def bksI (l : List Sym) (many : Nat) (is : List Nat) : List (List Int) := (List.range many).map fun b => natI (bkI l many is b)

theorem bksI_nil (l : List Sym) (many : Nat) : bksI l many [] = List.replicate many [] := by
  unfold bksI
  apply List.ext_getElem (by simp)
  intro i h1 h2
  simp [bkI, natI]
theorem bksI_len (l : List Sym) (many : Nat) (is : List Nat) : (bksI l many is).length = many := by simp [bksI]
theorem bksI_get (l : List Sym) (many : Nat) (is : List Nat) {j : Nat} (h : j < many) : (bksI l many is)[j]? = some (natI (bkI l many is j)) := by
  unfold bksI
  rw [List.getElem?_map, List.getElem?_range h]
  rfl
theorem bksI_snoc (l : List Sym) (many : Nat) (is : List Nat) (i : Nat) (hm : 0 < many) : bksI l many (is ++ [i]) = (bksI l many is).set (hashN (l.getD i sym0).name % many) (natI (bkI l many is (hashN (l.getD i sym0).name % many)) ++ [(i : Int)]) := by
  have hj : hashN (l.getD i sym0).name % many < many := Nat.mod_lt _ hm
  apply List.ext_getElem?
  intro b
  by_cases hb : b < many
  · rw [bksI_get _ _ _ hb, bkI_append]
    by_cases he : hashN (l.getD i sym0).name % many = b
    · rw [he, List.getElem?_set_self (by rw [bksI_len]; exact hb)]
      simp only [bkI, List.filter_cons, he, decide_true, if_true, List.filter_nil, natI_append]
      rfl
    · rw [List.getElem?_set_ne he, bksI_get _ _ _ hb]
      have e0 : bkI l many [i] b = [] := by simp only [bkI, List.filter_cons, decide_eq_false he]; rfl
      rw [e0, List.append_nil]
  · rw [List.getElem?_eq_none (by rw [bksI_len]; omega), List.getElem?_eq_none (by rw [List.length_set, bksI_len]; omega)]

/-- the words of the filter -/
def wordsI (l : List Sym) (is : List Nat) : List Nat := putAll 6 (List.replicate (wideN is.length) 0) (hashL l is)

/-- a table of the call's own -/
structure OwnT (w0 w : World) (t : Tb) : Prop where
  b : ∃ g, t.BA = some ⟨g, 0, none⟩ ∧ BSt w0 w g t.bc t.bs
  f : w.ownsRow w0.heap.size 66 1 (.slice t.WA t.ws.length t.wc) t.ws.length (u64s t.ws)
  x : Ext w0 w

/-- what Make answers: the table, or the error -/
def Mk (w : World) (l : List Sym) (r : Ending) (w' : World) : Prop :=
  (512 < l.length ∧ r = .returned (.tuple #[.agg #[.slice none 0 0, .slice none 0 0, .int .i64 0], .int .i64 2]) ∧ Ext w w') ∨
  (l.length ≤ 512 ∧ ∃ t : Tb, r = .returned (.tuple #[.agg t.vals.toArray, .int .i64 0]) ∧ OwnT w w' t ∧ t.bs.map Bk.is = bksI l (cntN (seenI l).length) (seenI l) ∧ t.ws = wordsI l (seenI l) ∧ t.sh = 6)

/-- the table's block and the buckets, in whatever order they were made -/
theorem made_fam (wm : World) (mcs : Array Value) (many : Nat) (W : Option Addr) (wid fc : Nat) (hm : mcs = madeCells #[Value.slice none 0 0] many) (hl : many ≤ 1000) :
    (BSt wm ((wm.alloc (.cells mcs 58)).alloc (.cells #[.slice (some ⟨wm.heap.size, 0, none⟩) many many, .slice W wid fc, .int .i64 6] 29)).drew wm.heap.size many (List.replicate many bk0) ∧
      Blk ((wm.alloc (.cells mcs 58)).alloc (.cells #[.slice (some ⟨wm.heap.size, 0, none⟩) many many, .slice W wid fc, .int .i64 6] 29)).drew (wm.heap.size + 1) 29 #[.slice (some ⟨wm.heap.size, 0, none⟩) many many, .slice W wid fc, .int .i64 6]) ∧
    (BSt wm ((wm.alloc (.cells #[.slice (some ⟨wm.heap.size + 1, 0, none⟩) many many, .slice W wid fc, .int .i64 6] 29)).alloc (.cells mcs 58)).drew (wm.heap.size + 1) many (List.replicate many bk0) ∧
      Blk ((wm.alloc (.cells #[.slice (some ⟨wm.heap.size + 1, 0, none⟩) many many, .slice W wid fc, .int .i64 6] 29)).alloc (.cells mcs 58)).drew wm.heap.size 29 #[.slice (some ⟨wm.heap.size + 1, 0, none⟩) many many, .slice W wid fc, .int .i64 6]) := by
  have ht : mcs.toList = List.replicate many (.slice none 0 0) := by rw [hm, toList_madeCells_one]
  have hs : mcs.size = many * 1 := by rw [← Array.length_toList, ht]; simp
  refine ⟨⟨?_, ?_⟩, ⟨?_, ?_⟩⟩
  · have h1 : (wm.alloc (.cells mcs 58)).ownsRow wm.heap.size 58 1 (.slice (some ⟨wm.heap.size, 0, none⟩) many many) many (List.replicate many (.slice none 0 0)) := by
      rw [← ht]; exact World.ownsRow_lit wm mcs many (Nat.le_refl _) (by unfold maxLen; omega) hs
    exact BSt.made (((Ext.alloc _ _).trans (Ext.drew _)).own h1) (((Ext.alloc _ _).trans (Ext.alloc _ _)).trans (Ext.drew _))
  · have := (Blk.new (wm.alloc (.cells mcs 58)) 29 #[.slice (some ⟨wm.heap.size, 0, none⟩) many many, .slice W wid fc, .int .i64 6]).drew
    simpa using this
  · have h1 : ((wm.alloc (.cells #[.slice (some ⟨wm.heap.size + 1, 0, none⟩) many many, .slice W wid fc, .int .i64 6] 29)).alloc (.cells mcs 58)).ownsRow wm.heap.size 58 1 (.slice (some ⟨wm.heap.size + 1, 0, none⟩) many many) many (List.replicate many (.slice none 0 0)) := by
      rw [← ht]
      have := World.ownsRow_lit (base := wm.heap.size) (e := 58) (size := 1) (wm.alloc (.cells #[.slice (some ⟨wm.heap.size + 1, 0, none⟩) many many, .slice W wid fc, .int .i64 6] 29)) mcs many (by simp) (by unfold maxLen; omega) hs
      simpa using this
    exact BSt.made ((Ext.drew _).own h1) (((Ext.alloc _ _).trans (Ext.alloc _ _)).trans (Ext.drew _))
  · exact ((Blk.new _ _ _).alloc _).drew

theorem info_ints : (Try.prog.info? 58).map (fun i => (i.zero, i.size, i.bytes)) = some (some (.slice none 0 0), 1, 24) := by kernel_rfl

theorem own_natI {w : World} {b0 : Nat} {A : Option Addr} {c n : Nat} {is : List Nat} (h : w.ownsRow b0 3 1 (.slice A n c) n (ints (natI is))) (hn : n = is.length) {k : Nat} (hk : k < is.length) :
    ∃ b off, A = some ⟨b, off, none⟩ ∧ w.cell? ⟨b, off + k, none⟩ = some (.int .i64 ((is.getD k 0 : Nat) : Int)) := by
  obtain ⟨b, off, hA, hc⟩ := (Rd.of_own h) k (by simp [ints, natI]; exact hk)
  refine ⟨b, off, hA, ?_⟩
  rw [hc, List.getD_eq_getElem?_getD, List.getElem?_eq_getElem hk]
  simp [ints, natI]

set_option maxRecDepth 100000 in
set_option maxHeartbeats 6400000 in
theorem make_any (A : Option Addr) (c : Nat) (l : List Sym) (w : World) (hA : RdY w A l) (hf : ∀ s ∈ l, s.Fit) (hl : l.length ≤ 140737488351232) :
    Calls Try.prog 12 #[.slice A l.length c] w fun r w' => Mk w l r w' := by
  obtain ⟨i0, hi0, hz0, hz1, hz2⟩ := info_parts info_int
  obtain ⟨i1, hj0, hj1, hj2, hj3⟩ := info_parts info_ints
  have HA := Lib.hid hA
  have HF := Lib.hid hf
  clear hA hf
  go_enter Try.func12, Try.ntmps12
  by_cases h512 : l.length ≤ 512
  · go_wp2_with fail
    have hb0 : Blk (w.alloc (.cells #[.slice none 0 0, .slice none 0 0, .int .i64 0] 29)) w.heap.size 29 #[.slice none 0 0, .slice none 0 0, .int .i64 0] := Blk.new _ _ _
    have hx0 := Ext.alloc w (.cells #[.slice none 0 0, .slice none 0 0, .int .i64 0] 29)
    generalize w.alloc (.cells #[.slice none 0 0, .slice none 0 0, .int .i64 0] 29) = w1 at *
    generalize hrb : w.heap.size = rb at *
    refine (hashes_any A c l w1 (hx0.rdy HA.out) HF.out h512).mono ?_
    rintro e w2 ⟨IA, ic, HAA, hc, rfl, hst⟩
    have hsl : (seenI l).length ≤ 512 := Nat.le_trans (seenK_len l l.length) h512
    have HLT := Lib.hid (seenK_lt l l.length)
    have HST := Lib.hid hst
    have HB2 := Lib.hid (hst.x.blk hb0)
    have HX2 := Lib.hid (hx0.trans hst.x)
    clear hst hb0 hx0
    go_wp2_with fail
    refine (wide_any _ _ (by omega)).mono ?_
    rintro e w3 ⟨rfl, rfl⟩
    have hww := wideN_words (seenI l).length
    have HHL := Lib.hid (hashL_len l (seenI l))
    go_wp2_with fail
    have hmk := make_yes (wideN (seenI l).length) 6 HAA hc (hashL l (seenI l)) w2 (hashL_lt l (seenI l)) (by rw [HHL.out]; unfold maxLen; omega) (Rd.of_own HST.out.h) hww.1
    rw [HHL.out] at hmk
    refine hmk.mono ?_
    rintro e w4 ⟨fg, fc, rfl, hfo, hfx⟩
    go_wp2_with fail
    have hbf : Blk (w4.alloc (.cells #[.slice (some ⟨fg, 0, none⟩) (wideN (seenI l).length) fc, .int .i64 6] 27)) w4.heap.size 27 #[.slice (some ⟨fg, 0, none⟩) (wideN (seenI l).length) fc, .int .i64 6] := Blk.new _ _ _
    have hxf := (show Ext w2 w4 from hfx).trans (Ext.alloc w4 (.cells #[.slice (some ⟨fg, 0, none⟩) (wideN (seenI l).length) fc, .int .i64 6] 27))
    have hof := (Ext.alloc w4 (.cells #[.slice (some ⟨fg, 0, none⟩) (wideN (seenI l).length) fc, .int .i64 6] 27)).own hfo
    generalize w4.alloc (.cells #[.slice (some ⟨fg, 0, none⟩) (wideN (seenI l).length) fc, .int .i64 6] 27) = wm at *
    generalize w4.heap.size = fb at *
    have d0 : wm.cell? ⟨fb, 0, none⟩ = some (.slice (some ⟨fg, 0, none⟩) (wideN (seenI l).length) fc) := hbf.cell 0 rfl
    have d1 : wm.cell? ⟨fb, 1, none⟩ = some (.int .i64 6) := hbf.cell 1 rfl
    have hfb : fb < wm.heap.size := hbf.lt
    have HXM := Lib.hid hxf
    have HOF := Lib.hid hof
    have hcp := cntN_pos (seenI l).length
    have hcl := cntN_le (seenI l).length
    have HCN : Hid (∀ w', Calls Try.prog 21 #[.int .i64 ((seenI l).length : Nat)] w' fun e w5 => e = .returned (.int .i64 (cntN (seenI l).length : Nat)) ∧ w' = w5) := Lib.hid (fun w' => (count_any ((seenI l).length : Nat) w' (by omega) (by omega)).mono fun e w5 h => ⟨by rw [h.1, Int.toNat_natCast], h.2⟩)
    clear hbf hxf hof hfo hfx hmk
    generalize hmany : cntN (seenI l).length = many at *
    generalize hwid : wideN (seenI l).length = wid at *
    obtain ⟨mcs, hmcs⟩ : ∃ mcs : Array Value, mcs = madeCells #[Value.slice none 0 0] many := ⟨_, rfl⟩
    have hmk : ∀ W : World, (Instr.makeSlice 24 (.int .i64 (many : Nat)) (.int .i64 (many : Nat))).run Try.prog W = .ok (.slice (some ⟨W.heap.size, 0, none⟩) many many) (W.alloc (.cells mcs 58)) := fun W => by
      have hr := run_make (P := Try.prog) W 24 58 i1 (.slice none 0 0) Try.underlying24 hj0 hj1 .i64 .i64 many many (by omega) (by omega) (by rw [hj3]; omega) (by omega)
      simp only [Int.toNat_natCast] at hr
      rw [hr, hj2, Nat.mul_one, hmcs]
      rfl
    have HMCS := Lib.hid hmcs
    clear hmcs
    have hfam := made_fam wm mcs many (some ⟨fg, 0, none⟩) wid fc HMCS.out (by omega)
    have HFAM := Lib.hid hfam
    clear hfam
    have hxw : Ext w wm := HX2.out.trans HXM.out
    have HXW := Lib.hid hxw
    clear hxw
    go_cut [8] (fun t8 wx => ∃ tb g : Nat, t8 = .pointer (some ⟨tb, 0, none⟩) ∧ BSt wm wx g many (List.replicate many bk0) ∧ Blk wx tb 29 #[.slice (some ⟨g, 0, none⟩) many many, .slice (some ⟨fg, 0, none⟩) wid fc, .int .i64 6])
    case first =>
      go_region_law (go_simp; go_at_call 21; refine (HCN.out _).mono ?_; rintro e w5 ⟨rfl, rfl⟩)
      all_goals
        go_wp2_with fail
        go_meet
        first
          | exact ⟨_, _, rfl, HFAM.out.1.1, HFAM.out.1.2⟩
          | exact ⟨_, _, rfl, HFAM.out.2.1, HFAM.out.2.2⟩
    case rest =>
      obtain ⟨tb, g, rfl, hbst, htb⟩ := hcut
      have HB0 := Lib.hid hbst
      have HT0 := Lib.hid htb
      have HIX : Hid (wm.ownsRow w1.heap.size 3 1 (.slice IA (seenI l).length ic) (seenI l).length (ints (natI (seenI l)))) := Lib.hid (HXM.out.own HST.out.i)
      have HRB : Hid (Blk wm rb 29 #[.slice none 0 0, .slice none 0 0, .int .i64 0]) := Lib.hid (HXM.out.blk HB2.out)
      clear hbst htb d0 d1 hmk HFAM HCN HMCS HST HB2
      go_wp2_with fail
      go_loopw [37] (fun i wr => ∃ (k : Nat) (bs : List Bk), k ≤ (seenI l).length ∧ i = .int .i64 k ∧ bs.length = many ∧ bs.map Bk.is = bksI l many ((seenI l).take k) ∧ BSt wm wr g many bs ∧ Blk wr tb 29 #[.slice (some ⟨g, 0, none⟩) many many, .slice (some ⟨fg, 0, none⟩) wid fc, .int .i64 6]) (fun i _ => (seenI l).length - (intOf i).toNat)
      case atStart => exact ⟨0, List.replicate many bk0, Nat.zero_le _, rfl, by simp, by rw [List.take_zero, bksI_nil]; simp [bk0], HB0.out, HT0.out⟩
      case round =>
        clear HB0 HT0
        obtain ⟨k, bs, hk, rfl, hbl, hbm, hbst, htb⟩ := hrel
        have HBL := Lib.hid hbl
        have HBM := Lib.hid hbm
        have HBST := Lib.hid hbst
        have HTB := Lib.hid htb
        clear hbl hbm hbst htb
        by_cases hlt : k < (seenI l).length
        · obtain ⟨ib, io, rfl, hic⟩ := own_natI HIX.out rfl hlt
          replace hic := HBST.out.x.cell hic
          have hmem : (seenI l).getD k 0 ∈ seenI l := getD_mem (d := 0) hlt
          have hil := HLT.out _ hmem
          have HTS := Lib.hid (take_snocL (seenI l) k hlt)
          have HSN := Lib.hid (bksI_snoc l many ((seenI l).take k) ((seenI l).getD k 0) (by omega))
          generalize (seenI l).getD k 0 = i at *
          obtain ⟨yb, yo, rfl, hyb, hy⟩ := HA.out.nine hil
          have hgd : l.getD i sym0 = l[i] := by rw [List.getD_eq_getElem?_getD, List.getElem?_eq_getElem hil]; rfl
          have hfit := HF.out _ (List.getElem_mem hil)
          rw [hgd] at HSN
          have hns : l[i].name.size ≤ maxLen := by have := hfit.name; unfold maxLen; omega
          have hn0 := (hy.ext (HXW.out.trans HBST.out.x)).1
          generalize l[i].name = name at *
          clear hfit hgd hy
          have t0 : wr.cell? ⟨tb, 0, none⟩ = some (.slice (some ⟨g, 0, none⟩) many many) := HTB.out.cell 0 rfl
          have t1 : wr.cell? ⟨tb, 1, none⟩ = some (.slice (some ⟨fg, 0, none⟩) wid fc) := HTB.out.cell 1 rfl
          have t2 : wr.cell? ⟨tb, 2, none⟩ = some (.int .i64 6) := HTB.out.cell 2 rfl
          have HBU : Hid (∀ w', Calls Try.prog 32 #[.agg #[.slice (some ⟨g, 0, none⟩) many many, .slice (some ⟨fg, 0, none⟩) wid fc, .int .i64 6], .string name] w' fun e w2 => e = .returned (.int .i64 (hashN name % many : Nat)) ∧ Ext w' w2) :=
            Lib.hid (fun w' => bucket_any _ many many _ _ name w' (by omega) (by omega) hns)
          have hjm : hashN name % many < many := Nat.mod_lt _ (by omega)
          have HBKL := Lib.hid (bkI_len l many ((seenI l).take k) (hashN name % many))
          generalize hashN name % many = j at *
          go_wp2_with fail
          refine wp_region_still_tail 6 (by kernel_rfl) (by kernel_rfl) ?_
          simp only [List.take_succ_cons, List.take_zero, List.drop_succ_cons, List.drop_zero]
          repeat still_step
          refine wpStill_nil ?_
          go_wp2_with fail
          refine (HBU.out _).mono ?_
          rintro e w6 ⟨rfl, hx6⟩
          have hB6 := HBST.out.ex ((Ext.drew _).trans hx6)
          have hT6 := ((Ext.drew _).trans hx6).blk HTB.out
          clear t0 t1 t2 hic hn0 HBU hx6
          obtain ⟨kb, hkb⟩ : ∃ kb, bs[j]? = some kb := ⟨_, List.getElem?_eq_getElem (by rw [HBL.out]; exact hjm)⟩
          have hkbi : kb.is = natI (bkI l many ((seenI l).take k) j) := by
            have := congrArg (fun x : List (List Int) => x[j]?) HBM.out
            simp only [List.getElem?_map, hkb, bksI_get _ _ _ hjm, Option.map_some, Option.some.injEq] at this
            exact this
          have hkl : kb.is.length ≤ 512 := by
            rw [hkbi, natI_len]
            refine Nat.le_trans HBKL.out ?_
            rw [List.length_take]; omega
          have hrow6 := hB6.row.cellAt j (by rw [HBL.out]; omega)
          rw [List.getElem?_map, hkb] at hrow6
          simp only [Option.map_some, Bk.cell] at hrow6
          have hgl6 := (hB6.row.lt g rfl).2
          have htl6 := hT6.lt
          have u0 : w6.cell? ⟨tb, 0, none⟩ = some (.slice (some ⟨g, 0, none⟩) many many) := hT6.cell 0 rfl
          have HKB := Lib.hid hkb
          have HKI := Lib.hid hkbi
          have HB6 := Lib.hid hB6
          have HT6 := Lib.hid hT6
          have hwm6 := hB6.x.size
          clear hkb hkbi hB6 hT6
          obtain ⟨KA, kc, kis⟩ := kb
          simp only at hkl hrow6
          have hown : w6.ownsRow wm.heap.size 3 1 (.slice KA kis.length kc) kis.length (ints kis) := HB6.out.each j _ HKB.out
          have HOWN := Lib.hid hown
          clear hown
          go_wp2_with fail
          go_region_law (refine step_app_rd2 rfl _ _ 58 rfl wm.heap.size 3 i0 (.int .i64 0) 8 Try.underlying58 hi0 hz0 hz1 hz2 rfl (.slice KA kis.length kc) kis.length (ints kis) rfl (by first | exact (Ext.alloc _ _).own HOWN.out | exact ((Ext.alloc _ _).trans (Ext.drew _)).own HOWN.out | exact (Ext.drew _).own HOWN.out) _ _ [.int .i64 i] 1 rfl rfl (by first | exact Blk.rd (Blk.new _ _ _) | exact Blk.rd (Blk.new _ _ _).drew) (fun x hx => by rw [List.mem_singleton.1 hx]; rfl) (by simp only [maxLen]; omega) (by omega) (by simp; omega) ?_; intro v7 w7 o1 o2 o3; obtain ⟨A7, c7, rfl⟩ := own_slice o1; (have hp := BSt.putE (k' := ⟨A7, c7, kis ++ [(i : Int)]⟩) (by first | exact Ext.alloc _ _ | exact (Ext.alloc _ _).trans (Ext.drew _) | exact Ext.drew _) HB6.out HT6.out HKB.out rfl (by simp only [Bk.cell, List.length_append, List.length_singleton]; exact o1) o2 (by simp only [Bk.cell, List.length_append, List.length_singleton]; exact o3)); (simp only [Bk.cell, List.length_append, List.length_singleton] at hp); (obtain ⟨p1, p2, p3, p4⟩ := hp); (have q0 := p3 0 _ rfl); clear p3)
          all_goals
            have HB7 := Lib.hid p4.out.1
            have HT7 := Lib.hid p4.out.2
            have HBN : Hid ((bs.set j ⟨A7, c7, kis ++ [(i : Int)]⟩).map Bk.is = bksI l many ((seenI l).take (k + 1))) := Lib.hid (by
              rw [HTS.out, HSN.out, ← HKI.out, List.map_set, HBM.out])
            clear p1 p2 p4 q0 o1 o2 o3 hrow6 u0
            generalize w7.setCell _ _ = w8 at *
            go_wp2
            go_roundw
            case rel => exact ⟨k + 1, _, by omega, by go_num, by rw [List.length_set]; exact HBL.out, HBN.out, HB7.out, HT7.out⟩
            case measure => simp [intOf]; omega
        · have hkn : k = (seenI l).length := by omega
          subst hkn
          rw [List.take_length] at HBM
          have t0 : wr.cell? ⟨tb, 0, none⟩ = some (.slice (some ⟨g, 0, none⟩) many many) := HTB.out.cell 0 rfl
          have t1 : wr.cell? ⟨tb, 1, none⟩ = some (.slice (some ⟨fg, 0, none⟩) wid fc) := HTB.out.cell 1 rfl
          have t2 : wr.cell? ⟨tb, 2, none⟩ = some (.int .i64 6) := HTB.out.cell 2 rfl
          have hrb := HBST.out.x.blk HRB.out
          have r0 : wr.cell? ⟨rb, 0, none⟩ = some (.slice none 0 0) := hrb.cell 0 rfl
          have r1 : wr.cell? ⟨rb, 1, none⟩ = some (.slice none 0 0) := hrb.cell 1 rfl
          have r2 : wr.cell? ⟨rb, 2, none⟩ = some (.int .i64 0) := hrb.cell 2 rfl
          have z0 := hrb.frozen 0
          have z1 := hrb.frozen 1
          have z2 := hrb.frozen 2
          have HRW := Lib.hid hrb
          have hwl : (wordsI l (seenI l)).length = wid := by unfold wordsI; rw [putAll_length, List.length_replicate, hwid]
          have HWL := Lib.hid hwl
          have HOWN : Hid (OwnT w (((wr.setCell ⟨rb, 0, none⟩ (.slice (some ⟨g, 0, none⟩) many many)).setCell ⟨rb, 1, none⟩ (.slice (some ⟨fg, 0, none⟩) wid fc)).setCell ⟨rb, 2, none⟩ (.int .i64 6)) ⟨some ⟨g, 0, none⟩, many, bs, some ⟨fg, 0, none⟩, fc, wordsI l (seenI l), 6⟩) := Lib.hid (by
            have hb0 := HBST.out.up HXW.out
            have hr0 := HRW.out
            have hle : w.heap.size ≤ rb := by omega
            have hb1 := hb0.setFar (i := 0) hr0 hle (.slice (some ⟨g, 0, none⟩) many many)
            have hr1 := hr0.set 0 (.slice (some ⟨g, 0, none⟩) many many)
            have hb2 := hb1.setFar (i := 1) hr1 hle (.slice (some ⟨fg, 0, none⟩) wid fc)
            have hr2 := hr1.set 1 (.slice (some ⟨fg, 0, none⟩) wid fc)
            have hb3 := hb2.setFar (i := 2) hr2 hle (.int .i64 6)
            have hf0 := own_mono (HBST.out.x.own HOF.out) HX2.out.size
            have hf3 := own_farB (i := 2) (own_farB (i := 1) (own_farB (i := 0) hf0 hr0 (by decide) (.slice (some ⟨g, 0, none⟩) many many)) hr1 (by decide) (.slice (some ⟨fg, 0, none⟩) wid fc)) hr2 (by decide) (.int .i64 6)
            refine ⟨⟨g, rfl, hb3⟩, ?_, hb3.x⟩
            simp only
            rw [HWL.out]
            unfold wordsI
            rw [hwid]
            exact hf3)
          have HFIN : Hid (bs.map Bk.is = bksI l (cntN (seenI l).length) (seenI l)) := Lib.hid (by rw [hmany]; exact HBM.out)
          have HVAL : Hid ((Tb.vals ⟨some ⟨g, 0, none⟩, many, bs, some ⟨fg, 0, none⟩, fc, wordsI l (seenI l), 6⟩).toArray = #[.slice (some ⟨g, 0, none⟩) many many, .slice (some ⟨fg, 0, none⟩) wid fc, .int .i64 6]) := Lib.hid (by simp only [Tb.vals]; rw [HBL.out, HWL.out])
          clear HRW hwl hwid hmany HBM HBL
          go_wp2
          exact bodyPost_ret (v := .tuple #[.agg #[.slice (some ⟨g, 0, none⟩) many many, .slice (some ⟨fg, 0, none⟩) wid fc, .int .i64 6], .int .i64 0]) (by simp [results, Try.results12, go_sem, r0, r1, r2]) rfl (.inr ⟨h512, _, by rw [HVAL.out], HOWN.out, HFIN.out, rfl, rfl⟩)
  · have hgt : 512 < l.length := by omega
    go_wp2
    exact bodyPost_ret (v := .tuple #[.agg #[.slice none 0 0, .slice none 0 0, .int .i64 0], .int .i64 2]) (by simp [results, Try.results12, go_sem]) rfl (.inl ⟨hgt, rfl, Ext.alloc _ _⟩)

end Go.Proofs.Ytejdknmlggdndaa
