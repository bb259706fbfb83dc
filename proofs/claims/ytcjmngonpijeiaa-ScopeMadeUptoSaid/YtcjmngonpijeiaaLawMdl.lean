/- clevislaw14.ScopeMade, where what comes in is of bulk at most 1048576. -/
import Derived.Test.YtcjmngonpijeiaaAwk14
import Derived.Test.YtcjmngonpijeiaaRRt
import Derived.Test.YtcjmngonpijeiaaApp15
import Derived.Test.YtcjmngonpijeiaaSieveQ
import Derived.Deep.CondSized
namespace Go.Proofs.Ytcjmngonpijeiaa
set_option maxRecDepth 100000
open Go.ChangeShapes Go.WideShapes Go.ChangeAt Go.RowKit Go.Joins Pl
set_option linter.unusedVariables false

theorem made14_holds (l : List Sym) (i : Nat) (hi : i ∈ seenI l) : lackT (wordsI l (seenI l)) 6 (hashN (l.getD i sym0).name) = false := by
  have hw := wideN_words (seenI l).length
  have hm : hashN (l.getD i sym0).name ∈ hashL l (seenI l) := List.mem_map.2 ⟨i, hi, rfl⟩
  have hc := Cov.mem (sh := 6) (hashL l (seenI l)) (ws := List.replicate (wideN (seenI l).length) 0) (by rw [List.length_replicate]; omega) hm
  have := Cov.lacks hc
  unfold lackT wordsI
  rw [show (6 : Int).toNat = 6 from rfl, this, Bool.and_false]

/-- a made table is right -/
theorem made14_right (t : Tb) (l : List Sym) (hl : l.length ≤ 512) (h1 : t.bs.map Bk.is = bksI l (cntN (seenI l).length) (seenI l)) (h2 : t.ws = wordsI l (seenI l)) (h3 : t.sh = 6) : rightT t l = true := by
  have hsn : (seenI l).length ≤ 512 := Nat.le_trans (seenK_len l l.length) hl
  have hbl : t.bs.length = cntN (seenI l).length := by have := congrArg List.length h1; simpa [bksI_len] using this
  have hcp := cntN_pos (seenI l).length
  have hc5 : cntN (seenI l).length ≤ 512 := by unfold cntN; split <;> omega
  have htot := total_made t l (cntN (seenI l).length) (by omega) h1
  have hww := wideN_words (seenI l).length
  have hwl : t.ws.length = wideN (seenI l).length := by rw [h2]; unfold wordsI; rw [putAll_length, List.length_replicate]
  rw [right_eq]
  have hmem : ∀ k ∈ t.bs, ∃ b, k.is = natI (bkI l (cntN (seenI l).length) (seenI l) b) := fun k hk => by
    have hm : k.is ∈ bksI l (cntN (seenI l).length) (seenI l) := by rw [← h1]; exact List.mem_map_of_mem hk
    unfold bksI at hm
    obtain ⟨b, _, hb⟩ := List.mem_map.1 hm
    exact ⟨b, hb.symm⟩
  have hin : (t.bs.all fun k => incB k.is) = true := List.all_eq_true.2 (fun k hk => by
    obtain ⟨b, hb⟩ := hmem k hk
    rw [hb]; exact (bkI_inc l _ b).1)
  have hgd : (seenI l).all (goodI t l) = true := List.all_eq_true.2 (fun i hi => by
    unfold goodI
    have hj : hashN (l.getD i sym0).name % t.bs.length < t.bs.length := Nat.mod_lt _ (by omega)
    have hg : (t.bs.getD (hashN (l.getD i sym0).name % t.bs.length) bk0).is = natI (bkI l (cntN (seenI l).length) (seenI l) (hashN (l.getD i sym0).name % t.bs.length)) := by
      have := congrArg (fun x : List (List Int) => x[hashN (l.getD i sym0).name % t.bs.length]?) h1
      simp only [List.getElem?_map] at this
      rw [bksI_get _ _ _ (by omega), List.getElem?_eq_getElem hj] at this
      simp only [Option.map_some, Option.some.injEq] at this
      rw [List.getD_eq_getElem?_getD, List.getElem?_eq_getElem hj]
      exact this
    have hm : (i : Int) ∈ natI (bkI l (cntN (seenI l).length) (seenI l) (hashN (l.getD i sym0).name % t.bs.length)) := by
      refine List.mem_map.2 ⟨i, List.mem_filter.2 ⟨hi, ?_⟩, rfl⟩
      rw [hbl]; simp
    rw [hg, inc_count _ (bkI_inc l _ _).1 _ hm, h2, h3, made14_holds l i hi]
    rfl)
  unfold refR
  rw [decide_eq_true hl, decide_eq_true (by omega : 1 ≤ t.bs.length), decide_eq_true (by omega : t.bs.length ≤ 512), hwl, h3, hin, hgd, htot, decide_eq_true rfl]
  have := hww.1
  simp only [Bool.true_and, Bool.and_true]
  exact this

/-- a list of symbols, in memory -/
structure Ls where
  A : Option Addr
  c : Nat
  l : List Sym
def ls0 : Ls := ⟨none, 0, []⟩
structure Ls.In (w : World) (s : Ls) : Prop where
  rd : RdY w s.A s.l
  fit : ∀ x ∈ s.l, x.Fit
  len : s.l.length ≤ 140737488351232
  cap : s.l.length ≤ s.c
  capm : s.c ≤ maxLen
theorem Ls.In.ext {w w' : World} {s : Ls} (h : s.In w) (hx : Ext w w') : s.In w' := ⟨RdY.ext h.rd hx, h.fit, h.len, h.cap, h.capm⟩
def InLs (w : World) (v : Value) (ls : List Ls) : Prop := ∃ A cap, v = .slice A ls.length cap ∧ RdC w A 1 (fun (s : Ls) cs => cs = [.slice s.A s.l.length s.c]) ls ∧ (∀ s ∈ ls, s.In w) ∧ ls.length * 24 ≤ 140737488351232

section
variable {H : Type} {enc : TypeId × Value → H} {w : World} {base : Nat} {spare : Nat → Bool} {held : Bool} {r : Reach} {b0 : Nat} {v : Value} {d : DataW H} {ps : List MemPlace}
theorem open_InLsU (hval : Value.okWide Try.prog w r b0 71 v) (hd : DataW.Trod enc Try.prog w base spare held 71 v d ps) (hz : Light Try.prog 71 d) : ∃ x, InLs w v x ∧ x.length + 1 ≤ Rows.uptoBulk d := by
  obtain ⟨a, len, cap, rfl⟩ := okWide_slice Try.underlying71 hval
  obtain ⟨fuel, hf⟩ := hd
  obtain ⟨A, c, xs, hv, hR, hb, hk, hc, hm⟩ := cells_slice (α := Ls) (Q := fun s cs => cs = [.slice s.A s.l.length s.c] ∧ s.In w) (bk := fun _ => 1) (by_ := 24) Try.underlying71 (show Try.prog.cellsOf 49 = 1 by kernel_rfl) (by omega) (by kernel_rfl) (by simpa [Value.cells] using hf) hz (fun fuel cs y hy hz1 hcl => by
    match cs, hcl with
    | [c], _ =>
    obtain ⟨l, A, c, rfl, h1, h2, h3, h4, h5⟩ := cells_syms hy hz1
    exact ⟨⟨A, c, l⟩, ⟨rfl, h1, h2, h3, h4, h5⟩, bulk_one _⟩)
  rw [sum_ones] at hk
  refine ⟨xs, ⟨A, c, hv, fun i s hs => ?_, fun s hs => ?_, hb⟩, hk⟩
  · obtain ⟨b, off, cs, hA, hl, ⟨hq, _⟩, hc⟩ := hR i s hs
    exact ⟨b, off, cs, hA, hl, hq, hc⟩
  · obtain ⟨i, hi, rfl⟩ := List.getElem_of_mem hs
    obtain ⟨b, off, cs, hA, hl, ⟨_, hq⟩, hc⟩ := hR i _ (List.getElem?_eq_getElem hi)
    exact hq
end

theorem info_img : (Try.prog.info? 60).map (fun i => (i.zero, i.size, i.bytes)) = some (some (.agg im0.vals.toArray), 15, 304) := by kernel_rfl

theorem own_blkV {w : World} {base size n : Nat} {e : TypeId} {v : Value} {xs : List Value} (h : w.ownsRow base e size v n xs) {b : Nat} (hb : v.ownBlock = some b) : ∃ cs, Blk w b e cs := by
  rcases h.2 with ⟨rfl, _⟩ | ⟨g, cap, cur, rfl, _, hh, _⟩
  · simp [Value.ownBlock] at hb
  · simp only [Value.ownBlock, Option.some.injEq] at hb
    subst hb
    exact ⟨cur, hh⟩

/-- the state of the making: images of the call's own -/
structure Md (w0 w : World) (v : Value) (ims : List Im) : Prop where
  own : w.ownsRow w0.heap.size 60 15 v ims.length (flat ims)
  each : ∀ m ∈ ims, m.In w ∧ RowsT w m.t ∧ RdY w0 m.SA m.l
  right : allR ims = true
  x : Ext w0 w

set_option maxRecDepth 100000 in
set_option maxHeartbeats 6400000 in
theorem walk_ScopeMade (v0 v1 v2 : Value) (r : Sym) (skip : Int) (ls : List Ls) (w : World) (h0 : InSym w v0 r) (h1 : InInt w v1 skip) (h2 : InLs w v2 ls) (hk : 1 + (1 + (ls.length + 1 + 0)) ≤ 1048576) :
    Calls Try.prog 11 #[v0, v1, v2] w fun e w' => e = .returned (.bool true) ∧ Below w.heap.size w w' := by
  obtain ⟨A, c, rfl, hrdl, heach, hlen⟩ := h2
  obtain ⟨rfl, hs0, hs1⟩ := h1
  obtain ⟨rfl, hr⟩ := h0
  obtain ⟨i0, hi0, hz0, hz1, hz2⟩ := info_parts info_img
  have hls : ls.length ≤ 1048576 := by omega
  have HRL := Lib.hid hrdl
  have HEA := Lib.hid heach
  have HA := Lib.hid (fun A c ims w' (hi : ImsIn w' A ims) (ha : allR ims = true) => look_any r skip A c ims w' hr hi (allR_len ha))
  have HB := Lib.hid (fun A c ims w' (hi : ImsIn w' A ims) => linear_any r skip A c ims w' hi)
  have HEQ := Lib.hid (fun ims (ha : allR ims = true) => look_lin (r := r) (skip := skip) ha)
  clear hrdl heach hr hk
  unfold LkP at HA
  unfold LnP at HB
  obtain ⟨rname, rver, rold, rkind, rweak, rvis, rdefd, rval, rsize⟩ := r
  simp only [Sym.vals] at HA HB ⊢
  go_enter Try.func11, Try.ntmps11
  go_wp2_with fail
  have hb1 : Blk (w.alloc (.cells #[.string rname, .string rver, .bool rold, .int .i64 rkind, .bool rweak, .int .i64 rvis, .bool rdefd, .int .i64 rval, .int .i64 rsize] 25)) w.heap.size 25 #[.string rname, .string rver, .bool rold, .int .i64 rkind, .bool rweak, .int .i64 rvis, .bool rdefd, .int .i64 rval, .int .i64 rsize] := Blk.new _ _ _
  have hxb := Ext.alloc w (.cells #[.string rname, .string rver, .bool rold, .int .i64 rkind, .bool rweak, .int .i64 rvis, .bool rdefd, .int .i64 rval, .int .i64 rsize] 25)
  generalize w.alloc (.cells #[.string rname, .string rver, .bool rold, .int .i64 rkind, .bool rweak, .int .i64 rvis, .bool rdefd, .int .i64 rval, .int .i64 rsize] 25) = wb at *
  refine (awake14_any _).mono ?_
  rintro e w1 ⟨rfl, hx1⟩
  have HX1 := Lib.hid (hxb.trans hx1)
  have HRB := Lib.hid (hx1.blk hb1)
  clear hb1 hxb hx1
  go_wp2_with fail
  go_loopw [8, 9] (fun l i wr => ∃ (k : Nat) (v : Value) (ims : List Im), k ≤ ls.length ∧ v = l ∧ i = .int .i64 k ∧ ims.length = k ∧ Md w1 wr v ims) (fun _ i _ => ls.length - (intOf i).toNat)
  case atStart => exact ⟨0, .slice none 0 0, [], Nat.zero_le _, rfl, rfl, rfl, ⟨World.ownsRow_nil _ _ _ _, (fun m hm => absurd hm List.not_mem_nil), rfl, Ext.refl _⟩⟩
  case round =>
    obtain ⟨k, v, ims, hk, rfl, rfl, hil, hmd⟩ := hrel
    have HMD := Lib.hid hmd
    have HIL := Lib.hid hil
    clear hmd hil
    by_cases hlt : k < ls.length
    · obtain ⟨lb, lo, cs, hA, hcl, hq, hcell⟩ := HRL.out k _ (List.getElem?_eq_getElem hlt)
      subst hA
      have hc0 := hcell 0 (by omega)
      rw [hq, Nat.mul_one, Nat.add_zero] at hc0
      simp only [List.getElem?_cons_zero] at hc0
      have HIN := Lib.hid (HEA.out _ (List.getElem_mem hlt))
      replace hc0 := (HX1.out.trans HMD.out.x).cell hc0
      clear hcell hq hcl
      generalize ls[k] = s at *
      obtain ⟨SA, sc, l⟩ := s
      simp only at hc0
      by_cases h512 : 512 < l.length
      · go_wp2
        go_ret
        first | exact ⟨rfl, HX1.out.trans HMD.out.x⟩ | exact HX1.out.trans HMD.out.x
      · have hl5 : l.length ≤ 512 := by omega
        have HIN2 := Lib.hid (HIN.out.ext (HX1.out.trans HMD.out.x))
        go_wp2_with fail
        refine (made_any SA sc l wr HIN2.out.rd HIN2.out.fit hl5).mono ?_
        rintro e w5 ⟨t, rfl, ht, hx5, hrt, a1, a2, a3⟩
        have HRT := Lib.hid (made14_right t l hl5 a1 a2 a3)
        have HTI := Lib.hid ht
        have HX5 := Lib.hid hx5
        have HRW := Lib.hid hrt
        have HRD0 := Lib.hid (RdY.ext HIN.out.rd HX1.out)
        clear ht hx5 hrt a1 a2 a3 hc0
        obtain ⟨BA, bc, bs, WA, wc, ws, sh⟩ := t
        simp only [imOf, Im.vals, sl0]
        have HOWN := Lib.hid (HX5.out.own HMD.out.own)
        have hkl := HIL.out
        go_wp2_with (at_builtin; go_loud (refine wpList_app_rdN rfl _ _ 26 rfl w1.heap.size 60 i0 (.agg im0.vals.toArray) 15 304 Try.underlying26 hi0 hz0 hz1 hz2 rfl (by omega) v ims.length (flat ims) rfl ((Ext.alloc _ _).own HOWN.out) (some ⟨w5.heap.size, 0, none⟩) 1 (imOf SA sc l ⟨BA, bc, bs, WA, wc, ws, sh⟩).vals 1 rfl rfl (Blk.rd (Blk.new _ _ _)) (by rw [← flat_one]; exact flat_oneCell _) ?d3 ?d4 ?d5 ?_))
        case d3 => have := HIL.out; unfold maxLen; omega
        case d4 => have := HIL.out; omega
        case d5 => exact Nat.le_trans (HMD.out.x.trans HX5.out).size (Nat.le_succ _)
        intro v3 w3 p1 q1 q3
        have HN : Hid (Md w1 w3 v3 (ims ++ [imOf SA sc l ⟨BA, bc, bs, WA, wc, ws, sh⟩])) := Lib.hid (by
          have hxa := Ext.alloc w5 (.cells (imOf SA sc l ⟨BA, bc, bs, WA, wc, ws, sh⟩).vals.toArray 60)
          have howa := hxa.own HOWN.out
          have hc : Chg (fun b => some b = v.ownBlock) (w5.alloc (.cells (imOf SA sc l ⟨BA, bc, bs, WA, wc, ws, sh⟩).vals.toArray 60)) w3 := Chg.grown q1
          have hx13 : Ext w1 w3 := hc.ext (HMD.out.x.trans (HX5.out.trans hxa)) (fun b hb => (howa.lt b hb.symm).1)
          have far : ∀ m : Im, m.In w5 → RowsT w5 m.t → RdY w1 m.SA m.l → m.In w3 ∧ RowsT w3 m.t ∧ RdY w1 m.SA m.l := fun m h1 h2 h3 => by
            have h2a := h2.ext hxa
            have hn : ∀ b, rowsAt m.t b → ¬ some b = v.ownBlock := fun b hb e => by
              obtain ⟨cs2, hg⟩ := own_blkV howa e.symm
              exact h2a.ne hg (by decide) (by decide) (by decide) b hb rfl
            exact ⟨⟨RdY.ext h3 hx13, h1.fit, h1.len, h1.cap, h1.capm, (h1.t.ext hxa).chg hc hn⟩, h2a.chg hc hn, h3⟩
          refine ⟨?_, ?_, ?_, hx13⟩
          · rw [List.length_append, List.length_singleton, HIL.out, flat_append, flat_one]; exact p1
          · intro m hm
            rcases List.mem_append.1 hm with h | h
            · obtain ⟨e1, e2, e3⟩ := HMD.out.each m h
              exact far m (e1.ext HX5.out) (e2.ext HX5.out) e3
            · rw [List.mem_singleton.1 h]
              exact far _ ⟨RdY.ext HIN2.out.rd HX5.out, HIN2.out.fit, HIN2.out.len, HIN2.out.cap, HIN2.out.capm, HTI.out⟩ HRW.out HRD0.out
          · unfold allR
            rw [List.all_append]
            rw [show ims.all (fun m => refR m.t m.l) = true from HMD.out.right]
            simp only [List.all_cons, List.all_nil, Bool.and_true, Bool.true_and]
            rw [← right_eq]; exact HRT.out)
        clear p1 q1 q3
        go_wp2
        go_roundw
        case rel => exact ⟨k + 1, v3, _, by omega, rfl, by go_num, by simp [HIL.out], HN.out⟩
        case measure => simp [intOf]; omega
    · have hke : k = ls.length := by omega
      obtain ⟨VA, vc, rfl⟩ := own_slice HMD.out.own
      have hii : ImsIn wr VA ims := ⟨Rd.imgs (Rd.of_ownN HMD.out.own), fun m hm => (HMD.out.each m hm).1, by have := HIL.out; omega⟩
      have HII := Lib.hid hii
      have HA2 := Lib.hid (fun w' hx => HA.out VA vc ims w' (hii.ext hx) HMD.out.right)
      have HB1 := Lib.hid (fun w' hx => HB.out VA vc ims w' (hii.ext hx))
      have hkf := HEQ.out ims HMD.out.right
      rw [hkf] at HA2
      have HXW := Lib.hid (HX1.out.trans HMD.out.x)
      have HRB2 := Lib.hid (HMD.out.x.blk HRB.out)
      clear hkf hii HA HB HEQ hke
      generalize linF ⟨rname, rver, rold, rkind, rweak, rvis, rdefd, rval, rsize⟩ skip ims = lf at *
      generalize lookN ⟨rname, rver, rold, rkind, rweak, rvis, rdefd, rval, rsize⟩ skip ims = ln at *
      obtain ⟨fi, fk, fb⟩ := lf
      simp only at HA2 HB1
      obtain ⟨q0, q1, q2, q3, q4, q5, q6, q7, q8⟩ := HRB2.out.nine
      go_wp2_with fail
      refine (HA2.out _ (Ext.refl _)).mono ?_
      rintro e w3 ⟨n1, rfl, ho1, hx3⟩
      have HX3 := Lib.hid hx3
      have HRB3 := Lib.hid (hx3.blk HRB2.out)
      clear ho1 hx3 q0 q1 q2 q3 q4 q5 q6 q7 q8
      have hkg := Blk.new w3 29 #[.int .i64 fi, .int .i64 fk, .bool fb]
      have hxg := Ext.alloc w3 (.cells #[.int .i64 fi, .int .i64 fk, .bool fb] 29)
      have HX4 := Lib.hid (HX3.out.trans hxg)
      have HRB4 := Lib.hid (hxg.blk HRB3.out)
      have HKG := Lib.hid hkg
      clear hkg hxg
      go_wp2_with fail
      generalize w3.alloc (.cells #[.int .i64 fi, .int .i64 fk, .bool fb] 29) = w4 at *
      generalize w3.heap.size = t8 at *
      obtain ⟨q0, q1, q2, q3, q4, q5, q6, q7, q8⟩ := HRB4.out.nine
      have f0 : ∀ u : EW w4, u.w.cell? _ = _ := fun u => u.cell q0
      have f1 : ∀ u : EW w4, u.w.cell? _ = _ := fun u => u.cell q1
      have f2 : ∀ u : EW w4, u.w.cell? _ = _ := fun u => u.cell q2
      have f3 : ∀ u : EW w4, u.w.cell? _ = _ := fun u => u.cell q3
      have f4 : ∀ u : EW w4, u.w.cell? _ = _ := fun u => u.cell q4
      have f5 : ∀ u : EW w4, u.w.cell? _ = _ := fun u => u.cell q5
      have f6 : ∀ u : EW w4, u.w.cell? _ = _ := fun u => u.cell q6
      have f7 : ∀ u : EW w4, u.w.cell? _ = _ := fun u => u.cell q7
      have f8 : ∀ u : EW w4, u.w.cell? _ = _ := fun u => u.cell q8
      have g0 : ∀ u : EW w4, u.w.cell? ⟨t8, 0, none⟩ = some (.int .i64 fi) := fun u => u.cell (HKG.out.cell 0 rfl)
      have g1 : ∀ u : EW w4, u.w.cell? ⟨t8, 1, none⟩ = some (.int .i64 fk) := fun u => u.cell (HKG.out.cell 1 rfl)
      have g2 : ∀ u : EW w4, u.w.cell? ⟨t8, 2, none⟩ = some (.bool fb) := fun u => u.cell (HKG.out.cell 2 rfl)
      have HB2 : Hid (∀ u : EW w4, _) := Lib.hid (fun u : EW w4 => HB1.out u.w (HX4.out.trans u.ext))
      clear q0 q1 q2 q3 q4 q5 q6 q7 q8 HB1 HA2
      refine wp_region_ext (by kernel_rfl) (by kernel_rfl) ?_
      repeat (go_big_quiet_step ((go_at_call 26; exact ext_call (HB2.out _))))
      refine wpQuiet_nil ?_
      rintro w9 ⟨u9, rfl⟩
      go_wp2
      go_ret
      first | exact ⟨rfl, HXW.out.trans (HX4.out.trans u9.ext)⟩ | exact ⟨retv (by simp), HXW.out.trans (HX4.out.trans u9.ext)⟩ | exact HXW.out.trans (HX4.out.trans u9.ext)

set_option maxRecDepth 100000 in
theorem liftedU_ScopeMade (os : Os) (started : os.Started) (H : Type) (enc : TypeId × Value → H) (F : Stop.Interp) :
    ReturnsInHanded {} Try.checked os 11 .any ((Rows.OpenSpec.upto Rows.scopeMadeSpec).pre6 enc Try.prog Try.f11 Rows.scopeMadeUptoRow.domain false) (((Rows.OpenSpec.upto Rows.scopeMadeSpec).at F).post enc Try.prog Try.f11 false true false false) := by
  refine returnsInHanded_of_cond_sized (C := Try.checked) (s := Rows.OpenSpec.upto Rows.scopeMadeSpec) (k := Rows.uptoSmall) rfl own started (by kernel_rfl) Try.func11
    (OpenSpec.witness (enc := enc) (C := Try.checked) (s := Rows.OpenSpec.upto Rows.scopeMadeSpec) (k := Rows.uptoSmall) rfl false ⟨#[], #[.agg #[.string ByteArray.empty, .string ByteArray.empty, .bool false, .int .i64 0, .bool false, .int .i64 0, .bool false, .int .i64 0, .int .i64 0], .int .i64 0, .slice none 0 0], []⟩ 8 (by kernel_rfl) (by kernel_rfl) (by kernel_rfl)
      (x := ([.agg [.lit (.string []), .lit (.string []), .lit (.bool false), .lit (.int .i64 0), .lit (.bool false), .lit (.int .i64 0), .lit (.bool false), .lit (.int .i64 0), .lit (.int .i64 0)], .lit (.int .i64 0), .nil], [], [])) (by kernel_rfl) rfl (by kernel_rfl)) ?_
  intro W base args ds gs before hval0 hW _ hk0 hsz0 _
  have hsz : (DataW.weightsEach Try.prog (Try.f11.params.toList ++ Rows.scopeMadeSpec.plain.varTypes Try.prog) (ds ++ gs)).all (· ≤ reachBytes) = true := hsz0
  clear hsz0
  have hval : ∀ (j : Nat) t v, Try.f11.params[j]? = some t → args[j]? = some v → Value.okWide Try.prog W .any base t v := hval0
  have hW' := hW
  obtain ⟨p, q, hA0, hV, rfl, hfz, hnd⟩ := hW
  have hA : DataW.TrodAll enc Try.prog W 0 (fun _ => true) true Try.f11.params.toList args.toList ds p := hA0
  rw [Try.params11] at hA hval hsz
  obtain ⟨v0, vs0, d0, ds0, p0, q0, hargs, rfl, rfl, h0, r0⟩ := trodAll_cons hA
  obtain ⟨v1, vs1, d1, ds1, p1, q1, rfl, rfl, rfl, h1, r1⟩ := trodAll_cons r0
  obtain ⟨v2, vs2, d2, ds2, p2, q2, rfl, rfl, rfl, h2, r2⟩ := trodAll_cons r1
  obtain ⟨rfl, rfl, rfl⟩ := trodAll_nil r2
  obtain rfl : args = #[v0, v1, v2] := by cases args; simp_all
  obtain ⟨rfl, rfl⟩ := trodVars_none hV
  have hk : Rows.uptoBulkAll [d0, d1, d2] ≤ 1048576 := of_decide_eq_true hk0
  simp only [Rows.uptoBulkAll] at hk
  have lt0 : ∀ x ∈ p0, x.block < W.heap.size := by obtain ⟨m, hm⟩ := h0; exact DataW.trod_lt m _ _ _ hm
  obtain ⟨x0, hx0, hb0⟩ := open_InSymU (hval 0 25 v0 rfl rfl) h0 (light_each (j := 0) hsz rfl rfl)
  have lt1 : ∀ x ∈ p1, x.block < W.heap.size := by obtain ⟨m, hm⟩ := h1; exact DataW.trod_lt m _ _ _ hm
  obtain ⟨x1, hx1, hb1⟩ := open_InIntU (hval 1 3 v1 rfl rfl) h1 (light_each (j := 1) hsz rfl rfl)
  have lt2 : ∀ x ∈ p2, x.block < W.heap.size := by obtain ⟨m, hm⟩ := h2; exact DataW.trod_lt m _ _ _ hm
  obtain ⟨x2, hx2, hb2⟩ := open_InLsU (hval 2 71 v2 rfl rfl) h2 (light_each (j := 2) hsz rfl rfl)
  clear hA0 hval0
  refine (walk_ScopeMade v0 v1 v2 x0 x1 x2 W hx0 hx1 hx2 (by omega)).mono fun e W' ⟨he, bel⟩ => ?_
  subst he
  exact ⟨_, rfl, _, _, _, [], _, [], hW', trodAll_mk1 (shut_bool Try.underlying4 _), (trodAll_cons_mk (Below.trod laidOut (by kernel_rfl) (of_decide_eq_true (by kernel_rfl)) h0 bel lt0) (trodAll_cons_mk (Below.trod laidOut (by kernel_rfl) (of_decide_eq_true (by kernel_rfl)) h1 bel lt1) (trodAll_cons_mk (Below.trod laidOut (by kernel_rfl) (of_decide_eq_true (by kernel_rfl)) h2 bel lt2) trodAll_mk0))), rfl, bel.frame _, fun h => by cases h⟩

/-- the statement, where what comes in is of bulk at most 1048576 -/
theorem holds_ScopeMadeUpto : Rows.ScopeMadeUptoSaid :=
  OpenClaim.holds_of_cond 11 Try.f11 rfl rfl rfl rfl rfl rfl rfl ⟨rfl, rfl, rfl, rfl, rfl⟩ rfl rfl rfl rfl rfl (by kernel_rfl) Try.func11 (by kernel_rfl)
    (of_decide_eq_true (by kernel_rfl)) (by unfold Func.isWrapper; first | (rw [if_pos (by decide +kernel)]; kernel_rfl) | (rw [if_neg (by decide +kernel)]; exact ⟨rfl, rfl⟩))
    (fun os started H enc _ F => liftedU_ScopeMade os started H enc F)
#print axioms holds_ScopeMadeUpto

end Go.Proofs.Ytcjmngonpijeiaa
