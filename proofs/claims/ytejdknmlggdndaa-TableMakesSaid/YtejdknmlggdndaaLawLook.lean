/- clevislaw08.TableLooks. -/
import Derived.Test.YtejdknmlggdndaaLawLoad
namespace Go.Proofs.Ytejdknmlggdndaa
open Go.ChangeShapes Go.WideShapes Go.ChangeAt Go.RowKit Pl
set_option linter.unusedVariables false

theorem findL_cnt (r : Sym) (l : List Sym) (ver : Bool) : ∀ (xs : List Nat) (m : Nat), (∀ x ∈ xs, x < l.length) → (findL r l ver (natI xs) m).2 ≤ m + xs.length ∧ (0 ≤ (findL r l ver (natI xs) m).1 ∨ (findL r l ver (natI xs) m).2 = m + xs.length)
  | [], m, _ => ⟨by simp [natI, findL], .inr (by simp [natI, findL])⟩
  | x :: xs, m, h => by
    have hx := h x (List.mem_cons_self ..)
    have ih := findL_cnt r l ver xs (m + 1) (fun y hy => h y (List.mem_cons_of_mem _ hy))
    have e : natI (x :: xs) = (x : Int) :: natI xs := rfl
    rw [e]
    simp only [findL]
    rw [if_neg (by omega : ¬ ((x : Int) < 0 ∨ (l.length : Int) ≤ x))]
    by_cases hm : matchB r (l.getD (x : Int).toNat sym0) ver = true
    · rw [if_pos hm]
      exact ⟨by simp, .inl (by simp)⟩
    · rw [if_neg hm]
      simp only [List.length_cons]
      omega

/-- how many of the first k are seen and share a bucket -/
def cntU (l : List Sym) (n h k : Nat) : Nat := ((List.range k).filter fun i => seenB (l.getD i sym0) && decide (hashN (l.getD i sym0).name % n = h)).length
theorem cntU_succ (l : List Sym) (n h k : Nat) : cntU l n h (k + 1) = cntU l n h k + if (seenB (l.getD k sym0) && decide (hashN (l.getD k sym0).name % n = h)) = true then 1 else 0 := by
  unfold cntU
  rw [List.range_succ, List.filter_append, List.length_append]
  congr 1
  simp only [List.filter_cons, List.filter_nil]
  split <;> rfl
theorem cntU_le (l : List Sym) (n h k : Nat) : cntU l n h k ≤ k := by
  unfold cntU
  refine Nat.le_trans (List.length_filter_le _ _) ?_
  simp
theorem cntU_all (l : List Sym) (n h : Nat) : cntU l n h l.length = (bkI l n (seenI l) h).length := by
  unfold cntU bkI seenI seenK
  rw [List.filter_filter]
  congr 1
  apply List.filter_congr
  intro i _
  rw [Bool.and_comm]

/-- what is found by a table that is made -/
theorem find_made (t : Tb) (r : Sym) (l : List Sym) (n : Nat) (hn : 1 ≤ n) (h1 : t.bs.map Bk.is = bksI l n (seenI l)) :
    (lackT t.ws t.sh (hashN r.name) = true → findP t r l = (-1, 0)) ∧
    (lackT t.ws t.sh (hashN r.name) = false → (findP t r l).2 ≤ cntU l n (hashN r.name % n) l.length ∧ (0 ≤ (findP t r l).1 ∨ (findP t r l).2 = cntU l n (hashN r.name % n) l.length)) := by
  have hbl : t.bs.length = n := by have := congrArg List.length h1; simpa [bksI_len] using this
  have e : findP t r l = if t.bs.length = 0 ∨ lackT t.ws t.sh (hashN r.name) = true then (-1, 0) else findL r l (verB l) (t.bs.getD (hashN r.name % t.bs.length) bk0).is 0 := rfl
  constructor
  · intro h; rw [e, if_pos (.inr h)]
  · intro h
    have hj : hashN r.name % n < n := Nat.mod_lt _ (by omega)
    have hb : (t.bs.getD (hashN r.name % n) bk0).is = natI (bkI l n (seenI l) (hashN r.name % n)) := by
      have h2 := bksI_get l n (seenI l) hj
      rw [← h1, List.getElem?_map, List.getElem?_eq_getElem (by rw [hbl]; exact hj)] at h2
      rw [List.getD_eq_getElem?_getD, List.getElem?_eq_getElem (by rw [hbl]; exact hj)]
      simpa using h2
    have hz : ¬ (t.bs.length = 0 ∨ lackT t.ws t.sh (hashN r.name) = true) := by
      rw [h, hbl]
      simp
      omega
    rw [e, if_neg hz, hbl, hb, cntU_all]
    have := findL_cnt r l (verB l) (bkI l n (seenI l) (hashN r.name % n)) 0 (fun x hx => seenK_lt l l.length x (List.mem_filter.1 hx).1)
    rw [Nat.zero_add] at this
    exact this

theorem Blk.nine {w : World} {g : Nat} {t : TypeId} {a b c d e f i j k : Value} (h : Blk w g t #[a, b, c, d, e, f, i, j, k]) :
    w.cell? ⟨g, 0, none⟩ = some a ∧ w.cell? ⟨g, 1, none⟩ = some b ∧ w.cell? ⟨g, 2, none⟩ = some c ∧ w.cell? ⟨g, 3, none⟩ = some d ∧ w.cell? ⟨g, 4, none⟩ = some e ∧ w.cell? ⟨g, 5, none⟩ = some f ∧
    w.cell? ⟨g, 6, none⟩ = some i ∧ w.cell? ⟨g, 7, none⟩ = some j ∧ w.cell? ⟨g, 8, none⟩ = some k :=
  ⟨h.cell 0 rfl, h.cell 1 rfl, h.cell 2 rfl, h.cell 3 rfl, h.cell 4 rfl, h.cell 5 rfl, h.cell 6 rfl, h.cell 7 rfl, h.cell 8 rfl⟩

set_option maxRecDepth 100000 in
set_option maxHeartbeats 3200000 in
theorem walk_TableLooks (v0 v1 : Value) (l : List Sym) (r : Sym) (w : World) (h0 : InSyms w v0 l) (h1 : InSym w v1 r) :
    Calls Try.prog 9 #[v0, v1] w fun e w' => e = .returned (.bool true) ∧ Below w.heap.size w w' := by
  obtain ⟨A, c, rfl, hA, hf, hl, hlc, hcm⟩ := h0
  obtain ⟨rfl, hr⟩ := h1
  have HA := Lib.hid hA
  have HF := Lib.hid hf
  have HFR := Lib.hid hr
  have hhr := hash_lt r.name
  have hnr : r.name.size ≤ maxLen := by have := hr.name; unfold maxLen; omega
  have HFI := Lib.hid (fun t n hn h1 => find_made t r l n hn h1)
  have HFA := Lib.hid (fun t w' ht hA' hb => find_any t r A c l w' ht hr hA' hl hb)
  clear hA hf hr
  obtain ⟨rname, rver, rold, rkind, rweak, rvis, rdefd, rval, rsize⟩ := r
  simp only [Sym.vals] at HFA ⊢
  simp only at hhr hnr HFI
  go_enter Try.func9, Try.ntmps9
  go_wp2_with fail
  have hrb : Blk (w.alloc (.cells #[.string rname, .string rver, .bool rold, .int .i64 rkind, .bool rweak, .int .i64 rvis, .bool rdefd, .int .i64 rval, .int .i64 rsize] 43)) w.heap.size 43 #[.string rname, .string rver, .bool rold, .int .i64 rkind, .bool rweak, .int .i64 rvis, .bool rdefd, .int .i64 rval, .int .i64 rsize] := Blk.new _ _ _
  have hx0 := Ext.alloc w (.cells #[.string rname, .string rver, .bool rold, .int .i64 rkind, .bool rweak, .int .i64 rvis, .bool rdefd, .int .i64 rval, .int .i64 rsize] 43)
  generalize w.alloc (.cells #[.string rname, .string rver, .bool rold, .int .i64 rkind, .bool rweak, .int .i64 rvis, .bool rdefd, .int .i64 rval, .int .i64 rsize] 43) = w0 at *
  generalize w.heap.size = rb at *
  refine (awake_any _).mono ?_
  rintro e w1 ⟨rfl, hx1⟩
  have HX1 := Lib.hid (hx0.trans hx1)
  have HR1 := Lib.hid (hx1.blk hrb)
  clear hx0 hx1 hrb
  go_wp2_with fail
  refine (make_any A c l w1 (HX1.out.rdy HA.out) HF.out hl).mono ?_
  rintro e w2 (⟨h, rfl, hx2⟩ | ⟨h, t, rfl, hown, h1, h2, h3⟩)
  · go_wp2
    go_ret
    exact ⟨rfl, (HX1.out.trans hx2).trans (Ext.alloc _ _)⟩
  have hcp := cntN_pos (seenI l).length
  have hbl : t.bs.length = cntN (seenI l).length := by have := congrArg List.length h1; simpa [bksI_len] using this
  have hcl := cntN_le (seenI l).length
  have hsl := seenK_len l l.length
  change (seenI l).length ≤ l.length at hsl
  have HTI := Lib.hid (hown.inn h1 h2 h3 h (by omega))
  have hx12 := hown.x
  have HFM := Lib.hid (HFI.out t _ hcp h1)
  clear hown h1 h2 h3
  obtain ⟨BA, bc, bs, WA, wc, ws, sh⟩ := t
  simp only at hbl HFM
  simp only [Tb.vals] at HFA ⊢
  replace HFA := Lib.hid (HFA.out ⟨BA, bc, bs, WA, wc, ws, sh⟩)
  simp only at HFA
  rw [← hbl] at HFM hcp
  have hb6 : bs.length ≤ 600 := by omega
  obtain ⟨n0, n1, n2, n3, n4, n5, n6, n7, n8⟩ := ((hx12.blk HR1.out).alloc (.cells #[.slice BA bs.length bc, .slice WA ws.length wc, .int .i64 sh] 29)).nine
  clear hbl hcl hsl HFI
  go_wp2_with fail
  have hb4 : Blk (w2.alloc (.cells #[.slice BA bs.length bc, .slice WA ws.length wc, .int .i64 sh] 29)) w2.heap.size 29 #[.slice BA bs.length bc, .slice WA ws.length wc, .int .i64 sh] := Blk.new _ _ _
  have hx3 := Ext.alloc w2 (.cells #[.slice BA bs.length bc, .slice WA ws.length wc, .int .i64 sh] 29)
  generalize w2.alloc (.cells #[.slice BA bs.length bc, .slice WA ws.length wc, .int .i64 sh] 29) = w3 at *
  generalize w2.heap.size = tb at *
  have HX3 := Lib.hid (HX1.out.trans (hx12.trans hx3))
  refine (HFA.out w3 (HTI.out.ext hx3) (HX3.out.rdy HA.out) (by show bs.length < _; omega)).mono ?_
  rintro e w4 ⟨rfl, hx4⟩
  replace n0 := hx4.cell n0
  clear n1 n2 n3 n4 n5 n6 n7 n8
  have t0 : w4.cell? ⟨tb, 0, none⟩ = some (.slice BA bs.length bc) := hx4.cell (hb4.cell 0 rfl)
  have t1 : w4.cell? ⟨tb, 1, none⟩ = some (.slice WA ws.length wc) := hx4.cell (hb4.cell 1 rfl)
  have t2 : w4.cell? ⟨tb, 2, none⟩ = some (.int .i64 sh) := hx4.cell (hb4.cell 2 rfl)
  have HX4 := Lib.hid (HX3.out.trans hx4)
  have HT4 := Lib.hid (HTI.out.ext (hx3.trans hx4))
  have HB4 := Lib.hid (hx4.blk hb4)
  have HR4 := Lib.hid ((hx12.trans (hx3.trans hx4)).blk HR1.out)
  clear hx3 hb4 hx12 HTI HX1 HFA HX3 hx4
  generalize findP ⟨BA, bc, bs, WA, wc, ws, sh⟩ ⟨rname, rver, rold, rkind, rweak, rvis, rdefd, rval, rsize⟩ l = fp at *
  obtain ⟨fi, fn⟩ := fp
  simp only at HFM ⊢
  have HHC : Hid (∀ w', Calls Try.prog 27 #[.string rname] w' fun e w2 => e = .returned (.int .u32 (hashN rname : Nat)) ∧ w' = w2) := Lib.hid (fun w' => (refHash_any rname w' hnr).mono fun e w2 h => ⟨by rw [hhr.1]; exact h.1, h.2⟩)
  have HLK : Hid (∀ w', Ext w4 w' → Calls Try.prog 26 #[.agg #[.slice WA ws.length wc, .int .i64 sh], .int .u32 (hashN rname : Nat)] w' fun e w2 => e = .returned (.bool (lackT ws sh (hashN rname))) ∧ Ext w' w2) :=
    Lib.hid (fun w' hx => rlacks_any WA wc sh ws (hashN rname) w' hhr.2 HT4.out.wfit HT4.out.wlen (hx.rd HT4.out.wrd))
  have hh4 := hhr.2
  clear hhr
  go_wp2_with fail
  have e0 : ∀ u : EW w4, u.w.cell? ⟨tb, 0, none⟩ = some (.slice BA bs.length bc) := fun u => u.cell t0
  have e1 : ∀ u : EW w4, u.w.cell? ⟨tb, 1, none⟩ = some (.slice WA ws.length wc) := fun u => u.cell t1
  have e2 : ∀ u : EW w4, u.w.cell? ⟨tb, 2, none⟩ = some (.int .i64 sh) := fun u => u.cell t2
  have g0 : ∀ u : EW w4, u.w.cell? ⟨rb, 0, none⟩ = some (.string rname) := fun u => u.cell n0
  clear t0 t1 t2 n0
  refine wp_region_ext (by kernel_rfl) (by kernel_rfl) ?_
  repeat (go_big_quiet_step ((first | (go_at_call 27; exact ext_same (HHC.out _)) | (go_at_call 26; exact ext_call (HLK.out _ (EW.ext _))))))
  refine wpQuiet_nil ?_
  rintro w5 ⟨u5, rfl⟩
  have HX5 := Lib.hid u5.ext
  have HX05 := Lib.hid (HX4.out.trans u5.ext)
  generalize u5.w = w5 at *
  clear e0 e1 e2 g0
  cases hlk : lackT ws sh (hashN rname)
  · obtain ⟨hfn, hfi⟩ := HFM.out.2 hlk
    clear HFM hlk HLK
    have HFI := Lib.hid hfi
    have HFN := Lib.hid hfn
    clear hfi hfn
    have hnb : ((hashN rname : Nat) : Int) % (bs.length : Int) = ((hashN rname % bs.length : Nat) : Int) := rfl
    have hqn : hashN rname % bs.length < bs.length := Nat.mod_lt _ (by omega)
    have HNB := Lib.hid hnb
    clear hnb
    generalize hgq : hashN rname % bs.length = q at *
    generalize hashN rname = hr at *
    clear hgq
    have hcu := cntU_le l bs.length q l.length
    go_wp2_with fail
    go_loopw [10, 11] (fun m i wr => ∃ k : Nat, k ≤ l.length ∧ i = .int .i64 k ∧ m = .int .i64 (cntU l bs.length q k : Nat) ∧ Ext w5 wr) (fun _ i _ => l.length - (intOf i).toNat)
    case atStart => exact ⟨0, Nat.zero_le _, rfl, rfl, Ext.refl _⟩
    case round =>
      obtain ⟨k, hk, rfl, rfl, hx⟩ := hrel
      have HX := Lib.hid hx
      have hck := cntU_le l bs.length q k
      have hmore := cntU_succ l bs.length q k
      clear hx
      by_cases hlt : k < l.length
      · obtain ⟨yb, yo, rfl, hyb, hy⟩ := HA.out.nine hlt
        have hgd : l.getD k sym0 = l[k] := by rw [List.getD_eq_getElem?_getD, List.getElem?_eq_getElem hlt]; rfl
        have hft := HF.out _ (List.getElem_mem hlt)
        rw [hgd] at hmore
        clear hgd
        generalize l[k] = d at *
        have HS := Lib.hid (rseen_any d)
        have hhd := hash_lt d.name
        have hnd : d.name.size ≤ maxLen := by have := hft.name; unfold maxLen; omega
        obtain ⟨h0, h1, h2, h3, h4, h5, h6, h7, h8⟩ := hy.ext (HX05.out.trans HX.out)
        obtain ⟨name, ver, old, kind, weak, vis, defd, val, size⟩ := d
        simp only at h0 h1 h2 h3 h4 h5 h6 h7 h8 hmore hhd hnd
        simp only [Sym.vals] at HS
        have HHD : Hid (∀ w', Calls Try.prog 27 #[.string name] w' fun e w2 => e = .returned (.int .u32 (hashN name : Nat)) ∧ w' = w2) := Lib.hid (fun w' => (refHash_any name w' hnd).mono fun e w2 h => ⟨by rw [hhd.1]; exact h.1, h.2⟩)
        have hh5 := hhd.2
        have hw1 : IntKind.u32.wrap (bs.length : Int) = (bs.length : Int) := by rw [IntKind.wrap_u32]; omega
        have hb4' := (HX5.out.trans HX.out).blk HB4.out
        have hr4' := (HX5.out.trans HX.out).blk HR4.out
        have t0 : wr.cell? ⟨tb, 0, none⟩ = some (.slice BA bs.length bc) := hb4'.cell 0 rfl
        have n0 : wr.cell? ⟨rb, 0, none⟩ = some (.string rname) := hr4'.cell 0 rfl
        have e0 : ∀ u : EW wr, u.w.cell? ⟨tb, 0, none⟩ = some (.slice BA bs.length bc) := fun u => u.cell t0
        have e1 : ∀ u : EW wr, u.w.cell? ⟨rb, 0, none⟩ = some (.string rname) := fun u => u.cell n0
        have g0 : ∀ u : EW wr, u.w.cell? ⟨yb, yo + k * 9, none⟩ = some (.string name) := fun u => u.cell h0
        have g1 : ∀ u : EW wr, u.w.cell? ⟨yb, yo + k * 9 + 1, none⟩ = some (.string ver) := fun u => u.cell h1
        have g2 : ∀ u : EW wr, u.w.cell? ⟨yb, yo + k * 9 + 2, none⟩ = some (.bool old) := fun u => u.cell h2
        have g3 : ∀ u : EW wr, u.w.cell? ⟨yb, yo + k * 9 + 3, none⟩ = some (.int .i64 kind) := fun u => u.cell h3
        have g4 : ∀ u : EW wr, u.w.cell? ⟨yb, yo + k * 9 + 4, none⟩ = some (.bool weak) := fun u => u.cell h4
        have g5 : ∀ u : EW wr, u.w.cell? ⟨yb, yo + k * 9 + 5, none⟩ = some (.int .i64 vis) := fun u => u.cell h5
        have g6 : ∀ u : EW wr, u.w.cell? ⟨yb, yo + k * 9 + 6, none⟩ = some (.bool defd) := fun u => u.cell h6
        have g7 : ∀ u : EW wr, u.w.cell? ⟨yb, yo + k * 9 + 7, none⟩ = some (.int .i64 val) := fun u => u.cell h7
        have g8 : ∀ u : EW wr, u.w.cell? ⟨yb, yo + k * 9 + 8, none⟩ = some (.int .i64 size) := fun u => u.cell h8
        clear hy hft hhd hnd t0 n0 h0 h1 h2 h3 h4 h5 h6 h7 h8 hb4' hr4'
        generalize cntU l bs.length q k = m at *
        have hnb2 : ((hashN name : Nat) : Int) % (bs.length : Int) = ((hashN name % bs.length : Nat) : Int) := rfl
        have hqn2 : hashN name % bs.length < bs.length := Nat.mod_lt _ (by omega)
        have HNB2 := Lib.hid hnb2
        clear hnb2
        generalize hashN name % bs.length = q2 at *
        generalize hashN name = hn2 at *
        have hnz : ¬ ((bs.length : Int) = 0) := by omega
        cases hsb : seenB ⟨name, ver, old, kind, weak, vis, defd, val, size⟩
        · rw [hsb] at hmore HS
          have HM := Lib.hid hmore
          clear hsb hmore
          go_wp2_with fail
          refine wp_region_ext (by kernel_rfl) (by kernel_rfl) ?_
          repeat (go_big_quiet_step ((first | (go_at_call 24; exact ext_call (HS.out _)) | (go_at_call 27; first | exact ext_same (HHC.out _) | exact ext_same (HHD.out _)))))
          refine wpQuiet_nil ?_
          rintro w9 ⟨u9, rfl⟩
          go_wp2
          go_roundw
          case rel => exact ⟨k + 1, by omega, by go_num, by rw [HM.out]; rfl, HX.out.trans u9.ext⟩
          case measure => simp [intOf]; omega
        · rw [hsb] at hmore HS
          have HM := Lib.hid hmore
          clear hsb hmore
          have nb1 := HNB.out
          have nb2 := HNB2.out
          go_wp2_with fail
          refine wp_region_ext (by kernel_rfl) (by kernel_rfl) ?_
          repeat (go_big_quiet_step ((first | (go_at_call 24; exact ext_call (HS.out _)) | (go_at_call 27; first | exact ext_same (HHC.out _) | exact ext_same (HHD.out _)))))
          refine wpQuiet_nil ?_
          rintro w9 ⟨u9, rfl⟩
          by_cases hq : q2 = q
          · have hbe : ((q2 : Int) == (q : Int)) = true := by rw [hq]; simp
            have HM1 := Lib.hid (HM.out.trans (by rw [decide_eq_true hq]; rfl : _ = m + 1))
            clear hq nb1 nb2
            go_wp2
            go_roundw
            case rel => exact ⟨k + 1, by omega, by go_num, by rw [HM1.out]; go_num, HX.out.trans u9.ext⟩
            case measure => simp [intOf]; omega
          · have hbe : ((q2 : Int) == (q : Int)) = false := beq_eq_false_iff_ne.mpr (by omega)
            have HM1 := Lib.hid (HM.out.trans (by rw [decide_eq_false hq]; rfl : _ = m))
            clear nb1 nb2
            go_wp2
            go_roundw
            case rel => exact ⟨k + 1, by omega, by go_num, by rw [HM1.out], HX.out.trans u9.ext⟩
            case measure => simp [intOf]; omega
      · have hke : k = l.length := by omega
        subst hke
        clear hmore
        have hfn := HFN.out
        have hfi := HFI.out
        generalize cntU l bs.length q l.length = m at *
        by_cases hz : 0 ≤ fi
        · clear hfi
          go_wp2
          go_ret
          refine ⟨retv ?_, HX05.out.trans HX.out⟩
          first | rfl | (show Value.bool (decide ((fn : Int) ≤ m)) = _; rw [decide_eq_true (by omega)]) | trace_state
        · have hfm : fn = m := by rcases hfi with h | h; exact absurd h hz; exact h
          subst hfm
          clear hfi
          go_wp2
          go_ret
          refine ⟨retv ?_, HX05.out.trans HX.out⟩
          first | rfl | trace_state
  · have hfe := HFM.out.1 hlk
    obtain ⟨rfl, rfl⟩ := Prod.mk.inj hfe
    clear HFM hlk HLK
    go_wp2
    go_ret
    exact ⟨rfl, HX05.out⟩

set_option maxRecDepth 100000 in
theorem lifted_TableLooks (os : Os) (started : os.Started) (H : Type) (enc : TypeId × Value → H) :
    ReturnsInHanded {} Try.checked os 9 .any (Rows.tableLooksSpec.pre6 enc Try.prog Try.f9 Rows.tableLooksRow.domain false) (Rows.tableLooksSpec.post enc Try.prog Try.f9 false true false false) := by
  refine returnsInHanded_of_change_sized (C := Try.checked) own started (by kernel_rfl) Try.func9
    (ChangeSpec.witness6 (enc := enc) (C := Try.checked) false ⟨#[], #[.slice none 0 0, .agg #[.string ByteArray.empty, .string ByteArray.empty, .bool false, .int .i64 0, .bool false, .int .i64 0, .bool false, .int .i64 0, .int .i64 0]], []⟩ 8 (by kernel_rfl) (by kernel_rfl) (by kernel_rfl) (by kernel_rfl)) ?_
  intro W base args ds gs before hval0 hW hcnd hsz0 _
  have hsz : (DataW.weightsEach Try.prog (Try.f9.params.toList ++ Rows.tableLooksSpec.plain.varTypes Try.prog) (ds ++ gs)).all (· ≤ reachBytes) = true := hsz0
  clear hsz0
  have hval : ∀ (j : Nat) t v, Try.f9.params[j]? = some t → args[j]? = some v → Value.okWide Try.prog W .any base t v := hval0
  have hW' := hW
  obtain ⟨p, q, hA0, hV, rfl, hfz, hnd⟩ := hW
  have hA : DataW.TrodAll enc Try.prog W 0 (fun _ => true) true Try.f9.params.toList args.toList ds p := hA0
  rw [Try.params9] at hA hval hsz
  obtain ⟨v0, vs0, d0, ds0, p0, q0, hargs, rfl, rfl, h0, r0⟩ := trodAll_cons hA
  obtain ⟨v1, vs1, d1, ds1, p1, q1, rfl, rfl, rfl, h1, r1⟩ := trodAll_cons r0
  obtain ⟨rfl, rfl, rfl⟩ := trodAll_nil r1
  obtain rfl : args = #[v0, v1] := by cases args; simp_all
  obtain ⟨rfl, rfl⟩ := trodVars_none hV
  have lt0 : ∀ x ∈ p0, x.block < W.heap.size := by obtain ⟨m, hm⟩ := h0; exact DataW.trod_lt m _ _ _ hm
  obtain ⟨x0, hx0⟩ := open_InSyms (hval 0 22 v0 rfl rfl) h0 (light_each (j := 0) hsz rfl rfl)
  have lt1 : ∀ x ∈ p1, x.block < W.heap.size := by obtain ⟨m, hm⟩ := h1; exact DataW.trod_lt m _ _ _ hm
  obtain ⟨x1, hx1⟩ := open_InSym (hval 1 43 v1 rfl rfl) h1 (light_each (j := 1) hsz rfl rfl)
  clear hA0 hval0
  refine (walk_TableLooks v0 v1 x0 x1 W hx0 hx1).mono fun e W' ⟨he, bel⟩ => ?_
  subst he
  exact ⟨_, rfl, _, _, _, [], _, [], hW', trodAll_mk1 (shut_bool Try.underlying4 _), (trodAll_cons_mk (Below.trod laidOut (by kernel_rfl) (of_decide_eq_true (by kernel_rfl)) h0 bel lt0) (trodAll_cons_mk (Below.trod laidOut (by kernel_rfl) (of_decide_eq_true (by kernel_rfl)) h1 bel lt1) trodAll_mk0)), rfl, bel.frame _, fun h => by cases h⟩

theorem over_TableLooks : Rows.tableLooksRow.holds Try.pinned (OpenSpec.ofChange Rows.tableLooksSpec) :=
  OpenClaim.holds_of_wide 9 Try.f9 rfl rfl rfl rfl rfl rfl rfl ⟨rfl, rfl, rfl, rfl, rfl⟩ rfl rfl rfl rfl rfl (by kernel_rfl) Try.func9 (by kernel_rfl)
    (of_decide_eq_true (by kernel_rfl)) (by unfold Func.isWrapper; first | (rw [if_pos (by decide +kernel)]; kernel_rfl) | (rw [if_neg (by decide +kernel)]; exact ⟨rfl, rfl⟩))
    (fun os started H enc _ => lifted_TableLooks os started H enc)

/-- the statement -/
theorem holds_TableLooks : Rows.TableLooksSaid := over_TableLooks
#print axioms holds_TableLooks

end Go.Proofs.Ytejdknmlggdndaa
