/- A piece that is read, by the program and by the document. -/
import Derived.Test.YtjgghahjcmdnmaaRefR2
import Derived.Deep.QuietTactic
import Derived.BigQuiet
namespace Go.Proofs.Ytjgghahjcmdnmaa
open Go.RowKit Pl
set_option linter.unusedVariables false

/-- the program's reader and the document's, at once -/
structure RM (w0 w : World) (q : Nat) (st : WS) (A : Option Addr) (c : Nat) (mb : Nat) (sm : WS) (B : Option Addr) (bc : Nat) : Prop where
  r : RF w0 w q st A c
  m : Mst w mb sm B bc
  base : w0.heap.size ≤ mb
  ne : mb ≠ q
  ra : ¬ inB A mb
  bm : ∀ k, inB B k → k < w0.heap.size

theorem RM.toR {w0 w w' : World} {q mb c bc c' : Nat} {st sm st' : WS} {A A' B : Option Addr} (h : RM w0 w q st A c mb sm B bc) (k : Rto q w A w' st' A' c') : RM w0 w' q st' A' c' mb sm B bc :=
  ⟨h.r.to k, h.m.keep k.chg h.ne (fun i hi e => by have := h.bm i hi; have := h.r.base; omega), h.base, h.ne, fun e => h.ra (k.foot _ e), h.bm⟩

theorem RM.toM {w0 w w' : World} {q mb c bc c' : Nat} {st sm sm' : WS} {A B B' : Option Addr} (h : RM w0 w q st A c mb sm B bc) (k : Mto mb w B w' sm' B' c') : RM w0 w' q st A c mb sm' B' c' :=
  ⟨⟨h.r.st.keep k.chg (fun e => h.ne e.symm) (fun i hi e => h.ra (by rw [← e]; exact hi)), h.r.base, h.r.foot, k.chg.ext h.r.ext (fun i e => by rw [e]; exact h.base)⟩, k.st, h.base, h.ne, h.ra, fun i hi => h.bm i (k.foot i hi)⟩

theorem RM.ex {w0 w w' : World} {q mb c bc : Nat} {st sm : WS} {A B : Option Addr} (h : RM w0 w q st A c mb sm B bc) (hx : Ext w w') : RM w0 w' q st A c mb sm B bc :=
  ⟨h.r.ex hx, h.m.ext hx, h.base, h.ne, h.ra, h.bm⟩

/-- what changes lies apart from both -/
theorem RM.keepO {S : Nat → Prop} {w0 w w' : World} {q mb c bc : Nat} {st sm : WS} {A B : Option Addr} (h : RM w0 w q st A c mb sm B bc) (hc : Chg S w w') (h0 : ∀ k, S k → w0.heap.size ≤ k) (h1 : ¬ S q) (h2 : ¬ S mb) (h3 : ∀ k, inB A k → ¬ S k) : RM w0 w' q st A c mb sm B bc :=
  ⟨⟨h.r.st.keep hc h1 h3, h.r.base, h.r.foot, hc.ext h.r.ext h0⟩, h.m.keep hc h2 (fun k hk e => by have := h.bm k hk; have := h0 k e; omega), h.base, h.ne, h.ra, h.bm⟩

theorem num_le {size E : Int} {R : List UInt8} {q : Int × WS} (h : NumTook size E R q) : q.2.2.length ≤ R.length := by
  rcases h with ⟨R', h1, _, _, _, h5⟩ | ⟨_, h2⟩
  · rw [h1, h5]; simp
  · rw [h2]; exact Nat.le_refl _
theorem part_le {z most : Nat} {E : Int} {R : List UInt8} {q : List UInt8 × WS} (h : PartTook z most E R q) : q.2.2.length ≤ R.length := by
  rcases h with ⟨R', h1, _, _, h5⟩ | ⟨_, h2⟩
  · rw [h1, h5]; simp; omega
  · rw [h2]; exact Nat.le_refl _
theorem raw_le {E : Int} {R : List UInt8} {q : List UInt8 × WS} (h : RawTook E R q) : q.2.2.length ≤ R.length := by
  rcases h with ⟨R', h1, _, h5⟩ | ⟨_, h2⟩
  · rw [h1, h5]; simp
  · rw [h2]; exact Nat.le_refl _

/-- one row of the call's own -/
theorem rows_one {w : World} {base : Nat} {A : Option Addr} {n c : Nat} {xs : List Value} (h : w.ownsRow base 5 1 (.slice A n c) n xs) (hn : n ≤ 140737488355312) :
    RowsOk (w.alloc (.cells #[.slice A n c] 29)) w.heap.size [⟨A, n, c⟩] := by
  have hx := Ext.alloc w (.cells #[.slice A n c] 29)
  refine ⟨fun i r hr => ?_, fun i r hr => ?_, fun i j r s hr hs hne => ?_, fun i r hr hb => ?_, Blk.rd (Blk.new _ _ _), by simp⟩
  · match i, hr with
    | 0, hr =>
      simp at hr
      subst hr
      exact ⟨xs, hx.own (own_mono h (Nat.zero_le _))⟩
  · match i, hr with
    | 0, hr =>
      simp at hr
      subst hr
      exact hn
  · have h1 := (List.getElem?_eq_some_iff.1 hr).1
    have h2 := (List.getElem?_eq_some_iff.1 hs).1
    simp at h1 h2
    omega
  · match i, hr with
    | 0, hr =>
      simp at hr
      subst hr
      have := (own_inB h hb).2
      omega

theorem inRows_one {A : Option Addr} {n c b : Nat} (h : InRows [⟨A, n, c⟩] b) : inB A b := by
  obtain ⟨i, r, hr, hb⟩ := h
  match i, hr with
  | 0, hr =>
    simp at hr
    subst hr
    exact hb

theorem rraw_len (n : Int) (st : WS) : (rraw n st).1.length ≤ st.2.length := by
  unfold rraw
  split
  · simp
  · exact rcut_len2 _ _

/-- what take leaves -/
def Took (w0 : World) (q mb : Nat) (R : List UInt8) (e : Ending) (w' : World) : Prop :=
  e = .returned (.bool true) ∧ ∃ (st : WS) (A : Option Addr) (c : Nat) (B : Option Addr) (bc : Nat), RM w0 w' q st A c mb st B bc ∧ st.2.length ≤ R.length

set_option maxRecDepth 100000 in
set_option maxHeartbeats 3200000 in
theorem take_any (w0 : World) (q mb : Nat) (E : Int) (R : List UInt8) (A : Option Addr) (c : Nat) (B : Option Addr) (bc : Nat) (p : Pc) (w : World) (h : RM w0 w q (E, R) A c mb (E, R) B bc) (hp : p.In w) (hl : R.length ≤ 140737488351232) :
    Calls Try.prog 26 #[.pointer (some ⟨q, 0, none⟩), .pointer (some ⟨mb, 0, none⟩), .agg p.vals.toArray] w (Took w0 q mb R) := by
  have hk1 := hp.kind
  have hk2 := hp.size
  have hk3 := hp.n
  obtain ⟨kind, size, n, NA, nc, ns, SA, sc, ss, PA, pcc, bs⟩ := p
  simp only at hk1 hk2 hk3
  simp only [Pc.vals]
  have hqs := h.r.st.blk.lt
  have hms := h.m.blk.lt
  have H := Lib.hid h
  clear h hp
  by_cases k0 : kind = 0
  · subst k0
    go_enter Try.func26, Try.ntmps26
    go_wp2_with fail
    have HBK : Hid (Blk (w.alloc (.cells #[.int .i64 0, .int .i64 size, .int .i64 n, .slice NA ns.length nc, .slice SA ss.length sc, .slice PA bs.length pcc] 44)) w.heap.size 44 #[.int .i64 0, .int .i64 size, .int .i64 n, .slice NA ns.length nc, .slice SA ss.length sc, .slice PA bs.length pcc]) := Lib.hid (Blk.new _ _ _)
    have HX := Lib.hid (Ext.alloc w (.cells #[.int .i64 0, .int .i64 size, .int .i64 n, .slice NA ns.length nc, .slice SA ss.length sc, .slice PA bs.length pcc] 44))
    generalize w.alloc (.cells #[.int .i64 0, .int .i64 size, .int .i64 n, .slice NA ns.length nc, .slice SA ss.length sc, .slice PA bs.length pcc] 44) = wb at *
    have d1 : wb.cell? ⟨w.heap.size, 1, none⟩ = some (.int .i64 size) := HBK.out.cell 1 rfl
    refine (rnum_any q (E, R) A c size wb (H.out.r.st.ext HX.out) hk2).mono ?_
    rintro e w4 ⟨rfl, A4, c4, h4⟩
    have H4 := Lib.hid ((H.out.ex HX.out).toR h4)
    replace d1 := h4.chg.cell d1 (by omega)
    clear h4 H HBK HX
    go_wp2_with fail
    refine (mnum_any mb (E, R) B bc size w4 H4.out.m hk2).mono ?_
    rintro e w5 ⟨rfl, B5, c5, h5⟩
    have H5 := Lib.hid (H4.out.toM h5)
    clear h5 H4 d1
    have HLE := Lib.hid (num_le (rnum_form size E R))
    generalize rnum size (E, R) = rq at *
    obtain ⟨n1, E1, R1⟩ := rq
    simp only at H5 HLE ⊢
    have r0 : w5.cell? ⟨q, 0, none⟩ = some (.int .i64 E1) := H5.out.r.st.blk.cell 0 rfl
    have m0 : w5.cell? ⟨mb, 0, none⟩ = some (.slice B5 R1.length c5) := H5.out.m.blk.cell 0 rfl
    have m1 : w5.cell? ⟨mb, 1, none⟩ = some (.int .i64 E1) := H5.out.m.blk.cell 1 rfl
    go_wp2_with fail
    go_quiet ((first | (go_at_call 33; exact Calls.quiet_of_same ((left_any q _ _ _ _ (H5.out.ex (Ext.drewN _ _)).r.st).mono fun e w' h => ⟨h.1, h.2.symm⟩)) | (go_at_call 27; exact Calls.quiet_of_same ((fault_any q _ _ _ _ (H5.out.ex (Ext.drewN _ _)).r.st).mono fun e w' h => ⟨h.1, h.2.symm⟩)) | (go_at_call 18; exact Calls.quiet_of_same ((end_any q _ _ _ _ (H5.out.ex (Ext.drewN _ _)).r.st).mono fun e w' h => ⟨h.1, h.2.symm⟩)) | (go_at_call 48; exact Calls.quiet_of_same ((mend_any mb _ _ _ _ (H5.out.ex (Ext.drewN _ _)).m).mono fun e w' h => ⟨h.1, h.2.symm⟩))))
    go_wp2
    go_ret
    exact ⟨rfl, (E1, R1), _, _, _, _, H5.out.ex (Ext.drewN _ _), HLE.out⟩
  by_cases k1 : kind = 1
  · subst k1
    clear k0
    go_enter Try.func26, Try.ntmps26
    go_wp2_with fail
    have HBK : Hid (Blk (w.alloc (.cells #[.int .i64 1, .int .i64 size, .int .i64 n, .slice NA ns.length nc, .slice SA ss.length sc, .slice PA bs.length pcc] 44)) w.heap.size 44 #[.int .i64 1, .int .i64 size, .int .i64 n, .slice NA ns.length nc, .slice SA ss.length sc, .slice PA bs.length pcc]) := Lib.hid (Blk.new _ _ _)
    have HX := Lib.hid (Ext.alloc w (.cells #[.int .i64 1, .int .i64 size, .int .i64 n, .slice NA ns.length nc, .slice SA ss.length sc, .slice PA bs.length pcc] 44))
    generalize w.alloc (.cells #[.int .i64 1, .int .i64 size, .int .i64 n, .slice NA ns.length nc, .slice SA ss.length sc, .slice PA bs.length pcc] 44) = wb at *
    refine (rtext_any q (E, R) A c wb (H.out.r.st.ext HX.out)).mono ?_
    rintro e w4 ⟨rfl, A4, c4, h4⟩
    have H4 := Lib.hid ((H.out.ex HX.out).toR h4)
    clear h4 H HBK HX
    go_wp2_with fail
    refine (mtext_any mb (E, R) B bc w4 H4.out.m).mono ?_
    rintro e w5 ⟨rfl, B5, c5, h5⟩
    have H5 := Lib.hid (H4.out.toM h5)
    clear h5 H4
    have HLE := Lib.hid (part_le (rpart_form 2 4096 (.inl rfl) E R))
    generalize rpart 2 4096 (E, R) = rq at *
    obtain ⟨n1, E1, R1⟩ := rq
    simp only at H5 HLE ⊢
    have r0 : w5.cell? ⟨q, 0, none⟩ = some (.int .i64 E1) := H5.out.r.st.blk.cell 0 rfl
    have m0 : w5.cell? ⟨mb, 0, none⟩ = some (.slice B5 R1.length c5) := H5.out.m.blk.cell 0 rfl
    have m1 : w5.cell? ⟨mb, 1, none⟩ = some (.int .i64 E1) := H5.out.m.blk.cell 1 rfl
    go_wp2_with fail
    go_quiet ((first | (go_at_call 33; exact Calls.quiet_of_same ((left_any q _ _ _ _ (H5.out.ex (Ext.drewN _ _)).r.st).mono fun e w' h => ⟨h.1, h.2.symm⟩)) | (go_at_call 27; exact Calls.quiet_of_same ((fault_any q _ _ _ _ (H5.out.ex (Ext.drewN _ _)).r.st).mono fun e w' h => ⟨h.1, h.2.symm⟩)) | (go_at_call 18; exact Calls.quiet_of_same ((end_any q _ _ _ _ (H5.out.ex (Ext.drewN _ _)).r.st).mono fun e w' h => ⟨h.1, h.2.symm⟩)) | (go_at_call 48; exact Calls.quiet_of_same ((mend_any mb _ _ _ _ (H5.out.ex (Ext.drewN _ _)).m).mono fun e w' h => ⟨h.1, h.2.symm⟩))))
    go_wp2
    go_ret
    exact ⟨rfl, (E1, R1), _, _, _, _, H5.out.ex (Ext.drewN _ _), HLE.out⟩
  by_cases k2 : kind = 2
  · subst k2
    clear k0 k1
    go_enter Try.func26, Try.ntmps26
    go_wp2_with fail
    have HBK : Hid (Blk (w.alloc (.cells #[.int .i64 2, .int .i64 size, .int .i64 n, .slice NA ns.length nc, .slice SA ss.length sc, .slice PA bs.length pcc] 44)) w.heap.size 44 #[.int .i64 2, .int .i64 size, .int .i64 n, .slice NA ns.length nc, .slice SA ss.length sc, .slice PA bs.length pcc]) := Lib.hid (Blk.new _ _ _)
    have HX := Lib.hid (Ext.alloc w (.cells #[.int .i64 2, .int .i64 size, .int .i64 n, .slice NA ns.length nc, .slice SA ss.length sc, .slice PA bs.length pcc] 44))
    generalize w.alloc (.cells #[.int .i64 2, .int .i64 size, .int .i64 n, .slice NA ns.length nc, .slice SA ss.length sc, .slice PA bs.length pcc] 44) = wb at *
    have hln := rpart_len 4 1048576 (E, R) (.inr rfl)
    have HLE := Lib.hid (part_le (rpart_form 4 1048576 (.inr rfl) E R))
    refine (rblock_any q (E, R) A c wb (H.out.r.st.ext HX.out)).mono ?_
    rintro e w4 ⟨v4, A4, c4, rfl, ho4, h4⟩
    have HF4 : Hid (∀ k, inB A4 k → inB A k) := Lib.hid h4.foot
    have H4 := Lib.hid ((H.out.ex HX.out).toR h4)
    have hs4 := h4.chg.size
    have hsb := HX.out.size
    have HAW : Hid (∀ k, inB A k → k < w.heap.size) := Lib.hid (fun k hk => (H.out.r.st.ne hk).2)
    have hw0 : w0.heap.size ≤ w.heap.size := H.out.r.ext.size
    clear h4 H HBK HX
    go_wp2_with fail
    refine (mblock_any mb (E, R) B bc w4 H4.out.m).mono ?_
    rintro e w5 ⟨B5, b5, B6, c6, rfl, h5, hr5⟩
    generalize rpart 4 1048576 (E, R) = rq at *
    obtain ⟨n1, E1, R1⟩ := rq
    simp only at ho4 h5 hr5 hln HLE H4 ⊢
    obtain ⟨A3, c3, rfl⟩ := own_slice ho4
    have hmrow : ∀ b, inB A3 b → b ≠ mb := fun b hb e => by have := (own_inB ho4 hb).1; omega
    have ho5 := h5.chg.own ho4 (fun k hk e => hmrow k (by
      obtain ⟨hh1, _⟩ := ho4.2.resolve_left (fun hn => by rw [hn.1] at hk; simp [Value.ownBlock] at hk) |> fun ⟨g, cap, cur, hv, _⟩ => (⟨by
        rw [hv] at hk
        simp only [Value.ownBlock, Option.some.injEq] at hk
        simp only [Value.slice.injEq] at hv
        rw [hv.1]
        exact ⟨0, by rw [hk]⟩, trivial⟩ : inB A3 k ∧ True)
      exact hh1) e)
    have hs5 := h5.chg.size
    have H5 := Lib.hid (H4.out.toM h5)
    have cv1 := conv_bytes w5 A3 c3 n1 (Rd.of_own ho5)
    have cv2 := conv_bytes w5 B5 b5 n1 hr5
    have HO5 := Lib.hid ho5
    clear h5 H4 ho4 ho5 hr5 hmrow
    go_wp2_with fail
    have HX5 := Lib.hid (Ext.alloc w5 (.cells #[.slice A3 n1.length c3] 29))
    refine (owned_any w5.heap.size 1 [⟨A3, n1.length, c3⟩] _ (rows_one HO5.out (by omega))).mono ?_
    rintro e w6 ⟨rfl, h6⟩
    have H6 := Lib.hid ((H5.out.ex HX5.out).keepO h6 (fun k hk => by have := (own_inB HO5.out (inRows_one hk)).1; omega) (fun hk => by have := (own_inB HO5.out (inRows_one hk)).1; omega) (fun hk => by have := (own_inB HO5.out (inRows_one hk)).1; omega)
      (fun k hk hS => by have := (own_inB HO5.out (inRows_one hS)).1; have := HAW.out k (HF4.out k hk); omega))
    clear h6 H5 HX5 HO5 cv1 cv2
    have r0 : w6.cell? ⟨q, 0, none⟩ = some (.int .i64 E1) := H6.out.r.st.blk.cell 0 rfl
    have m0 : w6.cell? ⟨mb, 0, none⟩ = some (.slice B6 R1.length c6) := H6.out.m.blk.cell 0 rfl
    have m1 : w6.cell? ⟨mb, 1, none⟩ = some (.int .i64 E1) := H6.out.m.blk.cell 1 rfl
    go_wp2_with fail
    go_quiet ((first | (go_at_call 33; exact Calls.quiet_of_same ((left_any q _ _ _ _ (H6.out.ex (Ext.drewN _ _)).r.st).mono fun e w' h => ⟨h.1, h.2.symm⟩)) | (go_at_call 27; exact Calls.quiet_of_same ((fault_any q _ _ _ _ (H6.out.ex (Ext.drewN _ _)).r.st).mono fun e w' h => ⟨h.1, h.2.symm⟩)) | (go_at_call 18; exact Calls.quiet_of_same ((end_any q _ _ _ _ (H6.out.ex (Ext.drewN _ _)).r.st).mono fun e w' h => ⟨h.1, h.2.symm⟩)) | (go_at_call 48; exact Calls.quiet_of_same ((mend_any mb _ _ _ _ (H6.out.ex (Ext.drewN _ _)).m).mono fun e w' h => ⟨h.1, h.2.symm⟩))))
    go_wp2
    go_ret
    exact ⟨rfl, (E1, R1), _, _, _, _, H6.out.ex (Ext.drewN _ _), HLE.out⟩
  by_cases k3 : kind = 3
  · subst k3
    clear k0 k1 k2
    go_enter Try.func26, Try.ntmps26
    go_wp2_with fail
    have HBK : Hid (Blk (w.alloc (.cells #[.int .i64 3, .int .i64 size, .int .i64 n, .slice NA ns.length nc, .slice SA ss.length sc, .slice PA bs.length pcc] 44)) w.heap.size 44 #[.int .i64 3, .int .i64 size, .int .i64 n, .slice NA ns.length nc, .slice SA ss.length sc, .slice PA bs.length pcc]) := Lib.hid (Blk.new _ _ _)
    have HX := Lib.hid (Ext.alloc w (.cells #[.int .i64 3, .int .i64 size, .int .i64 n, .slice NA ns.length nc, .slice SA ss.length sc, .slice PA bs.length pcc] 44))
    generalize w.alloc (.cells #[.int .i64 3, .int .i64 size, .int .i64 n, .slice NA ns.length nc, .slice SA ss.length sc, .slice PA bs.length pcc] 44) = wb at *
    have hln := rraw_len n (E, R)
    have HLE := Lib.hid (raw_le (rraw_form n E R))
    have d1 : wb.cell? ⟨w.heap.size, 2, none⟩ = some (.int .i64 n) := HBK.out.cell 2 rfl
    refine (rraw_any q (E, R) A c n wb (H.out.r.st.ext HX.out) (.inr ⟨by simp only; omega, by omega⟩) (by omega)).mono ?_
    rintro e w4 ⟨v4, A4, c4, rfl, ho4, h4⟩
    have HF4 : Hid (∀ k, inB A4 k → inB A k) := Lib.hid h4.foot
    have H4 := Lib.hid ((H.out.ex HX.out).toR h4)
    have hs4 := h4.chg.size
    have hsb := HX.out.size
    have HAW : Hid (∀ k, inB A k → k < w.heap.size) := Lib.hid (fun k hk => (H.out.r.st.ne hk).2)
    have hw0 : w0.heap.size ≤ w.heap.size := H.out.r.ext.size
    replace d1 := h4.chg.cell d1 (by omega)
    clear h4 H HBK HX
    go_wp2_with fail
    refine (mraw_any mb (E, R) B bc n w4 H4.out.m hk3).mono ?_
    rintro e w5 ⟨B5, b5, B6, c6, rfl, h5, hr5⟩
    generalize rraw n (E, R) = rq at *
    obtain ⟨n1, E1, R1⟩ := rq
    simp only at ho4 h5 hr5 hln HLE H4 ⊢
    obtain ⟨A3, c3, rfl⟩ := own_slice ho4
    have hmrow : ∀ b, inB A3 b → b ≠ mb := fun b hb e => by have := (own_inB ho4 hb).1; omega
    have ho5 := h5.chg.own ho4 (fun k hk e => hmrow k (by
      obtain ⟨hh1, _⟩ := ho4.2.resolve_left (fun hn => by rw [hn.1] at hk; simp [Value.ownBlock] at hk) |> fun ⟨g, cap, cur, hv, _⟩ => (⟨by
        rw [hv] at hk
        simp only [Value.ownBlock, Option.some.injEq] at hk
        simp only [Value.slice.injEq] at hv
        rw [hv.1]
        exact ⟨0, by rw [hk]⟩, trivial⟩ : inB A3 k ∧ True)
      exact hh1) e)
    have hs5 := h5.chg.size
    have H5 := Lib.hid (H4.out.toM h5)
    have cv1 := conv_bytes w5 A3 c3 n1 (Rd.of_own ho5)
    have cv2 := conv_bytes w5 B5 b5 n1 hr5
    have HO5 := Lib.hid ho5
    clear h5 H4 ho4 ho5 hr5 hmrow
    go_wp2_with fail
    have HX5 := Lib.hid (Ext.alloc w5 (.cells #[.slice A3 n1.length c3] 29))
    refine (owned_any w5.heap.size 1 [⟨A3, n1.length, c3⟩] _ (rows_one HO5.out (by omega))).mono ?_
    rintro e w6 ⟨rfl, h6⟩
    have H6 := Lib.hid ((H5.out.ex HX5.out).keepO h6 (fun k hk => by have := (own_inB HO5.out (inRows_one hk)).1; omega) (fun hk => by have := (own_inB HO5.out (inRows_one hk)).1; omega) (fun hk => by have := (own_inB HO5.out (inRows_one hk)).1; omega)
      (fun k hk hS => by have := (own_inB HO5.out (inRows_one hS)).1; have := HAW.out k (HF4.out k hk); omega))
    clear h6 H5 HX5 HO5 cv1 cv2
    have r0 : w6.cell? ⟨q, 0, none⟩ = some (.int .i64 E1) := H6.out.r.st.blk.cell 0 rfl
    have m0 : w6.cell? ⟨mb, 0, none⟩ = some (.slice B6 R1.length c6) := H6.out.m.blk.cell 0 rfl
    have m1 : w6.cell? ⟨mb, 1, none⟩ = some (.int .i64 E1) := H6.out.m.blk.cell 1 rfl
    go_wp2_with fail
    go_quiet ((first | (go_at_call 33; exact Calls.quiet_of_same ((left_any q _ _ _ _ (H6.out.ex (Ext.drewN _ _)).r.st).mono fun e w' h => ⟨h.1, h.2.symm⟩)) | (go_at_call 27; exact Calls.quiet_of_same ((fault_any q _ _ _ _ (H6.out.ex (Ext.drewN _ _)).r.st).mono fun e w' h => ⟨h.1, h.2.symm⟩)) | (go_at_call 18; exact Calls.quiet_of_same ((end_any q _ _ _ _ (H6.out.ex (Ext.drewN _ _)).r.st).mono fun e w' h => ⟨h.1, h.2.symm⟩)) | (go_at_call 48; exact Calls.quiet_of_same ((mend_any mb _ _ _ _ (H6.out.ex (Ext.drewN _ _)).m).mono fun e w' h => ⟨h.1, h.2.symm⟩))))
    go_wp2
    go_ret
    exact ⟨rfl, (E1, R1), _, _, _, _, H6.out.ex (Ext.drewN _ _), HLE.out⟩
  · have b0 : (kind == 0) = false := by simp [k0]
    have b1 : (kind == 1) = false := by simp [k1]
    have b2 : (kind == 2) = false := by simp [k2]
    have b3 : (kind == 3) = false := by simp [k3]
    clear k0 k1 k2 k3
    go_enter Try.func26, Try.ntmps26
    go_wp2_with fail
    have HBK : Hid (Blk (w.alloc (.cells #[.int .i64 kind, .int .i64 size, .int .i64 n, .slice NA ns.length nc, .slice SA ss.length sc, .slice PA bs.length pcc] 44)) w.heap.size 44 #[.int .i64 kind, .int .i64 size, .int .i64 n, .slice NA ns.length nc, .slice SA ss.length sc, .slice PA bs.length pcc]) := Lib.hid (Blk.new _ _ _)
    have HX := Lib.hid (Ext.alloc w (.cells #[.int .i64 kind, .int .i64 size, .int .i64 n, .slice NA ns.length nc, .slice SA ss.length sc, .slice PA bs.length pcc] 44))
    generalize w.alloc (.cells #[.int .i64 kind, .int .i64 size, .int .i64 n, .slice NA ns.length nc, .slice SA ss.length sc, .slice PA bs.length pcc] 44) = wb at *
    have H6 := Lib.hid (H.out.ex HX.out)
    have HLE : Hid (R.length ≤ R.length) := Lib.hid (Nat.le_refl _)
    clear H HBK HX
    have r0 : wb.cell? ⟨q, 0, none⟩ = some (.int .i64 E) := H6.out.r.st.blk.cell 0 rfl
    have m0 : wb.cell? ⟨mb, 0, none⟩ = some (.slice B R.length bc) := H6.out.m.blk.cell 0 rfl
    have m1 : wb.cell? ⟨mb, 1, none⟩ = some (.int .i64 E) := H6.out.m.blk.cell 1 rfl
    go_wp2_with fail
    go_quiet ((first | (go_at_call 33; exact Calls.quiet_of_same ((left_any q _ _ _ _ (H6.out.ex (Ext.drewN _ _)).r.st).mono fun e w' h => ⟨h.1, h.2.symm⟩)) | (go_at_call 27; exact Calls.quiet_of_same ((fault_any q _ _ _ _ (H6.out.ex (Ext.drewN _ _)).r.st).mono fun e w' h => ⟨h.1, h.2.symm⟩)) | (go_at_call 18; exact Calls.quiet_of_same ((end_any q _ _ _ _ (H6.out.ex (Ext.drewN _ _)).r.st).mono fun e w' h => ⟨h.1, h.2.symm⟩)) | (go_at_call 48; exact Calls.quiet_of_same ((mend_any mb _ _ _ _ (H6.out.ex (Ext.drewN _ _)).m).mono fun e w' h => ⟨h.1, h.2.symm⟩))))
    go_wp2
    go_ret
    exact ⟨rfl, (E, R), _, _, _, _, H6.out.ex (Ext.drewN _ _), HLE.out⟩

end Go.Proofs.Ytjgghahjcmdnmaa
