/- Writer.Block, Writer.Text: what they put. -/
import Derived.Test.YtjgghahjcmdnmaaCur3
import Derived.Test.YtjgghahjcmdnmaaConv
namespace Go.Proofs.Ytjgghahjcmdnmaa
open Go.RowKit Pl
set_option linter.unusedVariables false

theorem sized4 : sizedB 4 = true := rfl
theorem sized2 : sizedB 2 = true := rfl

theorem wblock_eq (st : WS) (b : List UInt8) (hl : b.length ≤ 140737488355328) : wblock st b = wraw (wnum 4 (if b.length ≤ 1048576 then st else wfail st 2) [(b.length : Int)]) b := by
  obtain ⟨E, T⟩ := st
  by_cases hE : E = 0
  · subst hE
    by_cases h : b.length ≤ 1048576
    · have hf : fitsB (b.length : Int) 4 = true := by simp [fitsB]; omega
      simp [wblock, wraw, wnum, wnum1, sized4, h, hf, List.append_assoc]
    · simp [wblock, wraw, wnum, wnum1, sized4, h, wfail]
  · by_cases h : b.length ≤ 1048576 <;> simp [wblock, wraw, wnum, wnum1, sized4, wfail, hE, h]

theorem wtext1_eq (st : WS) (s : List UInt8) : wtext1 st s = wraw (wnum 2 (if s.length ≤ 4096 then st else wfail st 2) [((s.length % 4097 : Nat) : Int)]) s := by
  obtain ⟨E, T⟩ := st
  by_cases hE : E = 0
  · subst hE
    by_cases h : s.length ≤ 4096
    · have hm : s.length % 4097 = s.length := Nat.mod_eq_of_lt (by omega)
      have hf : fitsB (s.length : Int) 2 = true := by simp [fitsB]; omega
      simp only [hm]
      simp [wtext1, wraw, wnum, wnum1, sized2, h, hf, List.append_assoc]
    · simp [wtext1, wraw, wnum, wnum1, sized2, h, wfail]
  · by_cases h : s.length ≤ 4096 <;> simp [wtext1, wraw, wnum, wnum1, sized2, wfail, hE, h]

theorem wfail_len (st : WS) (e : Int) : (wfail st e).2.length = st.2.length := by unfold wfail; split <;> rfl
theorem wnum_wfail (st : WS) (e : Int) (ns : List Int) {size : Int} (he : e ≠ 0) : (wnum size (wfail st e) ns).1 ≠ 0 := by
  have h1 : (wfail st e).1 ≠ 0 := by by_cases h : st.1 = 0 <;> simp [wfail, h, he]
  rw [wnum_stuck size ns _ h1]
  exact h1

theorem wnum1_len (size : Int) (hs : sizedB size = true) (st : WS) (n : Int) : (wnum size st [n]).2.length ≤ st.2.length + 8 := by
  have := wnum_len size hs [n] st
  simpa using this

/-- Num of one number that was laid down for it -/
theorem num_one (p : Nat) (st : WS) (v : Value) (size n : Int) (w : World) (h : Wst w p st v) (hn : -9223372036854775808 ≤ n ∧ n ≤ 9223372036854775807) (hsz : -9223372036854775808 ≤ size ∧ size ≤ 9223372036854775807)
    (hlen : st.2.length + 8 ≤ 140737488355328) :
    Calls Try.prog 13 #[.pointer (some ⟨p, 0, none⟩), .int .i64 size, .slice (some ⟨w.heap.size, 0, none⟩) 1 1] (w.alloc (.cells #[.int .i64 n] 3)) fun r w' => r = .returned (.tuple #[]) ∧ ∃ v', Wto p w v w' (wnum size st [n]) v' := by
  have hx := Ext.alloc w (.cells #[.int .i64 n] 3)
  refine (num_any p st v size (some ⟨w.heap.size, 0, none⟩) 1 [n] _ (h.ext hx) ?_ ?_ ?_ hsz (by simpa using hlen)).mono ?_
  · intro i hi
    have : i = 0 := by simpa [ints] using hi
    subst this
    exact ⟨w.heap.size, 0, rfl, cnew w #[.int .i64 n] _ 0 rfl⟩
  · intro m hm
    rw [List.mem_singleton.1 hm]
    exact hn
  · intro b o hb _ hS
    simp only [Option.some.injEq, Addr.mk.injEq] at hb
    have := h.lt b hS
    omega
  · rintro r w' ⟨hr, v', ht⟩
    exact ⟨hr, v', ((Wto.refl h).ext hx).trans ht⟩

theorem block_any (p : Nat) (st : WS) (v : Value) (B : Option Addr) (bcap : Nat) (xs : List UInt8) (w : World) (h : Wst w p st v) (hB : Rd w B (u8s xs)) (hf : ∀ b o, B = some ⟨b, o, none⟩ → 0 < (u8s xs).length → ¬ ftp p v b) (hlen : st.2.length + 8 + xs.length ≤ 140737488355328) :
    Calls Try.prog 30 #[.pointer (some ⟨p, 0, none⟩), .slice B xs.length bcap] w fun r w' => r = .returned (.tuple #[]) ∧ ∃ v', Wto p w v w' (wblock st xs) v' := by
  have HW := Lib.hid (wblock_eq st xs (by omega))
  have hn1 : -9223372036854775808 ≤ (xs.length : Int) ∧ (xs.length : Int) ≤ 9223372036854775807 := by omega
  have HN1 := Lib.hid hn1
  have HLS := Lib.hid (wnum1_len 4 sized4)
  have HLF := Lib.hid (wfail_len st 2)
  have H := Lib.hid h
  have HB := Lib.hid hB
  have HF := Lib.hid hf
  clear h hB hf hn1
  go_enter Try.func30, Try.ntmps30
  by_cases hx : xs.length ≤ 1048576
  · rw [if_pos hx] at HW
    go_wp2_with fail
    refine (num_one p st v 4 _ _ H.out HN1.out (by omega) (by omega)).mono ?_
    rintro e w2 ⟨rfl, v2, h2⟩
    have HL2 := HLS.out st xs.length
    generalize wnum 4 st [(xs.length : Int)] = s2 at *
    go_wp2_with fail
    refine (raw_any p s2 v2 B bcap xs w2 h2.st (h2.chg.rdp HB.out HF.out) (fun _ => by omega)).mono ?_
    rintro e w3 ⟨rfl, v3, h3⟩
    go_wp2
    go_end0
    exact ⟨rfl, v3, by rw [HW.out]; exact h2.trans h3⟩
  · rw [if_neg hx] at HW
    go_wp2_with fail
    refine (fail_any p 0 st v 2 _ H.out).mono ?_
    rintro e w1 ⟨rfl, h1⟩
    have hl1 := HLF.out
    generalize wfail st 2 = s1 at *
    go_wp2_with fail
    refine (num_one p s1 v 4 _ _ h1.st HN1.out (by omega) (by omega)).mono ?_
    rintro e w2 ⟨rfl, v2, h2⟩
    have HL2 := HLS.out s1 xs.length
    generalize wnum 4 s1 [(xs.length : Int)] = s2 at *
    have h12 := h1.trans h2
    go_wp2_with fail
    refine (raw_any p s2 v2 B bcap xs w2 h2.st (h12.chg.rdp HB.out HF.out) (fun _ => by omega)).mono ?_
    rintro e w3 ⟨rfl, v3, h3⟩
    go_wp2
    go_end0
    exact ⟨rfl, v3, by rw [HW.out]; exact h12.trans h3⟩

theorem Rd.str {w : World} {A : Option Addr} {ws : List ByteArray} (h : Rd w A (strs ws)) {i : Nat} (hi : i < ws.length) :
    ∃ b off, A = some ⟨b, off, none⟩ ∧ b < w.heap.size ∧ w.cell? ⟨b, off + i, none⟩ = some (.string (ws.getD i default)) := by
  obtain ⟨b, off, hA, hc⟩ := h i (by simpa [strs] using hi)
  refine ⟨b, off, hA, cell_lt hc, ?_⟩
  rw [hc, List.getD_eq_getElem?_getD, List.getElem?_eq_getElem hi]
  simp [strs]

theorem wtext1_len (st : WS) (s : List UInt8) : (wtext1 st s).2.length ≤ st.2.length + 4098 := by
  unfold wtext1
  split
  · split
    · simp only [List.length_append, digs_length]; omega
    · simp
  · simp

theorem wtext_len (ss : List (List UInt8)) (k : Nat) (st : WS) : (wtext st (ss.take k)).2.length ≤ st.2.length + 4098 * k := by
  induction k with
  | zero => simp [wtext]
  | succ k ih =>
    rcases Nat.lt_or_ge k ss.length with h | h
    · rw [List.take_succ_eq_append_getElem h]
      unfold wtext at *
      rw [List.foldl_append]
      have := wtext1_len ((ss.take k).foldl wtext1 st) ss[k]
      simp only [List.foldl_cons, List.foldl_nil]
      exact Nat.le_trans this (by rw [Nat.mul_succ, ← Nat.add_assoc]; exact Nat.add_le_add_right ih _)
    · rw [List.take_of_length_le (by omega)]
      rw [List.take_of_length_le h] at ih
      omega

theorem wtext_snoc (st : WS) (ss : List ByteArray) {k : Nat} (h : k < ss.length) : wtext st ((ss.map txt).take (k + 1)) = wtext1 (wtext st ((ss.map txt).take k)) (txt (ss.getD k default)) := by
  rw [List.take_succ_eq_append_getElem (by simpa using h)]
  unfold wtext
  rw [List.foldl_append, List.foldl_cons, List.foldl_nil, List.getElem_map, List.getD_eq_getElem?_getD, List.getElem?_eq_getElem h]
  rfl

theorem text_gen (p : Nat) (st : WS) (v : Value) (S : Option Addr) (scap : Nat) (ss : List ByteArray) (w : World) (h : Wst w p st v) (hS : Rd w S (strs ss)) (hf : ∀ b o, S = some ⟨b, o, none⟩ → 0 < (strs ss).length → ¬ ftp p v b)
    (hl : ss.length ≤ 9223372036854775807) (hlen : ∀ k, k < ss.length → (wtext st ((ss.map txt).take k)).2.length + 8 + min (ss.getD k default).size 4096 ≤ 140737488355328) (hss : ∀ s ∈ ss, s.size ≤ 140737488351232) :
    Calls Try.prog 14 #[.pointer (some ⟨p, 0, none⟩), .slice S ss.length scap] w fun r w' => r = .returned (.tuple #[]) ∧ ∃ v', Wto p w v w' (wtext st (ss.map txt)) v' := by
  have H := Lib.hid h
  have HS := Lib.hid hS
  have HF := Lib.hid hf
  have HSS := Lib.hid hss
  have HLEN := Lib.hid hlen
  clear h hS hf hss hlen
  go_enter Try.func14, Try.ntmps14
  go_wp2_with fail
  go_loopw [8] (fun i wr => ∃ (k : Nat) (v' : Value), k ≤ ss.length ∧ i = .int .i64 k ∧ Wto p w v wr (wtext st ((ss.map txt).take k)) v') (fun i _ => ss.length - (intOf i).toNat)
  case atStart =>
    refine ⟨0, v, Nat.zero_le _, rfl, ?_⟩
    rw [List.take_zero]
    exact Wto.refl H.out
  case round =>
    obtain ⟨k, v', hk, rfl, hto⟩ := hrel
    by_cases hlt : k < ss.length
    · obtain ⟨b, off, rfl, hb, hc⟩ := HS.out.str hlt
      have hnb := HSS.out _ (getD_memI (d := default) hlt)
      have HE := Lib.hid (wtext_snoc st ss hlt)
      have hbl := HLEN.out k hlt
      generalize wtext st ((ss.map txt).take k) = sk at *
      generalize ss.getD k default = s at *
      rw [wtext1_eq] at HE
      replace hc := hto.chg.cell hc (HF.out b off rfl (by simp [strs]; omega))
      have hsl : (txt s).length = s.size := by simp [txt]
      rw [hsl, show ((s.size % 4097 : Nat) : Int) = (s.size : Int) % 4097 by omega] at HE
      have HSL := Lib.hid hsl
      have HTO := Lib.hid hto
      clear hto hsl
      have hm0 := Nat.mod_lt s.size (show 0 < 4097 by omega)
      by_cases hx : s.size ≤ 4096
      · rw [if_pos hx] at HE
        go_wp2_with fail
        refine (num_one p sk v' 2 _ _ HTO.out.st (by omega) (by omega) (by omega)).mono ?_
        rintro e w2 ⟨rfl, v2, h2⟩
        have HL2 := wnum1_len 2 sized2 sk ((s.size : Int) % 4097)
        generalize wnum 2 sk [(s.size : Int) % 4097] = s2 at *
        have H2 := Lib.hid (HTO.out.trans h2)
        clear h2 HTO hc
        obtain ⟨c3, w3, hcv, hx3, hs3, hr3⟩ := conv_str w2 s
        have H3 := Lib.hid (H2.out.ext hx3)
        have HR3 := Lib.hid hr3
        clear hx3 hr3 H2
        go_wp2_with fail
        rw [← HSL.out]
        refine (raw_any p s2 v2 _ c3 (txt s) w3 H3.out.st HR3.out (fun _ => by rw [HSL.out]; omega)).mono ?_
        rintro e w4 ⟨rfl, v4, h4⟩
        have H4 := Lib.hid (H3.out.trans h4)
        clear h4 H3 HR3
        go_wp2
        go_roundw
        case rel => exact ⟨k + 1, v4, by omega, by go_num, by rw [HE.out]; exact H4.out⟩
        case measure => simp [intOf]; omega
      · rw [if_neg hx] at HE
        go_wp2_with fail
        refine (fail_any p 0 sk v' 2 _ HTO.out.st).mono ?_
        rintro e w1 ⟨rfl, h1⟩
        have hl1 := wfail_len sk 2
        have HST : Hid ((wnum 2 (wfail sk 2) [(s.size : Int) % 4097]).1 ≠ 0) := Lib.hid (wnum_wfail _ _ _ (by decide))
        generalize wfail sk 2 = s1 at *
        have H1 := Lib.hid (HTO.out.trans h1)
        clear h1 HTO hc
        go_wp2_with fail
        refine (num_one p s1 v' 2 _ _ H1.out.st (by omega) (by omega) (by omega)).mono ?_
        rintro e w2 ⟨rfl, v2, h2⟩
        have HL2 := wnum1_len 2 sized2 s1 ((s.size : Int) % 4097)
        generalize wnum 2 s1 [(s.size : Int) % 4097] = s2 at *
        have H2 := Lib.hid (H1.out.trans h2)
        clear h2 H1
        obtain ⟨c3, w3, hcv, hx3, hs3, hr3⟩ := conv_str w2 s
        have H3 := Lib.hid (H2.out.ext hx3)
        have HR3 := Lib.hid hr3
        clear hx3 hr3 H2
        go_wp2_with fail
        rw [← HSL.out]
        refine (raw_any p s2 v2 _ c3 (txt s) w3 H3.out.st HR3.out (fun h0 => absurd h0 HST.out)).mono ?_
        rintro e w4 ⟨rfl, v4, h4⟩
        have H4 := Lib.hid (H3.out.trans h4)
        clear h4 H3 HR3
        go_wp2
        go_roundw
        case rel => exact ⟨k + 1, v4, by omega, by go_num, by rw [HE.out]; exact H4.out⟩
        case measure => simp [intOf]; omega
    · rw [show (ss.map txt).take k = ss.map txt from List.take_of_length_le (by simp; omega)] at hto
      have HTO := Lib.hid hto
      clear hto
      go_wp2
      go_end0
      exact ⟨rfl, v', HTO.out⟩

theorem text_any (p : Nat) (st : WS) (v : Value) (S : Option Addr) (scap : Nat) (ss : List ByteArray) (w : World) (h : Wst w p st v) (hS : Rd w S (strs ss)) (hf : ∀ b o, S = some ⟨b, o, none⟩ → 0 < (strs ss).length → ¬ ftp p v b)
    (hlen : st.2.length + 4200 * ss.length ≤ 140737488355328) (hss : ∀ s ∈ ss, s.size ≤ 140737488351232) :
    Calls Try.prog 14 #[.pointer (some ⟨p, 0, none⟩), .slice S ss.length scap] w fun r w' => r = .returned (.tuple #[]) ∧ ∃ v', Wto p w v w' (wtext st (ss.map txt)) v' :=
  text_gen p st v S scap ss w h hS hf (by omega) (fun k hk => by have := wtext_len (ss.map txt) k st; omega) hss

end Go.Proofs.Ytjgghahjcmdnmaa
