/- The document's writer: what its methods put. -/
import Derived.Test.YtjgghahjcmdnmaaRefW
namespace Go.Proofs.Ytjgghahjcmdnmaa
open Go.RowKit Pl
set_option linter.unusedVariables false

theorem wnum_rest (size : Int) (st : WS) (ns : List Int) (k : Nat) (h : (wnum size st (ns.take k)).1 ≠ 0) : wnum size st ns = wnum size st (ns.take k) := by
  have e : wnum size st ns = (ns.drop k).foldl (wnum1 size) (wnum size st (ns.take k)) := by
    unfold wnum
    rw [← List.foldl_append, List.take_append_drop]
  rw [e, wnum1_stuck size _ _ h]

theorem vraw_any (p : Nat) (st : WS) (v : Value) (B : Option Addr) (bcap : Nat) (xs : List UInt8) (w : World) (h : Vst w p st v) (hB : Rd w B (u8s xs)) (hlen : st.1 = 0 → st.2.length + xs.length ≤ 140737488355328) :
    Calls Try.prog 43 #[.pointer (some ⟨p, 0, none⟩), .slice B xs.length bcap] w fun r w' => r = .returned (.tuple #[]) ∧ ∃ v', Vto p w v w' (wraw st xs) v' := by
  obtain ⟨i0, hi0, hz0, hz1, hz2⟩ := info_parts info_u8
  obtain ⟨E, T⟩ := st
  have c1 : w.cell? ⟨p, 1, none⟩ = some (.int .i64 E) := h.blk.cell 1 rfl
  obtain ⟨A2, cc2, rfl⟩ := h.form
  have c0 : w.cell? ⟨p, 0, none⟩ = some (.slice A2 T.length cc2) := h.blk.cell 0 rfl
  have hpl : p < w.heap.size := h.blk.lt
  have H := Lib.hid h
  have HB := Lib.hid hB
  clear h hB
  go_enter Try.func43, Try.ntmps43
  by_cases hE : E = 0
  · subst hE
    have hl2 : T.length + xs.length ≤ 140737488355328 := hlen rfl
    go_wp2_with (at_builtin; refine wpList_app_rd2 rfl _ _ 29 rfl 0 5 i0 (.int .u8 0) 1 Try.underlying29 hi0 hz0 hz1 hz2 rfl (.slice A2 T.length cc2) T.length (u8s T) rfl H.out.own B bcap (u8s xs) xs.length rfl (u8s_length xs) HB.out (u8s_one xs) (by simp only [maxLen]; omega) (by omega) (Nat.zero_le _) ?_)
    intro v3 w3 o1 o2 o3
    obtain ⟨A3, c3, rfl⟩ := own_slice o1
    have ⟨d1, f1⟩ := H.out.field (Ext.refl _) o2
    have HN2 := Lib.hid (H.out.app (X := xs) (Ext.refl _) _ rfl o1 o2 o3)
    clear H HB o1 o2 o3 c0 c1 hpl
    go_wp2
    go_end0
    exact ⟨rfl, _, by simpa [wraw] using HN2.out⟩
  · have hE0 : (E == 0) = false := by simp [hE]
    have HW := Lib.hid (wraw_stuck (E, T) xs hE)
    clear hE
    go_wp2
    go_end0
    exact ⟨rfl, _, by rw [HW.out]; exact Vto.refl H.out⟩

/-- bytes of the writer's own are read, or its error -/
def GotV (w : World) (st : WS) (r : Ending) (w' : World) : Prop :=
  ∃ A c, r = .returned (.tuple #[.slice A (wgot st).length c, .int .i64 st.1]) ∧ Ext w w' ∧ Rd w' A (u8s (wgot st))

theorem vbytes_any (p : Nat) (st : WS) (v : Value) (w : World) (h : Vst w p st v) :
    Calls Try.prog 23 #[.pointer (some ⟨p, 0, none⟩)] w fun r w' => GotV w st r w' := by
  obtain ⟨E, T⟩ := st
  have c1 : w.cell? ⟨p, 1, none⟩ = some (.int .i64 E) := h.blk.cell 1 rfl
  obtain ⟨A2, cc2, rfl⟩ := h.form
  have c0 : w.cell? ⟨p, 0, none⟩ = some (.slice A2 T.length cc2) := h.blk.cell 0 rfl
  have H := Lib.hid h
  clear h
  go_enter Try.func23, Try.ntmps23
  by_cases hE : E = 0
  · subst hE
    have HG : Hid (wgot (0, T) = T) := Lib.hid (by simp [wgot])
    go_wp2
    exact bodyPost_ret (v := .tuple #[.slice A2 T.length cc2, .int .i64 0]) (by simp [results, Try.results23, go_sem]) rfl ⟨A2, cc2, by rw [HG.out], Ext.refl _, by rw [HG.out]; exact Rd.of_own H.out.own⟩
  · have hE0 : (E == 0) = false := by simp [hE]
    have hE1 : (E != 0) = true := by simp [hE]
    have HG : Hid (wgot (E, T) = []) := Lib.hid (by simp [wgot, hE])
    clear hE
    go_wp2
    go_region
    go_wp2
    exact bodyPost_ret (v := .tuple #[.slice none 0 0, .int .i64 E]) (by simp [results, Try.results23, go_sem]) rfl ⟨none, 0, by rw [HG.out]; rfl, Ext.drew _, by rw [HG.out]; exact Rd.nil _ _⟩

set_option maxHeartbeats 1600000 in
theorem vblock_any (p : Nat) (st : WS) (v : Value) (B : Option Addr) (bcap : Nat) (xs : List UInt8) (w : World) (h : Vst w p st v) (hB : Rd w B (u8s xs)) (hf : ∀ b o, B = some ⟨b, o, none⟩ → 0 < (u8s xs).length → ¬ ftp p v b) (hlen : st.2.length + 8 + xs.length ≤ 140737488355328) :
    Calls Try.prog 42 #[.pointer (some ⟨p, 0, none⟩), .slice B xs.length bcap] w fun r w' => r = .returned (.tuple #[]) ∧ ∃ v', Vto p w v w' (wblock st xs) v' := by
  obtain ⟨i0, hi0, hz0, hz1, hz2⟩ := info_parts info_u8
  obtain ⟨E, T⟩ := st
  have c1 : w.cell? ⟨p, 1, none⟩ = some (.int .i64 E) := h.blk.cell 1 rfl
  obtain ⟨A2, cc2, rfl⟩ := h.form
  have c0 : w.cell? ⟨p, 0, none⟩ = some (.slice A2 T.length cc2) := h.blk.cell 0 rfl
  have f0 := h.blk.frozen 0
  have f1 := h.blk.frozen 1
  have hpl : p < w.heap.size := h.blk.lt
  have H := Lib.hid h
  have HB := Lib.hid hB
  have HF := Lib.hid hf
  simp only at hlen
  clear h hB hf
  by_cases hE : E = 0
  · subst hE
    by_cases hx : xs.length ≤ 1048576
    · have HW : Hid (wblock (0, T) xs = (0, T ++ (digs 4 xs.length ++ xs))) := Lib.hid (by simp [wblock, hx])
      have HD := Lib.hid (fun w => digits_any 4 xs.length w (by omega) (by omega))
      have hdl : (digs 4 (xs.length : Int)).length ≤ 4 := by rw [digs_length]; exact Nat.le_refl _
      generalize digs 4 (xs.length : Int) = D at *
      go_enter Try.func42, Try.ntmps42
      go_wp2_with fail
      go_region_law (first
        | (go_simp; go_at_call 52; refine (HD.out _).mono ?_; rintro e w2 ⟨A5, c5, rfl, hx2, ho2⟩; have d0 := hx2.cell ((Ext.drew _).cell c0))
        | (refine step_app_rd2 rfl _ _ 29 rfl 0 5 i0 (.int .u8 0) 1 Try.underlying29 hi0 hz0 hz1 hz2 rfl (.slice A2 T.length cc2) T.length (u8s T) rfl (Ext.own ((Ext.drew _).trans hx2) H.out.own) _ _ (u8s D) D.length rfl (u8s_length _) (Rd.of_own ho2) (u8s_one _) (by simp only [maxLen]; omega) (by omega) (Nat.zero_le _) ?_; intro v3 w3 o1 o2 o3; obtain ⟨A3, c3, rfl⟩ := own_slice o1; have ⟨d1, f1⟩ := H.out.field ((Ext.drew _).trans hx2) o2))
      all_goals
        have hv := H.out.app (X := D) ((Ext.drew _).trans hx2) _ rfl o1 o2 o3
        clear o1 o2 o3 d1 f1 ho2 hx2 d0
        generalize w3.setCell _ _ = w4 at *
        have e0 : w4.cell? ⟨p, 0, none⟩ = some (.slice A3 (T.length + D.length) c3) := hv.st.blk.cell 0 rfl
        have ho4 : w4.ownsRow 0 5 1 (.slice A3 (T.length + D.length) c3) (T.length + D.length) (u8s (T ++ D)) := by have := hv.st.own; rw [List.length_append] at this; exact this
        have hb4 : Rd w4 B (u8s xs) := hv.chg.rdp HB.out HF.out
        have HV := Lib.hid hv
        have HO4 := Lib.hid ho4
        have HB4 := Lib.hid hb4
        clear hv ho4 hb4 c0 c1 f0 f1 H HB HF HD
        go_wp2_with (at_builtin; refine wpList_app_rd2 rfl _ _ 29 rfl 0 5 i0 (.int .u8 0) 1 Try.underlying29 hi0 hz0 hz1 hz2 rfl (.slice A3 (T.length + D.length) c3) (T.length + D.length) (u8s (T ++ D)) rfl HO4.out B bcap (u8s xs) xs.length rfl (u8s_length xs) HB4.out (u8s_one xs) (by simp only [maxLen]; omega) (by omega) (Nat.zero_le _) ?_)
        intro v5 w5 q1 q2 q3
        obtain ⟨A6, c6, rfl⟩ := own_slice q1
        have ⟨d1, f1⟩ := HV.out.st.field (Ext.refl _) q2
        have HN5 := Lib.hid (HV.out.trans (HV.out.st.app (X := xs) (Ext.refl _) _ (by rw [List.length_append]) q1 q2 q3))
        clear q1 q2 q3 HV HO4 HB4 e0
        go_wp2
        go_end0
        exact ⟨rfl, _, by rw [HW.out, ← List.append_assoc]; exact HN5.out⟩
    · have HW : Hid (wblock (0, T) xs = (2, T)) := Lib.hid (by simp [wblock, hx])
      go_enter Try.func42, Try.ntmps42
      go_wp2
      refine bodyPost_ret (results_none rfl _ _ _) rfl ?_
      exact ⟨rfl, _, by rw [HW.out]; exact H.out.fault 2⟩
  · have hE0 : (E == 0) = false := by simp [hE]
    have hE1 : (E != 0) = true := by simp [hE]
    have HW : Hid (wblock (E, T) xs = (E, T)) := Lib.hid (by simp [wblock, hE])
    clear hE
    go_enter Try.func42, Try.ntmps42
    go_wp2
    refine bodyPost_ret (results_none rfl _ _ _) rfl ?_
    exact ⟨rfl, _, by rw [HW.out]; exact Vto.refl H.out⟩

theorem wtext_rest (st : WS) (ss : List (List UInt8)) (k : Nat) (h : (wtext st (ss.take k)).1 ≠ 0) : wtext st ss = wtext st (ss.take k) := by
  have e : wtext st ss = (ss.drop k).foldl wtext1 (wtext st (ss.take k)) := by
    unfold wtext
    rw [← List.foldl_append, List.take_append_drop]
  rw [e]
  generalize wtext st (ss.take k) = s at *
  generalize ss.drop k = l
  induction l with
  | nil => rfl
  | cons x r ih => rw [List.foldl_cons, show wtext1 s x = s by simp [wtext1, h]]; exact ih

set_option maxHeartbeats 3200000 in
theorem vnum_any (p : Nat) (st : WS) (v : Value) (size : Int) (N : Option Addr) (ncap : Nat) (ns : List Int) (w : World) (h : Vst w p st v)
    (hN : Rd w N (ints ns)) (hns : ∀ n ∈ ns, -9223372036854775808 ≤ n ∧ n ≤ 9223372036854775807) (hf : ∀ b o, N = some ⟨b, o, none⟩ → 0 < (ints ns).length → ¬ ftp p v b) (hsz : -9223372036854775808 ≤ size ∧ size ≤ 9223372036854775807)
    (hlen : st.2.length + 8 * ns.length ≤ 140737488355328) :
    Calls Try.prog 40 #[.pointer (some ⟨p, 0, none⟩), .int .i64 size, .slice N ns.length ncap] w fun r w' => r = .returned (.tuple #[]) ∧ ∃ v', Vto p w v w' (wnum size st ns) v' := by
  obtain ⟨i0, hi0, hz0, hz1, hz2⟩ := info_parts info_u8
  have hl : ns.length ≤ 9223372036854775807 := by omega
  have HN := Lib.hid hN
  have HNS := Lib.hid hns
  have HF := Lib.hid hf
  clear hN hns hf
  obtain ⟨E, T⟩ := st
  have c1 : w.cell? ⟨p, 1, none⟩ = some (.int .i64 E) := h.blk.cell 1 rfl
  have f1 := h.blk.frozen 1
  have H := Lib.hid h
  clear h
  by_cases hE : E = 0
  · subst hE
    cases hs : sizedB size
    · have HW : Hid (wnum size (0, T) ns = (1, T)) := Lib.hid (by rw [wnum_unsized _ _ _ hs]; rfl)
      have HS := Lib.hid hs
      clear hs
      go_enter Try.func40, Try.ntmps40
      go_wp2_with fail
      refine (rsized_any _ _).mono ?_
      rintro e w1 ⟨rfl, rfl⟩
      rw [HS.out]
      go_wp2_with fail
      have h1 := H.out.fault 1
      generalize w.setCell ⟨p, 1, none⟩ (.int .i64 1) = w1 at *
      have e1 : w1.cell? ⟨p, 1, none⟩ = some (.int .i64 1) := h1.st.blk.cell 1 rfl
      have H1 := Lib.hid h1
      clear h1 c1 f1
      go_loop [6] (fun i => i = .int .i64 0) (fun _ => 0)
      case atStart => exact rfl
      case round =>
        obtain rfl := hrel
        by_cases h0 : 0 < ns.length
        · go_wp2
          go_end0
          exact ⟨rfl, v, by rw [HW.out]; exact H1.out⟩
        · go_wp2
          go_end0
          exact ⟨rfl, v, by rw [HW.out]; exact H1.out⟩
    · have HS := Lib.hid hs
      have hsz2 : 1 ≤ size ∧ size ≤ 8 := by have := sizedB_cases hs; omega
      clear hs hsz
      obtain ⟨z, rfl⟩ := Int.eq_ofNat_of_zero_le (by omega : 0 ≤ size)
      go_enter Try.func40, Try.ntmps40
      go_wp2_with fail
      refine (rsized_any _ _).mono ?_
      rintro e w1 ⟨rfl, rfl⟩
      rw [HS.out]
      go_wp2_with fail
      clear c1 f1
      go_loopw [6] (fun i wr => ∃ (k : Nat) (v' : Value), k ≤ ns.length ∧ i = .int .i64 k ∧ Vto p w v wr (wnum z (0, T) (ns.take k)) v') (fun i _ => ns.length - (intOf i).toNat)
      case atStart =>
        refine ⟨0, v, Nat.zero_le _, rfl, ?_⟩
        rw [List.take_zero, wnum_nil, if_pos HS.out]
        exact Vto.refl H.out
      case round =>
        obtain ⟨k, v', hk, rfl, hto⟩ := hrel
        have HRS := Lib.hid (wnum_rest z (0, T) ns k)
        by_cases hlt : k < ns.length
        · obtain ⟨b, off, rfl, hb, hc⟩ := HN.out.int hlt
          have hts := take_snocI ns k hlt
          have hnb := HNS.out _ (getD_memI (d := 0) hlt)
          have HE := Lib.hid (wnum_snoc z (0, T) (ns.take k) (ns.getD k 0))
          rw [← hts] at HE
          have hbl := wnum_len z HS.out (ns.take k) (0, T)
          rw [List.length_take, Nat.min_eq_left hk] at hbl
          clear hts
          generalize wnum z (0, T) (ns.take k) = sk at *
          generalize ns.getD k 0 = n at *
          replace hc := hto.chg.cell hc (HF.out b off rfl (by simp [ints]; omega))
          obtain ⟨E, bs⟩ := sk
          have c1 : wr.cell? ⟨p, 1, none⟩ = some (.int .i64 E) := hto.st.blk.cell 1 rfl
          have f1 := hto.st.blk.frozen 1
          simp only at hbl
          by_cases hE : E = 0
          · subst hE
            obtain ⟨A2, cc2, rfl⟩ := hto.st.form
            have c0 : wr.cell? ⟨p, 0, none⟩ = some (.slice A2 bs.length cc2) := hto.st.blk.cell 0 rfl
            have HTO := Lib.hid hto
            clear hto
            cases hf : fitsB n z
            · have HW : Hid (wnum1 z (0, bs) n = (10, bs)) := Lib.hid (by simp [wnum1, hf])
              have HFB := Lib.hid hf
              clear hf c0
              go_wp2_with fail
              refine (rfits_any z n HS.out _).mono ?_
              rintro e w2 ⟨rfl, rfl⟩
              rw [HFB.out]
              go_wp2
              go_roundw
              case rel => exact ⟨k + 1, _, by omega, by go_num, by rw [HE.out, HW.out]; exact HTO.out.trans (HTO.out.st.fault 10)⟩
              case measure => simp [intOf]; omega
            · have HW : Hid (wnum1 z (0, bs) n = (0, bs ++ digs z n)) := Lib.hid (by simp [wnum1, hf])
              have HFB := Lib.hid hf
              clear hf
              have HD := Lib.hid (fun w => digits_any z n w (by omega) hnb)
              have hdl : (digs z n).length ≤ 8 := by rw [digs_length]; omega
              have hbs : bs.length ≤ T.length + 8 * k := hbl
              generalize digs z n = D at *
              go_wp2_with fail
              refine (rfits_any z n HS.out _).mono ?_
              rintro e w2 ⟨rfl, rfl⟩
              rw [HFB.out]
              go_wp2_with fail
              go_region_law (first
                | (go_simp; go_at_call 52; refine (HD.out _).mono ?_; rintro e w2 ⟨A5, c5, rfl, hx2, ho2⟩; have d0 := hx2.cell ((Ext.drew _).cell c0))
                | (refine step_app_rd2 rfl _ _ 29 rfl 0 5 i0 (.int .u8 0) 1 Try.underlying29 hi0 hz0 hz1 hz2 rfl (.slice A2 bs.length cc2) bs.length (u8s bs) rfl (Ext.own ((Ext.drew _).trans hx2) HTO.out.st.own) _ _ (u8s D) D.length rfl (u8s_length _) (Rd.of_own ho2) (u8s_one _) (by simp only [maxLen]; omega) (by omega) (Nat.zero_le _) ?_; intro v3 w3 o1 o2 o3; obtain ⟨A3, c3, rfl⟩ := own_slice o1; have ⟨d1, f1⟩ := HTO.out.st.field ((Ext.drew _).trans hx2) o2))
              all_goals
                have hv := HTO.out.trans (HTO.out.st.app (X := D) ((Ext.drew _).trans hx2) _ rfl o1 o2 o3)
                clear o1 o2 o3 d1 f1 ho2 hx2 d0
                generalize w3.setCell _ _ = w4 at *
                have HV := Lib.hid hv
                clear hv
                go_wp2
                go_roundw
                case rel => exact ⟨k + 1, _, by omega, by go_num, by rw [HE.out, HW.out]; exact HV.out⟩
                case measure => simp [intOf]; omega
          · have hE0 : (E == 0) = false := by simp [hE]
            have HW := Lib.hid (HRS.out hE)
            have HTO := Lib.hid hto
            clear hto hE
            go_wp2
            go_end0
            exact ⟨rfl, v', by rw [HW.out]; exact HTO.out⟩
        · rw [show ns.take k = ns from List.take_of_length_le (by omega)] at hto
          have HTO := Lib.hid hto
          clear hto
          go_wp2
          go_end0
          exact ⟨rfl, v', HTO.out⟩
  · have hE0 : (E == 0) = false := by simp [hE]
    have HW : Hid (wnum size (E, T) ns = (E, T)) := Lib.hid (wnum_stuck _ _ _ hE)
    clear hE
    go_enter Try.func40, Try.ntmps40
    go_wp2_with fail
    go_loop [6] (fun i => i = .int .i64 0) (fun _ => 0)
    case atStart => exact rfl
    case round =>
      obtain rfl := hrel
      by_cases h0 : 0 < ns.length
      · go_wp2
        go_end0
        exact ⟨rfl, v, by rw [HW.out]; exact Vto.refl H.out⟩
      · go_wp2
        go_end0
        exact ⟨rfl, v, by rw [HW.out]; exact Vto.refl H.out⟩

end Go.Proofs.Ytjgghahjcmdnmaa
