/- The document's writer: texts; a piece by the document. -/
import Derived.Test.YtjgghahjcmdnmaaRefW2
namespace Go.Proofs.Ytjgghahjcmdnmaa
open Go.RowKit Pl
set_option linter.unusedVariables false

set_option maxHeartbeats 3200000 in
theorem vtext_any (p : Nat) (st : WS) (v : Value) (S : Option Addr) (scap : Nat) (ss : List ByteArray) (w : World) (h : Vst w p st v) (hS : Rd w S (strs ss)) (hf : ∀ b o, S = some ⟨b, o, none⟩ → 0 < (strs ss).length → ¬ ftp p v b)
    (hlen : st.2.length + 4200 * ss.length ≤ 140737488355328) (hss : ∀ s ∈ ss, s.size ≤ 140737488351232) :
    Calls Try.prog 41 #[.pointer (some ⟨p, 0, none⟩), .slice S ss.length scap] w fun r w' => r = .returned (.tuple #[]) ∧ ∃ v', Vto p w v w' (wtext st (ss.map txt)) v' := by
  obtain ⟨i0, hi0, hz0, hz1, hz2⟩ := info_parts info_u8
  have H := Lib.hid h
  have HS := Lib.hid hS
  have HF := Lib.hid hf
  have HSS := Lib.hid hss
  clear h hS hf hss
  have hl : ss.length ≤ 9223372036854775807 := by omega
  go_enter Try.func41, Try.ntmps41
  go_wp2_with fail
  go_loopw [4] (fun i wr => ∃ (k : Nat) (v' : Value), k ≤ ss.length ∧ i = .int .i64 k ∧ Vto p w v wr (wtext st ((ss.map txt).take k)) v') (fun i _ => ss.length - (intOf i).toNat)
  case atStart =>
    refine ⟨0, v, Nat.zero_le _, rfl, ?_⟩
    rw [List.take_zero]
    exact Vto.refl H.out
  case round =>
    obtain ⟨k, v', hk, rfl, hto⟩ := hrel
    have HRS := Lib.hid (wtext_rest st (ss.map txt) k)
    by_cases hlt : k < ss.length
    · obtain ⟨b, off, rfl, hb, hc⟩ := HS.out.str hlt
      have hnb := HSS.out _ (getD_memI (d := default) hlt)
      have HE := Lib.hid (wtext_snoc st ss hlt)
      have hbl := wtext_len (ss.map txt) k st
      generalize wtext st ((ss.map txt).take k) = sk at *
      generalize ss.getD k default = s at *
      have hcold := hc
      replace hc := hto.chg.cell hc (HF.out b off rfl (by simp [strs]; omega))
      have HNB : Hid (∀ v2 w2 st2, Vto p w v w2 st2 v2 → w2.cell? ⟨b, off + k, none⟩ = some (.string s)) := Lib.hid (fun v2 w2 st2 h2 => h2.chg.cell hcold (HF.out b off rfl (by simp [strs]; omega)))
      clear hcold
      obtain ⟨E, bs⟩ := sk
      have c1 : wr.cell? ⟨p, 1, none⟩ = some (.int .i64 E) := hto.st.blk.cell 1 rfl
      have f1 := hto.st.blk.frozen 1
      simp only at hbl
      by_cases hE : E = 0
      · subst hE
        obtain ⟨A2, cc2, rfl⟩ := hto.st.form
        have c0 : wr.cell? ⟨p, 0, none⟩ = some (.slice A2 bs.length cc2) := hto.st.blk.cell 0 rfl
        have f0 := hto.st.blk.frozen 0
        have HTO := Lib.hid hto
        clear hto
        have hsl : (txt s).length = s.size := by simp [txt]
        by_cases hx : s.size ≤ 4096
        · have HW : Hid (wtext1 (0, bs) (txt s) = (0, bs ++ (digs 2 s.size ++ txt s))) := Lib.hid (by simp [wtext1, hsl, hx])
          have HSL := Lib.hid hsl
          have HD := Lib.hid (fun w => digits_any 2 s.size w (by omega) (by omega))
          have hdl : (digs 2 (s.size : Int)).length ≤ 2 := by rw [digs_length]; exact Nat.le_refl _
          have hbs : bs.length ≤ st.2.length + 4098 * k := hbl
          clear hsl
          generalize digs 2 (s.size : Int) = D at *
          go_wp2_with fail
          go_region_law (first
            | (go_simp; go_at_call 52; refine (HD.out _).mono ?_; rintro e w2 ⟨A5, c5, rfl, hx2, ho2⟩; have d0 := hx2.cell ((Ext.drew _).cell c0))
            | (refine step_app_rd2 rfl _ _ 29 rfl 0 5 i0 (.int .u8 0) 1 Try.underlying29 hi0 hz0 hz1 hz2 rfl (.slice A2 bs.length cc2) bs.length (u8s bs) rfl (Ext.own ((Ext.drew _).trans hx2) HTO.out.st.own) _ _ (u8s D) D.length rfl (u8s_length _) (Rd.of_own ho2) (u8s_one _) (by simp only [maxLen]; omega) (by omega) (Nat.zero_le _) ?_; intro v3 w3 o1 o2 o3; obtain ⟨A3, c3, rfl⟩ := own_slice o1; have ⟨d1, f1⟩ := HTO.out.st.field ((Ext.drew _).trans hx2) o2))
          all_goals
            have hv := HTO.out.trans (HTO.out.st.app (X := D) ((Ext.drew _).trans hx2) _ rfl o1 o2 o3)
            clear o1 o2 o3 d1 f1 ho2 hx2 d0 c0 f0 c1 hc
            generalize w3.setCell _ _ = w4 at *
            have e0 : w4.cell? ⟨p, 0, none⟩ = some (.slice A3 (bs.length + D.length) c3) := hv.st.blk.cell 0 rfl
            have e1 : w4.cell? ⟨b, off + k, none⟩ = some (.string s) := HNB.out _ _ _ hv
            have ho4 : w4.ownsRow 0 5 1 (.slice A3 (bs.length + D.length) c3) (bs.length + D.length) (u8s (bs ++ D)) := by have := hv.st.own; rw [List.length_append] at this; exact this
            have HV := Lib.hid hv
            have HO4 := Lib.hid ho4
            clear hv ho4
            go_wp2_with fail
            go_region_law (refine step_app_str rfl _ _ 29 9 rfl 5 i0 Try.underlying29 Try.underlying9 hi0 hz0 hz1 hz2 (.slice A3 (bs.length + D.length) c3) (bs.length + D.length) (u8s (bs ++ D)) rfl ((Ext.drew _).own HO4.out) s rfl (by omega) ?_; intro v5 w5 q1 q2 q3; obtain ⟨A6, c6, rfl⟩ := own_slice q1; have ⟨d1, f1⟩ := HV.out.st.field (Ext.drew _) q2)
            all_goals
              have hv2 := HV.out.trans (HV.out.st.app (X := txt s) (Ext.drew _) _ (by rw [List.length_append, HSL.out]) q1 q2 q3)
              clear q1 q2 q3 d1 f1 e0 e1
              generalize w5.setCell _ _ = w6 at *
              have HV2 := Lib.hid hv2
              clear hv2 HV HO4
              go_wp2
              go_roundw
              case rel => exact ⟨k + 1, _, by omega, by go_num, by rw [HE.out, HW.out, ← List.append_assoc]; exact HV2.out⟩
              case measure => simp [intOf]; omega
        · have HW : Hid (wtext1 (0, bs) (txt s) = (2, bs)) := Lib.hid (by simp [wtext1, hsl, hx])
          have HR2 := Lib.hid (fun h : (wtext1 (0, bs) (txt s)).1 ≠ 0 => wtext_rest st (ss.map txt) (k + 1) (by rw [HE.out]; exact h))
          clear hsl
          go_wp2
          refine bodyPost_ret (results_none rfl _ _ _) rfl ?_
          exact ⟨rfl, _, by rw [HR2.out (by rw [HW.out]; simp), HE.out, HW.out]; exact HTO.out.trans (HTO.out.st.fault 2)⟩
      · have hE0 : (E == 0) = false := by simp [hE]
        have HW := Lib.hid (HRS.out hE)
        have HTO := Lib.hid hto
        clear hto hE
        go_wp2
        go_end0
        exact ⟨rfl, v', by rw [HW.out]; exact HTO.out⟩
    · rw [show (ss.map txt).take k = ss.map txt from List.take_of_length_le (by simp; omega)] at hto
      have HTO := Lib.hid hto
      clear hto
      go_wp2
      go_end0
      exact ⟨rfl, v', HTO.out⟩

set_option maxHeartbeats 800000 in
theorem model_any (q : Nat) (st : WS) (v : Value) (p : Pc) (w : World) (h : Vst w q st v) (hp : p.In w) (ha : p.Apart (ftp q v)) (hlen : st.2.length + 4200 * p.bulk ≤ 140737488355328) :
    Calls Try.prog 22 #[.pointer (some ⟨q, 0, none⟩), .agg p.vals.toArray] w fun r w' => r = .returned (.tuple #[]) ∧ ∃ v', Vto q w v w' (wput st p) v' := by
  have h1 := letters_len p.ss
  unfold Pc.bulk at hlen
  obtain ⟨kind, size, n, NA, nc, ns, SA, sc, ss, BA, bc, bs⟩ := p
  have HP := Lib.hid hp
  have HA := Lib.hid ha
  have H := Lib.hid h
  clear h hp ha
  simp only at hlen h1
  simp only [Pc.vals]
  by_cases k0 : kind = 0
  · subst k0
    have HR : Hid (wput st ⟨0, size, n, NA, nc, ns, SA, sc, ss, BA, bc, bs⟩ = wnum size st ns) := Lib.hid rfl
    go_enter Try.func22, Try.ntmps22
    go_wp2_with fail
    refine (vnum_any q st v size NA nc ns _ (H.out.ext (Ext.alloc _ _)) ((Ext.alloc _ _).rd HP.out.nr) HP.out.nb HA.out.n HP.out.size (by omega)).mono ?_
    rintro e w1 ⟨rfl, v1, h1⟩
    go_wp2
    go_end0
    exact ⟨rfl, v1, by rw [HR.out]; exact ((Vto.refl H.out).ext (Ext.alloc _ _)).trans h1⟩
  by_cases k1 : kind = 1
  · subst k1
    have HR : Hid (wput st ⟨1, size, n, NA, nc, ns, SA, sc, ss, BA, bc, bs⟩ = wtext st (ss.map txt)) := Lib.hid rfl
    clear k0
    go_enter Try.func22, Try.ntmps22
    go_wp2_with fail
    refine (vtext_any q st v SA sc ss _ (H.out.ext (Ext.alloc _ _)) ((Ext.alloc _ _).rd HP.out.sr) HA.out.s (by omega) HP.out.sb).mono ?_
    rintro e w1 ⟨rfl, v1, h1⟩
    go_wp2
    go_end0
    exact ⟨rfl, v1, by rw [HR.out]; exact ((Vto.refl H.out).ext (Ext.alloc _ _)).trans h1⟩
  by_cases k2 : kind = 2
  · subst k2
    have HR : Hid (wput st ⟨2, size, n, NA, nc, ns, SA, sc, ss, BA, bc, bs⟩ = wblock st bs) := Lib.hid rfl
    clear k0 k1
    go_enter Try.func22, Try.ntmps22
    go_wp2_with fail
    refine (vblock_any q st v BA bc bs _ (H.out.ext (Ext.alloc _ _)) ((Ext.alloc _ _).rd HP.out.br) HA.out.b (by omega)).mono ?_
    rintro e w1 ⟨rfl, v1, h1⟩
    go_wp2
    go_end0
    exact ⟨rfl, v1, by rw [HR.out]; exact ((Vto.refl H.out).ext (Ext.alloc _ _)).trans h1⟩
  by_cases k3 : kind = 3
  · subst k3
    have HR : Hid (wput st ⟨3, size, n, NA, nc, ns, SA, sc, ss, BA, bc, bs⟩ = wraw st bs) := Lib.hid rfl
    clear k0 k1 k2
    go_enter Try.func22, Try.ntmps22
    go_wp2_with fail
    refine (vraw_any q st v BA bc bs _ (H.out.ext (Ext.alloc _ _)) ((Ext.alloc _ _).rd HP.out.br) (fun _ => by omega)).mono ?_
    rintro e w1 ⟨rfl, v1, h1⟩
    go_wp2
    go_end0
    exact ⟨rfl, v1, by rw [HR.out]; exact ((Vto.refl H.out).ext (Ext.alloc _ _)).trans h1⟩
  · have HR : Hid (wput st ⟨kind, size, n, NA, nc, ns, SA, sc, ss, BA, bc, bs⟩ = st) := Lib.hid (by simp [wput, k0, k1, k2, k3])
    have b0 : (kind == 0) = false := by simp [k0]
    have b1 : (kind == 1) = false := by simp [k1]
    have b2 : (kind == 2) = false := by simp [k2]
    have b3 : (kind == 3) = false := by simp [k3]
    clear k0 k1 k2 k3 hlen h1
    go_enter Try.func22, Try.ntmps22
    go_wp2
    go_end0
    exact ⟨rfl, v, by rw [HR.out]; exact (Vto.refl H.out).ext (Ext.alloc _ _)⟩

end Go.Proofs.Ytjgghahjcmdnmaa
