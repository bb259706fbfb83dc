/- Owned answers true: the walk. -/
import Derived.Test.YtjgghahjcmdnmaaOwned
namespace Go.Proofs.Ytjgghahjcmdnmaa
open Go.RowKit Pl
set_option linter.unusedVariables false

theorem info_u8s : (Try.prog.info? 29).map (fun i => (i.zero, i.size, i.bytes)) = some (some (.slice none 0 0), 1, 24) := by kernel_rfl

theorem rep_set (m : Value) (ys : List Value) (j : Nat) (h : j < ys.length) : (List.replicate j m ++ ys.drop j).set j m = List.replicate (j + 1) m ++ ys.drop (j + 1) := by
  rw [List.set_append_right _ _ (by simp), List.length_replicate, Nat.sub_self, List.drop_eq_getElem_cons h, List.set_cons_zero, List.replicate_succ', List.append_assoc]
  rfl

theorem Rd.row {w : World} {R : Nat} {rows : List Sl} (h : Rd w (some ⟨R, 0, none⟩) (rows.map Sl.val)) {k : Nat} {r : Sl} (hr : rows[k]? = some r) : w.cell? ⟨R, k, none⟩ = some r.val := by
  obtain ⟨hk, rfl⟩ := List.getElem?_eq_some_iff.1 hr
  obtain ⟨b, off, he, hc⟩ := h k (by simpa using hk)
  simp only [Option.some.injEq, Addr.mk.injEq, and_true] at he
  obtain ⟨rfl, rfl⟩ := he
  rw [Nat.zero_add] at hc
  rw [hc]; simp

set_option maxRecDepth 100000 in
set_option maxHeartbeats 3200000 in
theorem owned_any (R : Nat) (rc : Nat) (rows : List Sl) (w : World) (h0 : RowsOk w R rows) :
    Calls Try.prog 24 #[.slice (some ⟨R, 0, none⟩) rows.length rc] w fun e w' => e = .returned (.bool true) ∧ Chg (InRows rows) w w' := by
  obtain ⟨i0, hi0, hz0, hz1, hz2⟩ := info_parts info_u8
  obtain ⟨i1, hj0, hj1, hj2, hj3⟩ := info_parts info_u8s
  have hfew := h0.few
  have H0 := Lib.hid h0
  clear h0
  go_enter Try.func24, Try.ntmps24
  go_wp2_with fail
  go_loopw [3, 4] (fun l i wr => ∃ (k : Nat) (lv : Value) (xs : List Sl), k ≤ rows.length ∧ lv = l ∧ i = .int .i64 k ∧ OwnSt w wr R rows k lv xs) (fun _ i _ => rows.length - (intOf i).toNat)
  case atStart => exact ⟨0, _, [], Nat.zero_le _, rfl, rfl, OwnSt.start H0.out⟩
  case round =>
    obtain ⟨k, lv, xs, hk, rfl, rfl, hst⟩ := hrel
    obtain ⟨wo, rfl⟩ : ∃ wo, wo = wr := ⟨wr, rfl⟩
    have HST := Lib.hid hst
    clear hst
    by_cases hlt : k < rows.length
    · obtain ⟨r, hr⟩ : ∃ r, rows[k]? = some r := ⟨_, List.getElem?_eq_getElem hlt⟩
      have HR := Lib.hid hr
      obtain ⟨ys, hys⟩ := HST.out.rest k r hr (Nat.le_refl _)
      have hrl := H0.out.len k r hr
      have hyl := hys.1
      rw [Nat.mul_one] at hyl
      have HYS := Lib.hid hys
      have HYL := Lib.hid hyl
      have HFR := Lib.hid (H0.out.far k r hr)
      have hkm : (k : Int) % 250 = (k : Int) := by omega
      clear hys hyl hr
      obtain ⟨A, n, c⟩ := r
      simp only at hrl
      go_wp2_with fail
      go_loopw [6] (fun i wq => ∃ j : Nat, j ≤ n ∧ i = .int .i64 j ∧ wq.ownsRow 0 5 1 (.slice A n c) n (List.replicate j (mark k) ++ ys.drop j) ∧ Chg (inB A) wo wq) (fun i _ => n - (intOf i).toNat)
      case atStart => exact ⟨0, Nat.zero_le _, rfl, by simpa [Sl.val] using HYS.out, Chg.refl _ _⟩
      case round =>
        obtain ⟨j, hj, rfl, ho, hc⟩ := hrel
        have hcr : wo.cell? ⟨R, k, none⟩ = some (.slice A n c) := ((HST.out.rr H0.out).row HR.out)
        replace hcr := hc.cell hcr HFR.out
        by_cases hjn : j < n
        · obtain ⟨g, cap, hv, hg1, hg2, hnc, hcm⟩ := own_at ho (by omega)
          simp only [Value.slice.injEq, true_and] at hv
          obtain ⟨rfl, rfl⟩ := hv
          have hlen : j < (List.replicate j (mark k) ++ ys.drop j).length := by simp [HYL.out]; omega
          have hcc := ho.cellAt j (by omega)
          rw [List.getElem?_eq_getElem hlen] at hcc
          have hff := ho.frozenAt j
          have HE := Lib.hid (rep_set (mark k) ys j (by rw [HYL.out]; exact hjn))
          generalize (List.replicate j (mark k) ++ ys.drop j)[j] = old at *
          have HO := Lib.hid ho
          have HC := Lib.hid hc
          clear ho hc hlen
          go_wp2
          go_roundw
          case rel =>
            refine ⟨j + 1, by omega, by go_num, ?_, HC.out.trans (Chg.set _ _ _ _) (fun b hb => .inl ⟨0, by rw [hb]⟩)⟩
            have := (HO.out.stored j (mark k)).1
            rw [HE.out] at this
            exact this
          case measure => simp [intOf]; omega
        · have hjn' : j = n := by omega
          subst hjn'
          rw [show ys.drop j = [] from List.drop_eq_nil_of_le (by rw [HYL.out]; exact Nat.le_refl _), List.append_nil] at ho
          have HO := Lib.hid ho
          have HC := Lib.hid hc
          clear ho hc
          obtain ⟨w1, rfl⟩ : ∃ w1, w1 = wr := ⟨wr, rfl⟩
          go_wp2_with fail
          go_loopw [7, 8] (fun g i w3 => ∃ (m : Nat) (s : Sl), m ≤ 9 ∧ g = s.val ∧ i = .int .i64 m ∧ s.n = j + m ∧ w3.ownsRow 0 5 1 s.val (j + m) (List.replicate (j + m) (mark k)) ∧ Rd w3 A (List.replicate j (mark k)) ∧
            (∀ b, inB s.A b → inB A b ∨ wo.heap.size ≤ b) ∧ Chg (inB A) wo w3) (fun _ i _ => 9 - (intOf i).toNat)
          case atStart => exact ⟨0, ⟨A, j, c⟩, by omega, rfl, rfl, rfl, HO.out, Rd.of_own HO.out, fun b hb => .inl hb, HC.out⟩
          case round =>
            clear HO HC
            obtain ⟨m, s, hm, rfl, rfl, hsn, ho, hrd, hsf, hc⟩ := hrel
            have hcr : wo.cell? ⟨R, k, none⟩ = some (.slice A j c) := ((HST.out.rr H0.out).row HR.out)
            replace hcr := hc.cell hcr HFR.out
            by_cases hm9 : m < 9
            · have HO := Lib.hid ho
              have HRD := Lib.hid hrd
              have HSF := Lib.hid hsf
              have HC := Lib.hid hc
              have HX : Hid (Ext wr (wr.alloc (.cells #[mark k] 5))) := Lib.hid (Ext.alloc _ _)
              have HN : Hid ((wr.alloc (.cells #[mark k] 5)).cell? ⟨wr.heap.size, 0, none⟩ = some (mark k)) := Lib.hid (cnew _ _ _ 0 rfl)
              have hws : (wr.alloc (.cells #[mark k] 5)).heap.size = wr.heap.size + 1 := by simp
              have HWS := Lib.hid hws
              clear ho hrd hsf hc hcr hws
              go_wp2_with (at_builtin; refine wpList_app_keep rfl _ _ 29 rfl 5 i0 (.int .u8 0) 1 Try.underlying29 hi0 hz0 hz1 hz2 rfl s.val (j + m) (List.replicate (j + m) (mark k)) rfl (HX.out.own HO.out) wr.heap.size 1 (mark k) rfl HN.out rfl ?c1 ?c2 ?_)
              case c1 => simp only [maxLen]; omega
              case c2 => omega
              intro v3 w3 o1 o2 o3 o4
              have hx3 : Chg (inB A) wo w3 := by
                refine (HC.out.trans (Chg.of_ext HX.out) (fun b hb => .inl hb)).trans (Chg.grown o2) (fun b hb => ?_)
                exact HSF.out b ((own_inBv HO.out b).2 hb.symm)
              have hr3 : Rd w3 A (List.replicate j (mark k)) := by
                intro i hi
                obtain ⟨b, off, hA, hc⟩ := HRD.out i hi
                rw [List.length_replicate] at hi
                obtain ⟨xs', hxs'⟩ : ∃ xs', wo.ownsRow 0 5 1 (Sl.val ⟨A, j, c⟩) j xs' := HST.out.rest k _ HR.out (Nat.le_refl _)
                have hoff : off = 0 := by
                  rcases hxs'.2 with ⟨hv, _⟩ | ⟨g, cap, cur, hv, _⟩
                  · simp [Sl.val, hA] at hv
                  · simp [Sl.val, hA] at hv; exact hv.1.2
                refine ⟨b, off, hA, ?_⟩
                rw [o4 b (off + i) (by have := cell_lt hc; omega) (.inr (by omega))]
                exact HX.out.cell hc
              have hs3 : ∀ b, v3.ownBlock = some b → inB A b ∨ wo.heap.size ≤ b := by
                intro b hb
                rcases o3 with e | e
                · exact HSF.out b ((own_inBv HO.out b).2 (e ▸ hb))
                · rw [e] at hb
                  injection hb with hb
                  have := HC.out.size
                  exact .inr (by omega)
              obtain ⟨s3, rfl, hsn3⟩ := own_sl o1
              rw [← List.replicate_succ'] at o1
              have O1 := Lib.hid o1
              have HX3 := Lib.hid hx3
              have HR3 := Lib.hid hr3
              have HS3 : Hid (∀ b, inB s3.A b → inB A b ∨ wo.heap.size ≤ b) := Lib.hid (fun b hb => hs3 b ((own_inBv o1 b).1 hb))
              clear o1 o2 o3 o4 hx3 hr3 hs3 HX HN HWS HO HRD HSF HC
              go_wp2
              go_roundw
              case rel => exact ⟨m + 1, s3, by omega, rfl, by go_num, by omega, O1.out, HR3.out, HS3.out, HX3.out⟩
              case measure => simp [intOf]; omega
            · obtain rfl : m = 9 := by omega
              obtain ⟨SA, sn, sc⟩ := s
              simp only [Sl.val] at ho hsn hsf ⊢
              have HO := Lib.hid ho
              have HRD := Lib.hid hrd
              have HSF := Lib.hid hsf
              have HC := Lib.hid hc
              have HSN := Lib.hid hsn
              have hrlt : ∀ b, inB A b → b < wo.heap.size := fun b hb => by
                have := H0.out.lt ⟨k, _, HR.out, hb⟩
                have := HST.out.chg.size
                omega
              have HLO : Hid (wr.ownsRow 0 29 1 lv (2 * k) (xs.map Sl.val)) := Lib.hid (hc.own HST.out.own (fun b e hb => by
                have := H0.out.lt ⟨k, _, HR.out, hb⟩
                have := HST.out.lvw b e
                omega))
              have HX : Hid (Ext wr (wr.alloc (.cells #[Value.slice SA sn sc, .slice A j c] 29))) := Lib.hid (Ext.alloc _ _)
              have HN : Hid (Rd (wr.alloc (.cells #[Value.slice SA sn sc, .slice A j c] 29)) (some ⟨wr.heap.size, 0, none⟩) [Value.slice SA sn sc, .slice A j c]) := Lib.hid (Blk.rd (Blk.new _ _ _))
              clear ho hrd hsf hc hsn
              go_wp2_with (at_builtin; refine wpList_app_rd2 rfl _ _ 50 rfl 0 29 i1 (.slice none 0 0) 24 Try.underlying50 hj0 hj1 hj2 hj3 rfl lv (2 * k) (xs.map Sl.val) rfl (HX.out.own HLO.out) (some ⟨wr.heap.size, 0, none⟩) 2 [Value.slice SA sn sc, .slice A j c] 2 rfl rfl HN.out (fun u hu => by rcases List.mem_cons.1 hu with rfl | hu; rfl; rw [List.mem_singleton.1 hu]; rfl) ?c1 ?c2 (Nat.zero_le _) ?_)
              case c1 => simp only [maxLen]; omega
              case c2 => omega
              intro v4 w4 o1 o2 o3
              have hws : (wr.alloc (.cells #[Value.slice SA sn sc, .slice A j c] 29)).heap.size = wr.heap.size + 1 := by simp
              have hnx : OwnSt w w4 R rows (k + 1) v4 (xs ++ [⟨SA, sn, sc⟩, ⟨A, j, c⟩]) := by
                refine HST.out.next (w1 := wr.alloc (.cells #[Value.slice SA sn sc, .slice A j c] 29)) H0.out HR.out (HC.out.trans (Chg.of_ext HX.out) (fun b hb => .inl hb)) HSN.out (HX.out.rd ?_) (HX.out.rd HRD.out) (fun b hb => ?_) o1 o2 ?_
                · show Rd wr SA (List.replicate sn (mark k)); have h1 := HSN.out; subst h1; exact Rd.of_own HO.out
                · have h1 := (HO.out.lt b ((own_inBv (s := ⟨SA, sn, sc⟩) HO.out b).1 hb)).2
                  rw [hws]
                  exact ⟨by omega, HSF.out b hb⟩
                · rcases o3 with e | e
                  · exact .inl e
                  · exact .inr ⟨_, e, by rw [hws]; exact Nat.le_refl _⟩
              have HNX := Lib.hid hnx
              clear o1 o2 o3 hnx HX HN HLO HO HRD HSF HC HSN hws
              go_wp2
              go_roundw
              case rel => exact ⟨k + 1, v4, _, by omega, rfl, by go_num, HNX.out⟩
              case measure => simp [intOf]; omega
    · have hkn : k = rows.length := by omega
      subst hkn
      obtain ⟨ls, rfl, hls⟩ := own_sl HST.out.own
      obtain ⟨LA, ln, lc⟩ := ls
      simp only at hls
      subst hls
      simp only [Sl.val]
      have HLR := Lib.hid (Rd.of_own HST.out.own)
      have HXL := Lib.hid HST.out.len
      go_wp2_with fail
      go_loop [9] (fun i => ∃ q : Nat, q ≤ 2 * rows.length ∧ i = .int .i64 q) (fun i => 2 * rows.length - (intOf i).toNat)
      case atStart => exact ⟨0, Nat.zero_le _, rfl⟩
      case round =>
        obtain ⟨q, hq, rfl⟩ := hrel
        by_cases hlt : q < 2 * rows.length
        · obtain ⟨s, hs⟩ : ∃ s, xs[q]? = some s := ⟨_, List.getElem?_eq_getElem (by rw [HXL.out]; exact hlt)⟩
          obtain ⟨hsn, hsr, _⟩ := HST.out.mks q s hs
          obtain ⟨lb, lo, hla, hlc⟩ := HLR.out q (by rw [List.length_map, HXL.out]; exact hlt)
          simp only [List.getElem_map] at hlc
          rw [show xs[q]'(by rw [HXL.out]; exact hlt) = s from (List.getElem?_eq_some_iff.1 hs).2] at hlc
          subst hla
          obtain ⟨SA, sn, sc⟩ := s
          simp only [Sl.val] at hsn hsr hlc
          have HSR := Lib.hid hsr
          have hq2 : (q : Int) / 2 % 250 = ((q / 2 : Nat) : Int) := by omega
          have hq3 : q / 2 < 200 := by omega
          clear hs hsr
          go_wp2_with fail
          go_loop [10] (fun i => ∃ j : Nat, j ≤ sn ∧ i = .int .i64 j) (fun i => sn - (intOf i).toNat)
          case atStart => exact ⟨0, Nat.zero_le _, rfl⟩
          case round =>
            obtain ⟨j, hj, rfl⟩ := hrel
            by_cases hjn : j < sn
            · obtain ⟨sb, so, rfl, hsc⟩ := HSR.out j (by rw [List.length_replicate]; exact hjn)
              rw [List.getElem_replicate] at hsc
              simp only [mark] at hsc
              go_wp2
              go_round
              case rel => exact ⟨j + 1, by omega, by go_num⟩
              case measure => simp [intOf]; omega
            · go_wp2
              go_round
              case rel => exact ⟨q + 1, by omega, by go_num⟩
              case measure => simp [intOf]; omega
        · go_wp2
          go_ret
          exact ⟨rfl, HST.out.chg⟩

end Go.Proofs.Ytjgghahjcmdnmaa
