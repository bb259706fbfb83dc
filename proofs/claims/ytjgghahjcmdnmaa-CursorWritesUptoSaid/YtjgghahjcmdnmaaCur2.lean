/- Writer.Num: what it puts. -/
import Derived.Test.YtjgghahjcmdnmaaCur1
import Derived.Deep.RegionLaw
import Derived.Deep.DeepCutAuto
namespace Go.Proofs.Ytjgghahjcmdnmaa
open Go.RowKit Pl
set_option linter.unusedVariables false

/-- an append in a region that draws its order -/
theorem step_app_rd2 {P : Program} {w : World} {ops : Array Oper} {o : Oper} {a : Act} {K : Act → World → Prop} {Q : Exit → Act → World → Prop} {E : Prop} (hgd : o.guard = none) (s x : Operand) (t : TypeId)
    (ho : o.op = .call { callee := .builtin .append, args := #[s, x], argTypes := #[t, t] })
    (base : Nat) (e : TypeId) (i : TypeInfo) (z : Value) (bytes : Nat) (ht : P.underlying t = some (.slice e)) (hi : P.info? e = some i) (hz : i.zero = some z)
    (hsize : i.size = 1) (hby : i.bytes = bytes) (hzs : z.cells.size = 1)
    (v : Value) (n : Nat) (xs : List Value) (hs : a.eval s = v) (hown : w.ownsRow base e 1 v n xs)
    (A : Option Addr) (c : Nat) (news : List Value) (m : Nat) (hx : a.eval x = .slice A m c) (hm : news.length = m) (hr : Rd w A news) (h1 : ∀ u ∈ news, u.oneCell' = true)
    (h63 : n + m ≤ maxLen) (hbytes : (n + m) * bytes ≤ 140737488355328) (hbase : base ≤ w.heap.size)
    (h : ∀ v' w', w'.ownsRow base e 1 v' (n + m) (xs ++ news) → w.grownBy w' v.ownBlock → (v'.ownBlock = v.ownBlock ∨ v'.ownBlock = some w.heap.size) → K (a.put o.dst v') w') :
    if Region.wanted o (yielded ops a.tmps) = true then Oper.wp P o a w K Q else E := by
  have hw : Region.wanted o (yielded ops a.tmps) = true := by simp [Region.wanted, hgd]
  rw [if_pos hw]
  exact wp_app_rd2 s x t ho base e i z bytes ht hi hz hsize hby hzs v n xs hs hown A c news m hx hm hr h1 h63 hbytes hbase h

theorem wnum_nil (size : Int) (st : WS) : wnum size st [] = (if sizedB size then st else wfail st 1) := rfl
theorem wnum_snoc (size : Int) (st : WS) (ns : List Int) (n : Int) : wnum size st (ns ++ [n]) = wnum1 size (wnum size st ns) n := by simp [wnum]

theorem wnum1_stuck (size : Int) (ns : List Int) : ∀ st : WS, st.1 ≠ 0 → ns.foldl (wnum1 size) st = st := by
  intro st h
  induction ns with
  | nil => rfl
  | cons n ns ih => rw [List.foldl_cons]; simpa [wnum1, h] using ih

theorem wnum_unsized (size : Int) (st : WS) (ns : List Int) (h : sizedB size = false) : wnum size st ns = wfail st 1 := by
  unfold wnum
  rw [h]
  exact wnum1_stuck size ns _ (by by_cases h0 : st.1 = 0 <;> simp [wfail, h0])

theorem wnum_stuck (size : Int) (ns : List Int) : ∀ st : WS, st.1 ≠ 0 → wnum size st ns = st := by
  intro st h
  have h0 : (if sizedB size then st else wfail st 1) = st := by
    split
    · rfl
    · simp [wfail, h]
  unfold wnum
  rw [h0]
  induction ns with
  | nil => rfl
  | cons n ns ih => rw [List.foldl_cons]; simpa [wnum1, h] using ih

theorem wnum_len (size : Int) (hs : sizedB size = true) (ns : List Int) : ∀ st : WS, (wnum size st ns).2.length ≤ st.2.length + 8 * ns.length := by
  unfold wnum
  rw [hs]
  simp only [if_true]
  induction ns with
  | nil => intro st; simp
  | cons n ns ih =>
    intro st
    rw [List.foldl_cons]
    have h1 := ih (wnum1 size st n)
    have h2 : (wnum1 size st n).2.length ≤ st.2.length + 8 := by
      unfold wnum1
      split
      · split
        · have := sizedB_cases hs
          simp [digs_length]; omega
        · simp
      · simp
    simp only [List.length_cons]
    omega

theorem take_snocI (l : List Int) (k : Nat) (h : k < l.length) : l.take (k + 1) = l.take k ++ [l.getD k 0] := by
  rw [List.take_succ_eq_append_getElem h, List.getD_eq_getElem?_getD, List.getElem?_eq_getElem h]; rfl

theorem Rd.int {w : World} {A : Option Addr} {ws : List Int} (h : Rd w A (ints ws)) {i : Nat} (hi : i < ws.length) :
    ∃ b off, A = some ⟨b, off, none⟩ ∧ b < w.heap.size ∧ w.cell? ⟨b, off + i, none⟩ = some (.int .i64 (ws.getD i 0)) := by
  obtain ⟨b, off, hA, hc⟩ := h i (by simpa [ints] using hi)
  refine ⟨b, off, hA, cell_lt hc, ?_⟩
  rw [hc, List.getD_eq_getElem?_getD, List.getElem?_eq_getElem hi]
  simp [ints]

theorem getD_memI {α : Type} {d : α} {l : List α} {i : Nat} (h : i < l.length) : l.getD i d ∈ l := by
  rw [List.getD_eq_getElem?_getD, List.getElem?_eq_getElem h]; exact List.getElem_mem _

set_option maxHeartbeats 3200000 in
theorem num_any (p : Nat) (st : WS) (v : Value) (size : Int) (N : Option Addr) (ncap : Nat) (ns : List Int) (w : World) (h : Wst w p st v)
    (hN : Rd w N (ints ns)) (hns : ∀ n ∈ ns, -9223372036854775808 ≤ n ∧ n ≤ 9223372036854775807) (hf : ∀ b o, N = some ⟨b, o, none⟩ → 0 < (ints ns).length → ¬ ftp p v b) (hsz : -9223372036854775808 ≤ size ∧ size ≤ 9223372036854775807)
    (hlen : st.2.length + 8 * ns.length ≤ 140737488355328) :
    Calls Try.prog 13 #[.pointer (some ⟨p, 0, none⟩), .int .i64 size, .slice N ns.length ncap] w fun r w' => r = .returned (.tuple #[]) ∧ ∃ v', Wto p w v w' (wnum size st ns) v' := by
  obtain ⟨i0, hi0, hz0, hz1, hz2⟩ := info_parts info_u8
  have H := Lib.hid h
  have HN := Lib.hid hN
  have HNS := Lib.hid hns
  have HF := Lib.hid hf
  clear h hN hns hf
  go_enter Try.func13, Try.ntmps13
  go_wp2_with fail
  refine (sized_any _ _).mono ?_
  rintro e w1 ⟨rfl, rfl⟩
  cases hs : sizedB size
  · have HW := Lib.hid (wnum_unsized size st ns hs)
    clear hs
    go_wp2_with fail
    refine (fail_any p 0 st v 1 _ H.out).mono ?_
    rintro e w1 ⟨rfl, h1⟩
    have hE : (wfail st 1).1 ≠ 0 := by by_cases h0 : st.1 = 0 <;> simp [wfail, h0]
    generalize hs1 : wfail st 1 = s1 at *
    have c0 : w1.cell? ⟨p, 0, none⟩ = some (.int .i64 s1.1) := h1.st.blk.cell 0 rfl
    have hE0 : (s1.1 == 0) = false := by simp [hE]
    have RN := Lib.hid (h1.chg.rdp HN.out HF.out)
    have H1 := Lib.hid h1
    clear h1 hE
    have hl : ns.length ≤ 9223372036854775807 := by omega
    go_wp2_with fail
    go_loop [18] (fun i => ∃ k : Nat, k ≤ ns.length ∧ i = .int .i64 k) (fun i => ns.length - (intOf i).toNat)
    case atStart => exact ⟨0, Nat.zero_le _, rfl⟩
    case round =>
      obtain ⟨k, hk, rfl⟩ := hrel
      by_cases hlt : k < ns.length
      · obtain ⟨b, off, rfl, hb, hc⟩ := RN.out.int hlt
        go_wp2_with fail
        refine (sound_any p _ _ c0).mono ?_
        rintro e w2 ⟨rfl, rfl⟩
        rw [hE0]
        go_wp2_with fail
        go_loop [8] (fun i => i = .int .i64 0) (fun _ => 0)
        case atStart => exact rfl
        case round =>
          obtain rfl := hrel
          by_cases hs0 : 0 < size
          · go_wp2_with fail
            refine (sound_any p _ _ c0).mono ?_
            rintro e w2 ⟨rfl, rfl⟩
            rw [hE0]
            go_wp2
            go_round
            case rel => exact ⟨k + 1, by omega, by go_num⟩
            case measure => simp [intOf]; omega
          · go_wp2
            go_round
            case rel => exact ⟨k + 1, by omega, by go_num⟩
            case measure => simp [intOf]; omega
      · go_wp2
        go_end0
        exact ⟨rfl, v, by rw [HW.out]; exact H1.out⟩
  · have hl : ns.length ≤ 9223372036854775807 := by omega
    have HS := Lib.hid hs
    have hsz2 : 1 ≤ size ∧ size ≤ 8 := by have := sizedB_cases hs; omega
    clear hs hsz
    obtain ⟨z, rfl⟩ := Int.eq_ofNat_of_zero_le (by omega : 0 ≤ size)
    go_wp2_with fail
    go_loopw [18] (fun i wr => ∃ (k : Nat) (v' : Value), k ≤ ns.length ∧ i = .int .i64 k ∧ Wto p w v wr (wnum z st (ns.take k)) v') (fun i _ => ns.length - (intOf i).toNat)
    case atStart =>
      refine ⟨0, v, Nat.zero_le _, rfl, ?_⟩
      rw [List.take_zero, wnum_nil, if_pos HS.out]
      exact Wto.refl H.out
    case round =>
      obtain ⟨k, v', hk, rfl, hto⟩ := hrel
      by_cases hlt : k < ns.length
      · obtain ⟨b, off, rfl, hb, hc⟩ := HN.out.int hlt
        have hts := take_snocI ns k hlt
        have hnb := HNS.out _ (getD_memI (d := 0) hlt)
        have HE := Lib.hid (wnum_snoc z st (ns.take k) (ns.getD k 0))
        rw [← hts] at HE
        have hbl := wnum_len z HS.out (ns.take k) st
        rw [List.length_take, Nat.min_eq_left hk] at hbl
        clear hts
        generalize wnum z st (ns.take k) = sk at *
        generalize ns.getD k 0 = n at *
        replace hc := hto.chg.cell hc (HF.out b off rfl (by simp [ints]; omega))
        obtain ⟨E, bs⟩ := sk
        have c0 : wr.cell? ⟨p, 0, none⟩ = some (.int .i64 E) := hto.st.blk.cell 0 rfl
        have HTO := Lib.hid hto
        clear hto
        by_cases hE : E = 0
        · subst hE
          go_wp2_with fail
          refine (sound_any p _ _ c0).mono ?_
          rintro e w2 ⟨rfl, rfl⟩
          go_wp2_with fail
          refine (fits_any n z HS.out _).mono ?_
          rintro e w2 ⟨rfl, rfl⟩
          cases hf : fitsB n z
          · have HW : Hid (wnum1 z (0, bs) n = (10, bs)) := Lib.hid (by simp [wnum1, hf])
            clear hf
            go_wp2_with fail
            refine (fail_any p 0 _ v' 10 _ HTO.out.st).mono ?_
            rintro e w2 ⟨rfl, h2⟩
            have hwf : wfail (0, bs) 10 = (10, bs) := rfl
            rw [hwf] at h2
            clear hwf c0
            have c0 : w2.cell? ⟨p, 0, none⟩ = some (.int .i64 10) := h2.st.blk.cell 0 rfl
            have H2 := Lib.hid h2
            clear h2
            go_wp2_with fail
            go_loop [8] (fun i => i = .int .i64 0) (fun _ => 0)
            case atStart => exact rfl
            case round =>
              obtain rfl := hrel
              go_wp2_with fail
              refine (sound_any p _ _ c0).mono ?_
              rintro e w3 ⟨rfl, rfl⟩
              go_wp2
              go_roundw
              case rel => exact ⟨k + 1, v', by omega, by go_num, by rw [HE.out, HW.out]; exact HTO.out.trans H2.out⟩
              case measure => simp [intOf]; omega
          · have HW : Hid (wnum1 z (0, bs) n = (0, bs ++ digs z n)) := Lib.hid (by simp [wnum1, hf])
            clear hf
            go_wp2_with fail
            go_loopw [8] (fun i wi => ∃ (j : Nat) (v2 : Value), j ≤ z ∧ i = .int .i64 j ∧ Wto p w v wi (0, bs ++ digs j n) v2) (fun i _ => z - (intOf i).toNat)
            case atStart => exact ⟨0, v', Nat.zero_le _, rfl, by simpa [digs] using HTO.out⟩
            case round =>
              clear HTO c0
              obtain ⟨j, v2, hj, rfl, hto⟩ := hrel
              have c0 : wr.cell? ⟨p, 0, none⟩ = some (.int .i64 0) := hto.st.blk.cell 0 rfl
              by_cases hjl : j < z
              · obtain ⟨A2, cc2, rfl⟩ := hto.st.form
                have c1 : wr.cell? ⟨p, 1, none⟩ = some (.slice A2 (bs ++ digs j n).length cc2) := hto.st.blk.cell 1 rfl
                go_wp2_with fail
                refine (sound_any p _ _ c0).mono ?_
                rintro e w3 ⟨rfl, rfl⟩
                go_wp2_with fail
                have hj7 : j ≤ 7 := by omega
                have hw8 : IntKind.i64.wrap (8 * (j : Int)) = 8 * (j : Int) := IntWalk.i64_in _ (by omega)
                have HD : Hid (IntKind.u8.wrap (n / 2 ^ (8 * (j : Int)).toNat) = ((dig n j).toNat : Int)) := by
                  show _ = _
                  rw [← dig_wrap, show (8 * (j : Int)).toNat = 8 * j by omega]
                have HT : Hid (bs ++ digs (j + 1) n = (bs ++ digs j n) ++ [dig n j]) := by show _ = _; rw [digs_succ, List.append_assoc]
                have hTl : (bs ++ digs j n).length = bs.length + j := by simp [digs_length]
                have hb1 : (bs ++ digs j n).length + 1 ≤ 140737488355328 := by
                  have : bs.length ≤ st.2.length + 8 * k := hbl
                  omega
                clear hTl
                generalize bs ++ digs j n = T at *
                have hpl : p < wr.heap.size := hto.st.blk.lt
                have HTO := Lib.hid hto
                clear hto
                go_region_law (refine step_app_rd2 rfl _ _ 29 rfl 0 5 i0 (.int .u8 0) 1 Try.underlying29 hi0 hz0 hz1 hz2 rfl (.slice A2 T.length cc2) T.length (u8s T) rfl (Ext.own ((Ext.alloc _ _).trans (Ext.drew _)) HTO.out.st.own) (some ⟨wr.heap.size, 0, none⟩) 1 [.int .u8 (IntKind.u8.wrap (n / 2 ^ (8 * (j : Int)).toNat))] 1 rfl rfl (Rd.one _ _ _) (by simp [Value.oneCell']) (by simp only [maxLen]; omega) (by omega) (Nat.zero_le _) ?_; intro v3 w3 o1 o2 o3; obtain ⟨A3, c3, rfl⟩ := own_slice o1; have ⟨d1, f1⟩ := HTO.out.st.field ((Ext.alloc _ _).trans (Ext.drew _)) o2)
                all_goals
                  rw [HD.out] at o1
                  have HN2 := Lib.hid (HTO.out.trans (HTO.out.st.app (X := [dig n j]) ((Ext.alloc _ _).trans (Ext.drew _)) _ rfl o1 o2 o3))
                  rw [← HT.out] at HN2
                  clear HTO HT HD o1 o2 o3 d1 f1 c0 c1 hpl
                  generalize w3.setCell _ _ = w4 at *
                  go_wp2
                  go_roundw
                  case rel => exact ⟨j + 1, _, by omega, by go_num, HN2.out⟩
                  case measure => simp [intOf]; omega
              · obtain rfl : j = z := by omega
                have HTO := Lib.hid hto
                clear hto
                go_wp2
                go_roundw
                case rel => exact ⟨k + 1, v2, by omega, by go_num, by rw [HE.out, HW.out]; exact HTO.out⟩
                case measure => simp [intOf]; omega
        · have hE0 : (E == 0) = false := by simp [hE]
          have HW : Hid (wnum1 z (E, bs) n = (E, bs)) := Lib.hid (by simp [wnum1, hE])
          clear hE
          go_wp2_with fail
          refine (sound_any p _ _ c0).mono ?_
          rintro e w2 ⟨rfl, rfl⟩
          rw [hE0]
          go_wp2_with fail
          go_loop [8] (fun i => i = .int .i64 0) (fun _ => 0)
          case atStart => exact rfl
          case round =>
            obtain rfl := hrel
            go_wp2_with fail
            refine (sound_any p _ _ c0).mono ?_
            rintro e w2 ⟨rfl, rfl⟩
            rw [hE0]
            go_wp2
            go_roundw
            case rel => exact ⟨k + 1, v', by omega, by go_num, by rw [HE.out, HW.out]; exact HTO.out⟩
            case measure => simp [intOf]; omega
      · rw [show ns.take k = ns from List.take_of_length_le (by omega)] at hto
        have HTO := Lib.hid hto
        clear hto
        go_wp2
        go_end0
        exact ⟨rfl, v', HTO.out⟩

end Go.Proofs.Ytjgghahjcmdnmaa
