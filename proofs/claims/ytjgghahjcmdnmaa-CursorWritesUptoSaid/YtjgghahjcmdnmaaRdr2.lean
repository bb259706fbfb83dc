/- Reader.Num, NewReader, Left, Fault, End. -/
import Derived.Test.YtjgghahjcmdnmaaRdr1
namespace Go.Proofs.Ytjgghahjcmdnmaa
open Go.RowKit Pl
set_option linter.unusedVariables false

theorem left_any (p : Nat) (st : WS) (A : Option Addr) (cap : Nat) (w : World) (h : Rst w p st A cap) :
    Calls Try.prog 33 #[.pointer (some ⟨p, 0, none⟩)] w fun r w' => r = .returned (.int .i64 st.2.length) ∧ w = w' := by
  have c1 : w.cell? ⟨p, 1, none⟩ = some (.slice A st.2.length cap) := h.blk.cell 1 rfl
  clear h
  go_enter Try.func33, Try.ntmps33
  go_wp2
  go_ret
  exact ⟨rfl, rfl⟩

theorem fault_any (p : Nat) (st : WS) (A : Option Addr) (cap : Nat) (w : World) (h : Rst w p st A cap) :
    Calls Try.prog 27 #[.pointer (some ⟨p, 0, none⟩)] w fun r w' => r = .returned (.int .i64 st.1) ∧ w = w' := by
  have c1 : w.cell? ⟨p, 0, none⟩ = some (.int .i64 st.1) := h.blk.cell 0 rfl
  clear h
  go_enter Try.func27, Try.ntmps27
  go_wp2
  go_ret
  exact ⟨rfl, rfl⟩

theorem end_any (p : Nat) (st : WS) (A : Option Addr) (cap : Nat) (w : World) (h : Rst w p st A cap) :
    Calls Try.prog 18 #[.pointer (some ⟨p, 0, none⟩)] w fun r w' => r = .returned (.int .i64 (rend st)) ∧ w = w' := by
  obtain ⟨E, bs⟩ := st
  have c0 : w.cell? ⟨p, 0, none⟩ = some (.int .i64 E) := h.blk.cell 0 rfl
  have c1 : w.cell? ⟨p, 1, none⟩ = some (.slice A bs.length cap) := h.blk.cell 1 rfl
  clear h
  by_cases hE : E = 0
  · subst hE
    by_cases hb : bs = []
    · subst hb
      go_enter Try.func18, Try.ntmps18
      go_wp2_with fail
      refine (sound_any p _ _ c0).mono ?_
      rintro e w2 ⟨rfl, rfl⟩
      go_wp2
      go_ret
      exact ⟨rfl, rfl⟩
    · have hl : 0 < bs.length := List.length_pos_iff.2 hb
      have HR : Hid (rend (0, bs) = 12) := Lib.hid (by simp [rend, hb])
      clear hb
      go_enter Try.func18, Try.ntmps18
      go_wp2_with fail
      refine (sound_any p _ _ c0).mono ?_
      rintro e w2 ⟨rfl, rfl⟩
      go_wp2
      go_ret
      exact ⟨retv (by show Value.int .i64 12 = _; rw [HR.out]), rfl⟩
  · have hb : (E == 0) = false := by simp [hE]
    have HR : Hid (rend (E, bs) = E) := Lib.hid (by simp [rend, hE])
    clear hE
    go_enter Try.func18, Try.ntmps18
    go_wp2_with fail
    refine (sound_any p _ _ c0).mono ?_
    rintro e w2 ⟨rfl, rfl⟩
    rw [hb]
    go_wp2
    go_ret
    exact ⟨retv (by show Value.int .i64 E = _; rw [HR.out]), rfl⟩

/-- a new reader -/
def NewR (w : World) (bs : List UInt8) (r : Ending) (w' : World) : Prop :=
  ∃ p A cap, r = .returned (.pointer (some ⟨p, 0, none⟩)) ∧ w.heap.size ≤ p ∧ Rst w' p (0, bs) A cap ∧ (∀ k, inB A k → w.heap.size ≤ k) ∧ Ext w w'

theorem own_inB {w : World} {base n cap : Nat} {e : TypeId} {A : Option Addr} {xs : List Value} (h : w.ownsRow base e 1 (.slice A n cap) n xs) {k : Nat} (hk : inB A k) : base ≤ k ∧ k < w.heap.size := by
  rcases h.2 with ⟨hv, _⟩ | ⟨g, c, cur, hv, hg, hh, _⟩
  · simp only [Value.slice.injEq] at hv
    rw [hv.1] at hk
    exact absurd hk inB_none
  · simp only [Value.slice.injEq] at hv
    rw [hv.1] at hk
    rw [inB_some hk]
    exact ⟨hg, (Array.getElem?_eq_some_iff.1 hh).1⟩

theorem newR_st {w w3 : World} {bs : List UInt8} {A3 : Option Addr} {c3 : Nat} (h : w3.ownsRow w.heap.size 5 1 (.slice A3 bs.length c3) bs.length (u8s bs)) :
    Rst (w3.alloc (.cells #[.int .i64 0, .slice A3 bs.length c3] 75)) w3.heap.size (0, bs) A3 c3 := by
  refine ⟨Blk.new _ _ _, (Ext.alloc _ _).rd (Rd.of_own h), ?_⟩
  rcases h.2 with ⟨hv, h0⟩ | ⟨g, c, cur, hv, hg, hh, hnc, hm, _⟩
  · simp only [Value.slice.injEq] at hv
    exact .inl ⟨hv.1, List.length_eq_zero_iff.1 h0, hv.2.2⟩
  · simp only [Value.slice.injEq] at hv
    have hl := (Array.getElem?_eq_some_iff.1 hh).1
    exact .inr ⟨g, 0, hv.1, by omega, by simp; omega, by rw [hv.2.2]; exact hnc, by rw [hv.2.2]; exact hm⟩

theorem rcut_len (st : WS) (n : Nat) : (rcut st n).1.length ≤ n := by
  unfold rcut
  split
  · split
    · simp; omega
    · simp
  · simp

theorem newReader_any (B : Option Addr) (bcap : Nat) (bs : List UInt8) (w : World) (hB : Rd w B (u8s bs)) (hl : bs.length ≤ 140737488355328) :
    Calls Try.prog 16 #[.slice B bs.length bcap] w fun r w' => NewR w bs r w' := by
  obtain ⟨i0, hi0, hz0, hz1, hz2⟩ := info_parts info_u8
  have HB := Lib.hid hB
  clear hB
  go_enter Try.func16, Try.ntmps16
  go_wp2_with (at_builtin; refine wpList_app_rd2 rfl _ _ 29 rfl w.heap.size 5 i0 (.int .u8 0) 1 Try.underlying29 hi0 hz0 hz1 hz2 rfl (.slice none 0 0) 0 [] rfl (World.ownsRow_nil _ _ _ _) B bcap (u8s bs) bs.length rfl (u8s_length bs) HB.out (u8s_one bs) ?c3 ?c4 ?c5 ?_)
  case c3 => simp only [maxLen]; omega
  case c4 => omega
  case c5 => omega
  intro v3 w3 o1 o2 o3
  obtain ⟨A3, c3, rfl⟩ := own_slice o1
  have hx : Ext w w3 := Ext.of ((Below.refl _ _).grown o2 (Nat.le_refl _) (by simp [Value.ownBlock]))
  have O1 := Lib.hid o1
  have HX := Lib.hid hx
  clear o1 o2 o3 hx HB
  go_wp2
  go_ret
  exact ⟨w3.heap.size, A3, c3, rfl, HX.out.size, newR_st O1.out, fun k hk => (own_inB O1.out hk).1, HX.out.trans (Ext.alloc _ _)⟩

theorem Rd.u8 {w : World} {A : Option Addr} {ws : List UInt8} (h : Rd w A (u8s ws)) {i : Nat} (hi : i < ws.length) :
    ∃ b off, A = some ⟨b, off, none⟩ ∧ w.cell? ⟨b, off + i, none⟩ = some (.int .u8 (((ws.getD i 0).toNat : Nat) : Int)) := by
  obtain ⟨b, off, hA, hc⟩ := h i (by simpa [u8s] using hi)
  refine ⟨b, off, hA, ?_⟩
  rw [hc, List.getD_eq_getElem?_getD, List.getElem?_eq_getElem hi]
  simp [u8s]

theorem wrap64_is (z : Int) : wrap64 z = IntKind.i64.wrap z := by
  rw [IntKind.wrap_i64]
  unfold wrap64
  omega

theorem or_byte2 (N x i : Nat) (hi : i ≤ 7) (hN : N < 2 ^ (8 * i)) (hx : x < 256) : bits BinOp.or .i64 (i64 N) (wrap64 ((x : Int) * 2 ^ (8 * i))) = i64 (N + x * 2 ^ (8 * i)) := by
  rw [wrap64_is]
  exact or_byte N x i hi hN hx

theorem leNat_take (bs : List UInt8) {k : Nat} (h : k < bs.length) : leNat (bs.take (k + 1)) = leNat (bs.take k) + (bs.getD k 0).toNat * 2 ^ (8 * k) := by
  rw [List.take_succ_eq_append_getElem h, leNat_snoc, List.length_take, Nat.min_eq_left (by omega), List.getD_eq_getElem?_getD, List.getElem?_eq_getElem h]
  rfl

set_option maxHeartbeats 800000 in
theorem rnum_any (p : Nat) (st : WS) (A : Option Addr) (cap : Nat) (size : Int) (w : World) (h : Rst w p st A cap) (hsz : -9223372036854775808 ≤ size ∧ size ≤ 9223372036854775807) :
    Calls Try.prog 17 #[.pointer (some ⟨p, 0, none⟩), .int .i64 size] w fun r w' => r = .returned (.int .i64 (rnum size st).1) ∧ ∃ A' cap', Rto p w A w' (rnum size st).2 A' cap' := by
  have H := Lib.hid h
  clear h
  go_enter Try.func17, Try.ntmps17
  go_wp2_with fail
  refine (sized_any _ _).mono ?_
  rintro e w1 ⟨rfl, rfl⟩
  cases hs : sizedB size
  · have HR : Hid (rnum size st = (0, wfail st 1)) := Lib.hid (by simp [rnum, hs])
    clear hs
    go_wp2_with fail
    refine (rfail_any p st A cap 1 _ H.out).mono ?_
    rintro e w2 ⟨rfl, h2⟩
    have H2 := Lib.hid h2
    clear H h2
    go_wp2
    go_ret
    rw [HR.out]
    exact ⟨rfl, A, cap, H2.out⟩
  · have HR : Hid (rnum size st = (i64 (leNat (rcut st size.toNat).1), (rcut st size.toNat).2)) := Lib.hid (by simp [rnum, hs])
    have hsz2 : 1 ≤ size ∧ size ≤ 8 := by have := sizedB_cases hs; omega
    clear hs hsz
    obtain ⟨z, rfl⟩ := Int.eq_ofNat_of_zero_le (by omega : 0 ≤ size)
    rw [Int.toNat_natCast] at HR
    go_wp2_with fail
    refine (cut_any p st A cap z w H.out (by omega)).mono ?_
    rintro e w2 ⟨B, bc, A', cap', rfl, h2, hr2, hin, hfo, hbc, hbm⟩
    have hlc : (rcut st z).1.length ≤ 8 := Nat.le_trans (rcut_len st z) (by omega)
    generalize (rcut st z).1 = bs at *
    generalize (rcut st z).2 = s2 at *
    have H2 := Lib.hid h2
    have HR2 := Lib.hid hr2
    clear H h2 hr2 hin
    have hlc63 : bs.length ≤ 9223372036854775807 := by omega
    go_wp2_with fail
    go_loop [5, 19] (fun n i => ∃ k : Nat, k ≤ bs.length ∧ i = .int .i64 k ∧ n = .int .i64 (i64 (leNat (bs.take k)))) (fun n i => bs.length - (intOf i).toNat)
    case atStart => exact ⟨0, Nat.zero_le _, rfl, rfl⟩
    case round =>
      obtain ⟨k, hk, rfl, rfl⟩ := hrel
      by_cases hlt : k < bs.length
      · obtain ⟨b, off, rfl, hcB⟩ := HR2.out.u8 hlt
        have hk7 : k ≤ 7 := by omega
        have hw8 : IntKind.i64.wrap (8 * (k : Int)) = 8 * (k : Int) := IntWalk.i64_in _ (by omega)
        have HO := Lib.hid (or_byte2 (leNat (bs.take k)) (bs.getD k 0).toNat k hk7 (by have := leNat_lt (bs.take k); rwa [List.length_take, Nat.min_eq_left hk] at this) (bs.getD k 0).toNat_lt)
        have HS := Lib.hid (leNat_take bs hlt)
        have hx0 : (bs.getD k 0).toNat < 256 := (bs.getD k 0).toNat_lt
        generalize (bs.getD k 0).toNat = x at *
        generalize leNat (bs.take k) = N at *
        go_wp2
        go_round
        case rel => exact ⟨k + 1, by omega, by go_num, by rw [HO.out, HS.out]⟩
        case measure => simp [intOf]; omega
      · rw [show bs.take k = bs from List.take_of_length_le (by omega)]
        go_wp2
        go_ret
        rw [HR.out]
        exact ⟨rfl, A', cap', H2.out⟩

end Go.Proofs.Ytjgghahjcmdnmaa
