/- Symbols: versions; a name's bucket. -/
import Derived.Test.YtcjmngonpijeiaaSym
import Derived.Deep.QuietTactic
import Derived.BigQuiet
namespace Go.Proofs.Ytcjmngonpijeiaa
set_option maxRecDepth 100000
open Go.RowKit Pl
set_option linter.unusedVariables false

theorem RdY.at {w : World} {A : Option Addr} {l : List Sym} (h : RdY w A l) {i : Nat} (hi : i < l.length) :
    ∃ b off, A = some ⟨b, off, none⟩ ∧ b < w.heap.size ∧ ∀ (j : Nat) (v : Value), (Sym.vals l[i])[j]? = some v → w.cell? ⟨b, off + i * 9 + j, none⟩ = some v := by
  obtain ⟨b, off, cs, hA, hl, rfl, hc⟩ := h i _ (List.getElem?_eq_getElem hi)
  refine ⟨b, off, hA, ?_, fun j v hj => ?_⟩
  · have := hc 0 (by omega)
    exact cell_lt (v := .string l[i].name) this
  · rw [hc j (by have := (List.getElem?_eq_some_iff.1 hj).1; simpa [Sym.vals] using this)]; exact hj

/-- a symbol's nine cells -/
def YAt (w : World) (b o : Nat) (s : Sym) : Prop :=
  w.cell? ⟨b, o, none⟩ = some (.string s.name) ∧ w.cell? ⟨b, o + 1, none⟩ = some (.string s.ver) ∧ w.cell? ⟨b, o + 2, none⟩ = some (.bool s.old) ∧ w.cell? ⟨b, o + 3, none⟩ = some (.int .i64 s.kind) ∧
  w.cell? ⟨b, o + 4, none⟩ = some (.bool s.weak) ∧ w.cell? ⟨b, o + 5, none⟩ = some (.int .i64 s.vis) ∧ w.cell? ⟨b, o + 6, none⟩ = some (.bool s.defd) ∧ w.cell? ⟨b, o + 7, none⟩ = some (.int .i64 s.val) ∧ w.cell? ⟨b, o + 8, none⟩ = some (.int .i64 s.size)

theorem RdY.nine {w : World} {A : Option Addr} {l : List Sym} (h : RdY w A l) {i : Nat} (hi : i < l.length) : ∃ b off, A = some ⟨b, off, none⟩ ∧ b < w.heap.size ∧ YAt w b (off + i * 9) l[i] := by
  obtain ⟨b, off, hA, hb, hc⟩ := h.at hi
  exact ⟨b, off, hA, hb, hc 0 _ rfl, hc 1 _ rfl, hc 2 _ rfl, hc 3 _ rfl, hc 4 _ rfl, hc 5 _ rfl, hc 6 _ rfl, hc 7 _ rfl, hc 8 _ rfl⟩

theorem YAt.ext {w w' : World} {b o : Nat} {s : Sym} (h : YAt w b o s) (hx : Ext w w') : YAt w' b o s := by
  obtain ⟨h0, h1, h2, h3, h4, h5, h6, h7, h8⟩ := h
  exact ⟨hx.cell h0, hx.cell h1, hx.cell h2, hx.cell h3, hx.cell h4, hx.cell h5, hx.cell h6, hx.cell h7, hx.cell h8⟩

theorem RdY.ext {w w' : World} {A : Option Addr} {l : List Sym} (h : RdY w A l) (hx : Ext w w') : RdY w' A l := RdC.ext h hx

def hasVer (s : Sym) : Bool := s.defd && decide (s.ver.size ≠ 0)

theorem verB_take (l : List Sym) {k : Nat} (h : k < l.length) : verB (l.take (k + 1)) = (verB (l.take k) || hasVer l[k]) := by
  unfold verB hasVer
  rw [List.take_succ_eq_append_getElem h, List.any_append]
  simp
theorem verB_some (l : List Sym) {k : Nat} (h : verB (l.take k) = true) : verB l = true := by
  unfold verB at *
  obtain ⟨s, hs, hv⟩ := List.any_eq_true.1 h
  exact List.any_eq_true.2 ⟨s, List.mem_of_mem_take hs, hv⟩

set_option maxHeartbeats 800000 in
theorem versioned_any (A : Option Addr) (c : Nat) (l : List Sym) (w : World) (hA : RdY w A l) (hl : l.length ≤ 140737488351232) :
    Calls Try.prog 38 #[.slice A l.length c] w fun e w' => e = .returned (.bool (verB l)) ∧ Ext w w' := by
  have HA := Lib.hid hA
  clear hA
  go_enter Try.func38, Try.ntmps38
  go_wp2_with fail
  go_loopw [7] (fun i wr => ∃ k : Nat, k ≤ l.length ∧ i = .int .i64 k ∧ verB (l.take k) = false ∧ Ext w wr) (fun i _ => l.length - (intOf i).toNat)
  case atStart => exact ⟨0, Nat.zero_le _, rfl, rfl, Ext.refl _⟩
  case round =>
    obtain ⟨k, hk, rfl, hv, hx⟩ := hrel
    by_cases hlt : k < l.length
    · obtain ⟨b, off, rfl, hb, hy⟩ := HA.out.nine hlt
      have hst := verB_take l hlt
      rw [hv, Bool.false_or] at hst
      have HSO := Lib.hid (verB_some l (k := k + 1))
      generalize l[k] = s at *
      obtain ⟨h0, h1, h2, h3, h4, h5, h6, h7, h8⟩ := hy.ext hx
      obtain ⟨name, ver, old, kind, weak, vis, defd, val, size⟩ := s
      simp only at h0 h1 h2 h3 h4 h5 h6 h7 h8
      have HX := Lib.hid hx
      clear hx hv hy
      cases defd
      · have HST : Hid (verB (l.take (k + 1)) = false) := Lib.hid (by rw [hst]; simp [hasVer])
        clear hst
        go_wp2
        go_roundw
        case rel => exact ⟨k + 1, by omega, by go_num, HST.out, HX.out.trans (Ext.alloc _ _)⟩
        case measure => simp [intOf]; omega
      · by_cases hv : ver.size = 0
        · have hv1 : ver.toList = [] := (empty_iff _).2 hv
          have HST : Hid (verB (l.take (k + 1)) = false) := Lib.hid (by rw [hst]; simp [hasVer, hv])
          clear hst hv
          go_wp2
          go_roundw
          case rel => exact ⟨k + 1, by omega, by go_num, HST.out, HX.out.trans (Ext.alloc _ _)⟩
          case measure => simp [intOf]; omega
        · have hv1 : ver.toList.isEmpty = false := by
            cases h : ver.toList with
            | nil => exact absurd ((empty_iff _).1 h) hv
            | cons a b => rfl
          have HST : Hid (verB l = true) := Lib.hid (HSO.out (by rw [hst]; simp [hasVer, hv]))
          clear hst hv
          go_wp2
          go_ret
          exact ⟨retv (by rw [HST.out]; rfl), HX.out.trans (Ext.alloc _ _)⟩
    · rw [show l.take k = l from List.take_of_length_le (by omega)] at hv
      have HV := Lib.hid hv
      have HX := Lib.hid hx
      clear hv hx
      go_wp2
      go_ret
      exact ⟨retv (by rw [HV.out]; rfl), HX.out⟩

def verN (l : List Sym) : Nat := l.countP hasVer

theorem verN_take (l : List Sym) {k : Nat} (h : k < l.length) : verN (l.take (k + 1)) = verN (l.take k) + if hasVer l[k] then 1 else 0 := by
  unfold verN
  rw [List.take_succ_eq_append_getElem h, List.countP_append]
  simp [List.countP_cons]
theorem verN_le (l : List Sym) (k : Nat) : verN (l.take k) ≤ k := Nat.le_trans List.countP_le_length (List.length_take_le _ _)
theorem verN_pos (l : List Sym) : decide (0 < verN l) = verB l := by
  have h : (0 < verN l) ↔ verB l = true := by
    unfold verN verB
    rw [List.countP_pos_iff, List.any_eq_true]
    rfl
  by_cases hb : verB l = true
  · rw [hb]; exact decide_eq_true (h.2 hb)
  · have h2 : ¬ 0 < verN l := fun e => hb (h.1 e)
    rw [Bool.not_eq_true _ |>.mp hb]; exact decide_eq_false h2

set_option maxHeartbeats 800000 in
theorem rversioned_any (A : Option Addr) (c : Nat) (l : List Sym) (w : World) (hA : RdY w A l) (hl : l.length ≤ 140737488351232) :
    Calls Try.prog 33 #[.slice A l.length c] w fun e w' => e = .returned (.bool (verB l)) ∧ w = w' := by
  have HA := Lib.hid hA
  clear hA
  go_enter Try.func33, Try.ntmps33
  go_wp2_with fail
  go_loop [3, 4] (fun n i => ∃ k : Nat, k ≤ l.length ∧ i = .int .i64 k ∧ n = .int .i64 (verN (l.take k) : Nat)) (fun _ i => l.length - (intOf i).toNat)
  case atStart => exact ⟨0, Nat.zero_le _, rfl, rfl⟩
  case round =>
    obtain ⟨k, hk, rfl, rfl⟩ := hrel
    have hn := verN_le l k
    by_cases hlt : k < l.length
    · obtain ⟨b, off, rfl, hb, hy⟩ := HA.out.nine hlt
      have hst := verN_take l hlt
      generalize l[k] = s at *
      generalize verN (l.take k) = m at *
      obtain ⟨h0, h1, h2, h3, h4, h5, h6, h7, h8⟩ := hy
      obtain ⟨name, ver, old, kind, weak, vis, defd, val, size⟩ := s
      simp only at h0 h1 h2 h3 h4 h5 h6 h7 h8
      cases defd
      · have HST : Hid (verN (l.take (k + 1)) = m) := Lib.hid (by rw [hst]; simp [hasVer])
        clear hst
        go_wp2
        go_round
        case rel => exact ⟨k + 1, by omega, by go_num, by rw [HST.out]⟩
        case measure => simp [intOf]; omega
      · by_cases hv : ver.size = 0
        · have hv1 : ver.toList = [] := (empty_iff _).2 hv
          have HST : Hid (verN (l.take (k + 1)) = m) := Lib.hid (by rw [hst]; simp [hasVer, hv])
          clear hst hv
          go_wp2
          go_round
          case rel => exact ⟨k + 1, by omega, by go_num, by rw [HST.out]⟩
          case measure => simp [intOf]; omega
        · have hv1 : ver.toList.isEmpty = false := by
            cases h : ver.toList with
            | nil => exact absurd ((empty_iff _).1 h) hv
            | cons a b => rfl
          have HST : Hid (verN (l.take (k + 1)) = m + 1) := Lib.hid (by rw [hst]; simp [hasVer, hv])
          clear hst hv
          go_wp2
          go_round
          case rel => exact ⟨k + 1, by omega, by go_num, by rw [HST.out]; go_num⟩
          case measure => simp [intOf]; omega
    · rw [show l.take k = l from List.take_of_length_le (by omega)]
      have HV := Lib.hid (verN_pos l)
      go_wp2
      go_ret
      exact ⟨retv (by show Value.bool (decide (0 < verN l)) = _; rw [HV.out]), rfl⟩

theorem wrap64_is (z : Int) : wrap64 z = IntKind.i64.wrap z := by
  rw [IntKind.wrap_i64]
  unfold wrap64
  omega

theorem wrap64_mod (h n : Nat) (hh : h < 4294967296) : wrap64 ((h : Int) % (n : Int)) = ((h % n : Nat) : Int) := by
  have e : (h : Int) % (n : Int) = ((h % n : Nat) : Int) := rfl
  rw [e, wrap64_is]
  exact IntWalk.i64_in _ (by have := Nat.mod_le h n; omega)

set_option maxHeartbeats 800000 in
theorem bucket_any (BA : Option Addr) (n bc : Nat) (WA : Value) (sh : Value) (s : ByteArray) (w : World) (hn : 1 ≤ n) (hn2 : n < 4294967296) (hs : s.size ≤ maxLen) :
    Calls Try.prog 44 #[.agg #[.slice BA n bc, WA, sh], .string s] w fun e w' => e = .returned (.int .i64 (hashN s % n : Nat)) ∧ Ext w w' := by
  have HH := Lib.hid (hash_lt s)
  have hq : (hmore 5381 s.data.toList).tmod (n : Int) = ((hashN s % n : Nat) : Int) := by
    rw [← (hash_lt s).1, Int.tmod_eq_emod_of_nonneg (by omega)]; rfl
  have hw1 : IntKind.u32.wrap (n : Int) = (n : Int) := by rw [IntKind.wrap_u32]; omega
  have HW : Hid (wrap64 ((hashN s : Int) % (n : Int)) = ((hashN s % n : Nat) : Int)) := Lib.hid (wrap64_mod _ _ (hash_lt s).2)
  have hw3 : IntKind.u32.wrap ((hashN s % n : Nat) : Int) = ((hashN s % n : Nat) : Int) := by rw [IntKind.wrap_u32]; have := Nat.mod_lt (hashN s) (show 0 < n by omega); omega
  have hn0 : ¬ ((n : Int) = 0) := by omega
  go_enter Try.func44, Try.ntmps44
  go_wp2_with fail
  go_quiet ((go_at_call 43; exact Calls.quiet_of_same ((hash_any s _ hs).mono fun e w' h => ⟨h.1, h.2.symm⟩)))
  go_wp2
  go_ret
  exact ⟨retv (by show Value.int .i64 (wrap64 ((hashN s : Int) % (n : Int))) = _; rw [HW.out]), (Ext.alloc _ _).trans (Ext.drewN _ _)⟩

set_option maxHeartbeats 800000 in
theorem home_any (n : Nat) (s : ByteArray) (w : World) (hn : 1 ≤ n) (hn2 : n ≤ 9223372036854775807) (hs : s.size ≤ maxLen) :
    Calls Try.prog 45 #[.string s, .int .i64 n] w fun e w' => e = .returned (.int .i64 (hashN s % n : Nat)) ∧ w = w' := by
  have HH := Lib.hid (hash_lt s)
  have hl := (hash_lt s).2
  have h0 : 0 ≤ hmore 5381 s.data.toList := by have := (hash_lt s).1; omega
  have h1 : hmore 5381 s.data.toList < 4294967296 := by have := (hash_lt s).1; omega
  have HW : Hid (wrap64 (hmore 5381 s.data.toList % (n : Int)) = ((hashN s % n : Nat) : Int)) := Lib.hid (by rw [← (hash_lt s).1]; exact wrap64_mod _ _ (hash_lt s).2)
  have hn0 : ¬ ((n : Int) = 0) := by omega
  go_enter Try.func45, Try.ntmps45
  go_wp2_with fail
  refine (refHash_any s _ hs).mono ?_
  rintro e w2 ⟨rfl, rfl⟩
  go_wp2
  go_ret
  exact ⟨retv (by show Value.int .i64 (wrap64 (hmore 5381 s.data.toList % (n : Int))) = _; rw [HW.out]), rfl⟩

end Go.Proofs.Ytcjmngonpijeiaa
