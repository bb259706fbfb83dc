/- clevisref08.Make: the table of any symbols, by the document: the walk. -/
import Derived.Test.YtcjmngonpijeiaaSeen8
import Derived.Test.YtcjmngonpijeiaaLawCnt
namespace Go.Proofs.Ytcjmngonpijeiaa
set_option maxRecDepth 100000
open Go.RowKit Pl
set_option linter.unusedVariables false

set_option maxHeartbeats 800000 in
theorem rwords_any (n : Nat) (w : World) (h : n ≤ 9223372036854775807) :
    Calls Try.prog 52 #[.int .i64 n] w fun e w' => e = .returned (.int .i64 (wideN n : Nat)) ∧ w = w' := by
  have h1 : n ≤ 8 → wideN n = 1 := fun h => by unfold wideN; rw [if_pos h]
  go_enter Try.func52, Try.ntmps52
  go_wp2_with fail
  go_loop [3] (fun x => ∃ j : Nat, j ≤ 6 ∧ x = .int .i64 ((2 ^ j : Nat) : Int) ∧ ∀ i, i < j → 8 * 2 ^ i < n) (fun x => (64 - intOf x).toNat)
  case atStart => exact ⟨0, by omega, rfl, fun i hi => by omega⟩
  case round =>
    obtain ⟨j, hj, rfl, hjn⟩ := hrel
    have hp : j = 0 ∨ j = 1 ∨ j = 2 ∨ j = 3 ∨ j = 4 ∨ j = 5 ∨ j = 6 := by omega
    rcases hp with rfl | rfl | rfl | rfl | rfl | rfl | rfl
    · clear hjn
      rw [show (((2 ^ 0 : Nat) : Nat) : Int) = 1 from rfl]
      by_cases hc : 8 < n
      · go_wp2
        go_round
        case rel => exact ⟨1, by omega, rfl, fun i hi => by
          have h2 : 2 ^ i ≤ 2 ^ 0 := Nat.pow_le_pow_right (by omega) (by omega)
          rw [show (2 : Nat) ^ 0 = 1 from rfl] at h2
          omega⟩
        case measure => simp [intOf]
      · have HC : Hid (wideN n = 1) := Lib.hid (by unfold wideN; rw [if_pos (by omega)])
        go_wp2
        go_ret
        exact ⟨retv (by show Value.int .i64 1 = _; rw [HC.out]; rfl), rfl⟩
    · have hlo := hjn 0 (by omega)
      rw [show 8 * 2 ^ 0 = 8 from rfl] at hlo
      clear hjn
      rw [show (((2 ^ 1 : Nat) : Nat) : Int) = 2 from rfl]
      by_cases hc : 16 < n
      · go_wp2
        go_round
        case rel => exact ⟨2, by omega, rfl, fun i hi => by
          have h2 : 2 ^ i ≤ 2 ^ 1 := Nat.pow_le_pow_right (by omega) (by omega)
          rw [show (2 : Nat) ^ 1 = 2 from rfl] at h2
          omega⟩
        case measure => simp [intOf]
      · have HC : Hid (wideN n = 2) := Lib.hid (by unfold wideN; rw [if_neg (by omega)]; rw [if_pos (by omega)])
        go_wp2
        go_ret
        exact ⟨retv (by show Value.int .i64 2 = _; rw [HC.out]; rfl), rfl⟩
    · have hlo := hjn 1 (by omega)
      rw [show 8 * 2 ^ 1 = 16 from rfl] at hlo
      clear hjn
      rw [show (((2 ^ 2 : Nat) : Nat) : Int) = 4 from rfl]
      by_cases hc : 32 < n
      · go_wp2
        go_round
        case rel => exact ⟨3, by omega, rfl, fun i hi => by
          have h2 : 2 ^ i ≤ 2 ^ 2 := Nat.pow_le_pow_right (by omega) (by omega)
          rw [show (2 : Nat) ^ 2 = 4 from rfl] at h2
          omega⟩
        case measure => simp [intOf]
      · have HC : Hid (wideN n = 4) := Lib.hid (by unfold wideN; rw [if_neg (by omega)]; rw [if_neg (by omega)]; rw [if_pos (by omega)])
        go_wp2
        go_ret
        exact ⟨retv (by show Value.int .i64 4 = _; rw [HC.out]; rfl), rfl⟩
    · have hlo := hjn 2 (by omega)
      rw [show 8 * 2 ^ 2 = 32 from rfl] at hlo
      clear hjn
      rw [show (((2 ^ 3 : Nat) : Nat) : Int) = 8 from rfl]
      by_cases hc : 64 < n
      · go_wp2
        go_round
        case rel => exact ⟨4, by omega, rfl, fun i hi => by
          have h2 : 2 ^ i ≤ 2 ^ 3 := Nat.pow_le_pow_right (by omega) (by omega)
          rw [show (2 : Nat) ^ 3 = 8 from rfl] at h2
          omega⟩
        case measure => simp [intOf]
      · have HC : Hid (wideN n = 8) := Lib.hid (by unfold wideN; rw [if_neg (by omega)]; rw [if_neg (by omega)]; rw [if_neg (by omega)]; rw [if_pos (by omega)])
        go_wp2
        go_ret
        exact ⟨retv (by show Value.int .i64 8 = _; rw [HC.out]; rfl), rfl⟩
    · have hlo := hjn 3 (by omega)
      rw [show 8 * 2 ^ 3 = 64 from rfl] at hlo
      clear hjn
      rw [show (((2 ^ 4 : Nat) : Nat) : Int) = 16 from rfl]
      by_cases hc : 128 < n
      · go_wp2
        go_round
        case rel => exact ⟨5, by omega, rfl, fun i hi => by
          have h2 : 2 ^ i ≤ 2 ^ 4 := Nat.pow_le_pow_right (by omega) (by omega)
          rw [show (2 : Nat) ^ 4 = 16 from rfl] at h2
          omega⟩
        case measure => simp [intOf]
      · have HC : Hid (wideN n = 16) := Lib.hid (by unfold wideN; rw [if_neg (by omega)]; rw [if_neg (by omega)]; rw [if_neg (by omega)]; rw [if_neg (by omega)]; rw [if_pos (by omega)])
        go_wp2
        go_ret
        exact ⟨retv (by show Value.int .i64 16 = _; rw [HC.out]; rfl), rfl⟩
    · have hlo := hjn 4 (by omega)
      rw [show 8 * 2 ^ 4 = 128 from rfl] at hlo
      clear hjn
      rw [show (((2 ^ 5 : Nat) : Nat) : Int) = 32 from rfl]
      by_cases hc : 256 < n
      · go_wp2
        go_round
        case rel => exact ⟨6, by omega, rfl, fun i hi => by
          have h2 : 2 ^ i ≤ 2 ^ 5 := Nat.pow_le_pow_right (by omega) (by omega)
          rw [show (2 : Nat) ^ 5 = 32 from rfl] at h2
          omega⟩
        case measure => simp [intOf]
      · have HC : Hid (wideN n = 32) := Lib.hid (by unfold wideN; rw [if_neg (by omega)]; rw [if_neg (by omega)]; rw [if_neg (by omega)]; rw [if_neg (by omega)]; rw [if_neg (by omega)]; rw [if_pos (by omega)])
        go_wp2
        go_ret
        exact ⟨retv (by show Value.int .i64 32 = _; rw [HC.out]; rfl), rfl⟩
    · have hlo := hjn 5 (by omega)
      rw [show 8 * 2 ^ 5 = 256 from rfl] at hlo
      clear hjn
      rw [show (((2 ^ 6 : Nat) : Nat) : Int) = 64 from rfl]
      have HC : Hid (wideN n = 64) := Lib.hid (by unfold wideN; rw [if_neg (by omega)]; rw [if_neg (by omega)]; rw [if_neg (by omega)]; rw [if_neg (by omega)]; rw [if_neg (by omega)]; rw [if_neg (by omega)])
      by_cases hc : 512 < n
      · go_wp2
        go_ret
        exact ⟨retv (by show Value.int .i64 64 = _; rw [HC.out]; rfl), rfl⟩
      · go_wp2
        go_ret
        exact ⟨retv (by show Value.int .i64 64 = _; rw [HC.out]; rfl), rfl⟩

/-- the blocks of a table's rows -/
def rowsAt (t : Tb) (b : Nat) : Prop := inB t.BA b ∨ (∃ k ∈ t.bs, inB k.A b) ∨ inB t.WA b
/-- they hold numbers and slices of such -/
def RowsT (w : World) (t : Tb) : Prop := ∀ b, rowsAt t b → ∃ e cs, Blk w b e cs ∧ (e = 3 ∨ e = 82 ∨ e = 30)
theorem RowsT.ext {w w' : World} {t : Tb} (h : RowsT w t) (hx : Ext w w') : RowsT w' t := fun b hb => by
  obtain ⟨e, cs, h1, h2⟩ := h b hb
  exact ⟨e, cs, hx.blk h1, h2⟩
theorem own_blk {w : World} {base n c : Nat} {e : TypeId} {A : Option Addr} {xs : List Value} (h : w.ownsRow base e 1 (.slice A n c) n xs) {b : Nat} (hb : inB A b) : ∃ cs, Blk w b e cs := by
  rcases h.2 with ⟨hv, _⟩ | ⟨g, cap, cur, hv, _, hh, _⟩
  · simp only [Value.slice.injEq] at hv
    rw [hv.1] at hb
    exact absurd hb inB_none
  · simp only [Value.slice.injEq] at hv
    rw [hv.1] at hb
    rw [inB_some hb]
    exact ⟨cur, hh⟩

/-- what the document's Make answers -/
def RMk (w : World) (l : List Sym) (e : Ending) (w' : World) : Prop :=
  (512 < l.length ∧ e = .returned (.tuple #[.agg #[.slice none 0 0, .slice none 0 0, .int .i64 0], .int .i64 2]) ∧ Ext w w') ∨
  (l.length ≤ 512 ∧ ∃ t : Tb, e = .returned (.tuple #[.agg t.vals.toArray, .int .i64 0]) ∧ t.In w' ∧ Ext w w' ∧ t.bs.map Bk.is = bksI l (cntN (seenI l).length) (seenI l) ∧ t.ws = wordsI l (seenI l) ∧ t.sh = 6 ∧ RowsT w' t)

theorem grown_refl (w : World) : w.grownBy w none := ⟨rfl, rfl, rfl, Nat.le_refl _, fun _ _ _ => rfl⟩

/-- the state of the making -/
structure MkS (w0 w : World) (v : Value) (bs : List Bk) (W : Value) (ws : List Nat) (sh : Int) (a o : Nat) (ca : Array Value) : Prop where
  row : w.ownsRow w0.heap.size 30 1 v bs.length (bs.map Bk.cell)
  each : ∀ k ∈ bs, w.ownsRow w0.heap.size 3 1 k.cell k.is.length (ints k.is)
  f : w.ownsRow w0.heap.size 82 1 W ws.length (u64s ws)
  ka : Blk w a 55 ca
  ko : ∃ W1 W2, W = .slice W1 ws.length W2 ∧ Blk w o 55 #[v, .slice W1 ws.length W2, .int .i64 sh]
  ho : w0.heap.size ≤ o
  nao : a ≠ o
  x : Ext w0 w

theorem MkS.ex {w0 w w' : World} {v : Value} {bs : List Bk} {W : Value} {ws : List Nat} {sh : Int} {a o : Nat} {ca : Array Value} (s : MkS w0 w v bs W ws sh a o ca) (hx : Ext w w') : MkS w0 w' v bs W ws sh a o ca :=
  ⟨hx.own s.row, fun k hk => hx.own (s.each k hk), hx.own s.f, hx.blk s.ka, by obtain ⟨A, c, h1, h2⟩ := s.ko; exact ⟨A, c, h1, hx.blk h2⟩, s.ho, s.nao, s.x.trans hx⟩

theorem MkS.snoc {w0 w w1 w2 w3 : World} {v v' : Value} {bs : List Bk} {W : Value} {ws : List Nat} {sh : Int} {a o : Nat} {ca : Array Value} (s : MkS w0 w v bs W ws sh a o ca) (k' : Bk)
    (o1 : w1.ownsRow w0.heap.size 3 1 k'.cell k'.is.length (ints k'.is)) (g1 : w.grownBy w1 none) (hx : Ext w1 w2)
    (o3 : w3.ownsRow w0.heap.size 30 1 v' (bs.length + 1) (bs.map Bk.cell ++ [k'.cell])) (g3 : w2.grownBy w3 v.ownBlock) :
    w3.frozen? ⟨o, 0, none⟩ = false ∧ w3.cell? ⟨o, 0, none⟩ = some v ∧ MkS w0 (w3.setCell ⟨o, 0, none⟩ v') v' (bs ++ [k']) W ws sh a o ca := by
  have s2 := s.ex ((ext_none g1).trans hx)
  have o2 := hx.own o1
  obtain ⟨W1, W2, rfl, ko⟩ := s2.ko
  have nt : ∀ {b : Nat} {cs : Array Value}, Blk w2 b 55 cs → Blk w3 b 55 cs := fun hb => hb.grown g3 (own_neT s2.row hb (by decide))
  have ko3 := nt ko
  have x3 : Ext w0 w3 := (Chg.grown g3).ext s2.x (fun b hb => (s2.row.lt b hb.symm).1)
  refine ⟨ko3.frozen 0, ko3.cell 0 rfl, ?_, ?_, ?_, ?_, ?_, s.ho, s.nao, ?_⟩
  · rw [List.length_append, List.map_append]
    exact own_farB o3 ko3 (by decide) v'
  · intro k hk
    rcases List.mem_append.1 hk with hk | hk
    · exact own_farB ((s2.each k hk).kept g3 (own_ne_ty (s2.each k hk) s2.row (by decide))) ko3 (by decide) v'
    · rw [List.mem_singleton.1 hk]
      exact own_farB (o2.kept g3 (own_ne_ty o2 s2.row (by decide))) ko3 (by decide) v'
  · exact own_farB (s2.f.kept g3 (own_ne_ty s2.f s2.row (by decide))) ko3 (by decide) v'
  · exact (nt s2.ka).far (p := ⟨o, 0, none⟩) s.nao v'
  · exact ⟨W1, W2, rfl, ko3.set 0 v'⟩
  · exact Ext.of (x3.below.setCell s.ho v')

/-- the filter is replaced by a new one -/
theorem MkS.filt {w0 w w1 : World} {v : Value} {bs : List Bk} {W : Value} {ws ws' : List Nat} {sh : Int} {a o n : Nat} {ca : Array Value} (s : MkS w0 w v bs W ws sh a o ca) (hx : Ext w w1) {A : Option Addr} {c : Nat}
    (hl : ws'.length = n) (o1 : w1.ownsRow w0.heap.size 82 1 (.slice A n c) n (u64s ws')) :
    w1.frozen? ⟨o, 1, none⟩ = false ∧ w1.frozen? ⟨o, 2, none⟩ = false ∧ (∃ v1, w1.cell? ⟨o, 1, none⟩ = some v1) ∧ w1.cell? ⟨o, 2, none⟩ = some (.int .i64 sh) ∧
      Hid (MkS w0 ((w1.setCell ⟨o, 1, none⟩ (.slice A n c)).setCell ⟨o, 2, none⟩ (.int .i64 sh)) v bs (.slice A n c) ws' sh a o ca) := by
  have s2 := s.ex hx
  obtain ⟨W1, W2, rfl, ko⟩ := s2.ko
  have kb := (ko.set 1 (.slice A n c)).set 2 (.int .i64 sh)
  have fo : ∀ {e : TypeId} {m : Nat} {u : Value} {xs : List Value}, w1.ownsRow w0.heap.size e 1 u m xs → e ≠ 55 → ((w1.setCell ⟨o, 1, none⟩ (.slice A n c)).setCell ⟨o, 2, none⟩ (.int .i64 sh)).ownsRow w0.heap.size e 1 u m xs := fun h hne =>
    own_farB (own_farB h ko hne _) (ko.set 1 _) hne _
  refine ⟨ko.frozen 1, ko.frozen 2, ⟨_, ko.cell 1 rfl⟩, ko.cell 2 rfl, Lib.hid ⟨fo s2.row (by decide), fun k hk => fo (s2.each k hk) (by decide), ?_, ?_, ⟨A, c, by rw [hl], ?_⟩, s.ho, s.nao, ?_⟩⟩
  · rw [hl]; exact fo o1 (by decide)
  · exact (s2.ka.far (p := ⟨o, 1, none⟩) s.nao _).far (p := ⟨o, 2, none⟩) s.nao _
  · rw [hl]; exact kb
  · exact Ext.of ((s2.x.below.setCell s.ho _).setCell s.ho _)

set_option maxRecDepth 100000 in
set_option maxHeartbeats 6400000 in
theorem rmake_any (A : Option Addr) (c : Nat) (l : List Sym) (w : World) (hA : RdY w A l) (hf : ∀ s ∈ l, s.Fit) (hl : l.length ≤ 140737488351232) :
    Calls Try.prog 41 #[.slice A l.length c] w (RMk w l) := by
  obtain ⟨i0, hi0, hz0, hz1, hz2⟩ := info_parts info_int
  obtain ⟨i1, hj0, hj1, hj2, hj3⟩ := info_parts info_ints
  obtain ⟨i2, hk0, hk1, hk2, hk3⟩ := info_parts info_u64
  have HA := Lib.hid hA
  have HF := Lib.hid hf
  clear hA hf
  go_enter Try.func41, Try.ntmps41
  by_cases h512 : 512 < l.length
  · go_wp2
    exact bodyPost_ret (v := .tuple #[.agg #[.slice none 0 0, .slice none 0 0, .int .i64 0], .int .i64 2]) (by simp [results, Try.results41, go_sem]) rfl (.inl ⟨h512, rfl, Ext.of (by first | exact Ext.alloc _ _ | exact (((Ext.alloc w _).below.setCell (Nat.le_refl _) _).setCell (Nat.le_refl _) _).setCell (Nat.le_refl _) _)⟩)
  have h5 : l.length ≤ 512 := by omega
  go_wp2_with fail
  have hb0 : Blk (w.alloc (.cells #[.slice none 0 0, .slice none 0 0, .int .i64 0] 55)) w.heap.size 55 #[.slice none 0 0, .slice none 0 0, .int .i64 0] := Blk.new _ _ _
  have hx0 := Ext.alloc w (.cells #[.slice none 0 0, .slice none 0 0, .int .i64 0] 55)
  generalize w.alloc (.cells #[.slice none 0 0, .slice none 0 0, .int .i64 0] 55) = w1 at *
  generalize hrb : w.heap.size = rb at *
  refine (rseens_any A c l w1 (hx0.rdy HA.out) h5).mono ?_
  rintro e w2 ⟨v, rfl, hoi⟩
  obtain ⟨IA, ic, rfl⟩ := own_slice hoi.1
  have HOI := Lib.hid hoi
  have hsl : (seenI l).length ≤ 512 := Nat.le_trans (seenK_len l l.length) h5
  have HLT := Lib.hid (seenK_lt l l.length)
  have HX2 := Lib.hid (hx0.trans hoi.2)
  have HB2 := Lib.hid (hoi.2.blk hb0)
  have hrb2 : rb < w2.heap.size := HB2.out.lt
  clear hoi hb0 hx0
  have hcp := cntN_pos (seenI l).length
  have hcl := cntN_le (seenI l).length
  have HCN := Lib.hid (fun w' => rcount_any (seenI l).length w' (by omega))
  have HWD := Lib.hid (fun w' => rwords_any (seenI l).length w' (by omega))
  have hww := wideN_words (seenI l).length
  have HBK : Hid (bksI l (cntN (seenI l).length) (seenI l) = bksI l (cntN (seenI l).length) (seenI l)) := Lib.hid rfl
  have HWI : Hid (wordsI l (seenI l) = putAll 6 (List.replicate (wideN (seenI l).length) 0) (hashL l (seenI l))) := Lib.hid rfl
  generalize hmany : cntN (seenI l).length = many at *
  generalize hwid : wideN (seenI l).length = wid at *
  obtain ⟨hwr, hw1, hw2⟩ := hww
  have HWR := Lib.hid hwr
  clear hwr
  go_wp2_with fail
  refine (HCN.out _).mono ?_
  rintro e w3 ⟨rfl, rfl⟩
  go_wp2_with fail
  refine (HWD.out _).mono ?_
  rintro e w3 ⟨rfl, rfl⟩
  have hmk := run_make (P := Try.prog) w2 51 82 i2 (.int .u64 0) Try.underlying51 hk0 hk1 .i64 .i64 wid wid (by omega) (by omega) (by rw [hk3]; omega) (by omega)
  simp only [Int.toNat_natCast] at hmk
  rw [hk2, Nat.mul_one] at hmk
  obtain ⟨mcs, hmcs⟩ : ∃ mcs : Array Value, mcs = madeCells #[Value.int .u64 0] wid := ⟨_, rfl⟩
  have hmk2 : (Instr.makeSlice 51 (.int .i64 (wid : Nat)) (.int .i64 (wid : Nat))).run Try.prog w2 = .ok (.slice (some ⟨w2.heap.size, 0, none⟩) wid wid) (w2.alloc (.cells mcs 82)) := by
    rw [hmk, hmcs]; rfl
  have ht : mcs.toList = u64s (List.replicate wid 0) := by
    rw [hmcs, toList_madeCells_one]
    simp [u64s]
  have hs : mcs.size = wid * 1 := by rw [← Array.length_toList, ht]; simp [u64s]
  have hs0 : MkS w2 ((w2.alloc (.cells mcs 82)).alloc (.cells #[.slice none 0 0, .slice (some ⟨w2.heap.size, 0, none⟩) wid wid, .int .i64 6] 55)) (.slice none 0 0) [] (.slice (some ⟨w2.heap.size, 0, none⟩) wid wid) (List.replicate wid 0) 6 rb (w2.heap.size + 1) #[.slice none 0 0, .slice none 0 0, .int .i64 0] := by
    have hf1 : (w2.alloc (.cells mcs 82)).ownsRow w2.heap.size 82 1 (.slice (some ⟨w2.heap.size, 0, none⟩) wid wid) wid (u64s (List.replicate wid 0)) := by
      rw [← ht]; exact World.ownsRow_lit w2 mcs wid (Nat.le_refl _) (by unfold maxLen; omega) hs
    have hxx := (Ext.alloc w2 (.cells mcs 82)).trans (Ext.alloc _ (.cells #[.slice none 0 0, .slice (some ⟨w2.heap.size, 0, none⟩) wid wid, .int .i64 6] 55))
    have hkb := Blk.new (w2.alloc (.cells mcs 82)) 55 #[.slice none 0 0, .slice (some ⟨w2.heap.size, 0, none⟩) wid wid, .int .i64 6]
    have hsz : (w2.alloc (.cells mcs 82)).heap.size = w2.heap.size + 1 := by simp
    rw [hsz] at hkb
    have hle := HX2.out.size
    refine ⟨World.ownsRow_nil _ _ _ _, (fun k hk => absurd hk List.not_mem_nil), ?_, hxx.blk HB2.out, ⟨_, _, by rw [List.length_replicate], by rw [List.length_replicate]; exact hkb⟩, by omega, by omega, hxx⟩
    rw [List.length_replicate]
    exact own_mono ((Ext.alloc _ _).own hf1) (by omega)
  have HS0 := Lib.hid hs0
  have HX3 := Lib.hid ((Ext.alloc w2 (.cells mcs 82)).trans (Ext.alloc _ (.cells #[.slice none 0 0, .slice (some ⟨w2.heap.size, 0, none⟩) wid wid, .int .i64 6] 55)))
  clear hs0 hmk hmcs ht hs
  go_wp2_with fail
  generalize (w2.alloc (.cells mcs 82)).alloc (.cells #[.slice none 0 0, .slice (some ⟨w2.heap.size, 0, none⟩) wid wid, .int .i64 6] 55) = w3 at *
  clear hmk2
  generalize hoa : w2.heap.size + 1 = oa at *
  have HOA := Lib.hid hoa
  clear hoa
  generalize (some ⟨w2.heap.size, 0, none⟩ : Option Addr) = FA0 at *
  generalize hws0 : List.replicate wid 0 = ws0 at *
  have HWL0 : Hid (ws0.length = wid) := Lib.hid (by rw [← hws0]; simp)
  have HWS : Hid (∀ x ∈ ws0, x < 18446744073709551616) := Lib.hid (fun x hx => by
    rw [← hws0] at hx
    rw [List.eq_of_mem_replicate hx]; omega)
  have HW0 := Lib.hid hws0
  clear hws0
  go_loopw [7] (fun i wr => ∃ (b : Nat) (v : Value) (cs : List Bk), b ≤ many ∧ i = .int .i64 b ∧ cs.length = b ∧ cs.map Bk.is = (bksI l many (seenI l)).take b ∧ MkS w2 wr v cs (.slice FA0 wid wid) ws0 6 rb oa #[.slice none 0 0, .slice none 0 0, .int .i64 0]) (fun i _ => many - (intOf i).toNat)
  case atStart => exact ⟨0, .slice none 0 0, [], Nat.zero_le _, rfl, rfl, rfl, HS0.out⟩
  case round =>
    clear HS0
    obtain ⟨b, v, cs, hb, rfl, hcl2, hci, hs⟩ := hrel
    obtain ⟨VA, vc, rfl⟩ := own_slice hs.row
    have HS := Lib.hid hs
    have HCI := Lib.hid hci
    have HCL := Lib.hid hcl2
    clear hs hci hcl2
    obtain ⟨wo, rfl⟩ : ∃ wo, wo = wr := ⟨wr, rfl⟩
    by_cases hlt : b < many
    · have HGET := Lib.hid (bksI_get l many (seenI l) hlt)
      have HTB : Hid ((bksI l many (seenI l)).take (b + 1) = (bksI l many (seenI l)).take b ++ [natI (bkI l many (seenI l) b)]) := Lib.hid (by
        rw [List.take_add_one, HGET.out]; rfl)
      have HX0 : Hid (Ext w2 wo) := Lib.hid HS.out.x
      go_wp2_with fail
      go_loopw [8, 9] (fun ch i wr => ∃ (k : Nat) (u : Value), k ≤ (seenI l).length ∧ u = ch ∧ i = .int .i64 k ∧ wr.ownsRow wo.heap.size 3 1 u (bkI l many ((seenI l).take k) b).length (ints (natI (bkI l many ((seenI l).take k) b))) ∧ Ext wo wr) (fun _ i _ => (seenI l).length - (intOf i).toNat)
      case atStart => exact ⟨0, .slice none 0 0, Nat.zero_le _, rfl, rfl, World.ownsRow_nil _ _ _ _, Ext.refl _⟩
      case round =>
        obtain ⟨k, u, hk, rfl, rfl, ho, hx⟩ := hrel
        have HO := Lib.hid ho
        have HX := Lib.hid hx
        clear ho hx
        by_cases hkl : k < (seenI l).length
        · obtain ⟨ib, io, rfl, hic⟩ := own_natI HOI.out.1 rfl hkl
          replace hic := (HX0.out.trans HX.out).cell hic
          have hmem : (seenI l).getD k 0 ∈ seenI l := getD_mem (d := 0) hkl
          have hil := HLT.out _ hmem
          have HTS : Hid (bkI l many ((seenI l).take (k + 1)) b = bkI l many ((seenI l).take k) b ++ bkI l many [(seenI l).getD k 0] b) := Lib.hid (by rw [take_snocL (seenI l) k hkl, bkI_append])
          have hbl := bkI_len l many ((seenI l).take k) b
          have HBL : Hid ((bkI l many ((seenI l).take k) b).length ≤ 512) := Lib.hid (by rw [List.length_take] at hbl; omega)
          clear hbl
          generalize (seenI l).getD k 0 = i at *
          have HONE : Hid (bkI l many [i] b = if hashN (l.getD i sym0).name % many = b then [i] else []) := Lib.hid (by
            simp only [bkI, List.filter_cons, List.filter_nil, decide_eq_true_eq])
          obtain ⟨yb, yo, rfl, hyb, hy⟩ := HA.out.nine hil
          have hgd : l.getD i sym0 = l[i] := by rw [List.getD_eq_getElem?_getD, List.getElem?_eq_getElem hil]; rfl
          rw [hgd] at HONE
          have hns : l[i].name.size ≤ maxLen := by have := (HF.out _ (List.getElem_mem hil)).name; unfold maxLen; omega
          have hn0 := (hy.ext (HX2.out.trans (HX0.out.trans HX.out))).1
          generalize l[i].name = name at *
          clear hgd hy hmem
          have HHO : Hid (∀ w', Calls Try.prog 45 #[.string name, .int .i64 many] w' fun e w2 => e = .returned (.int .i64 (hashN name % many : Nat)) ∧ w' = w2) :=
            Lib.hid (fun w' => home_any many name w' (by omega) (by omega) hns)
          generalize hashN name % many = j at *
          generalize bkI l many ((seenI l).take k) b = chk at *
          go_wp2_with fail
          refine (HHO.out _).mono ?_
          rintro e w5 ⟨rfl, rfl⟩
          by_cases hjb : j = b
          · subst hjb
            have HN1 : Hid (bkI l many ((seenI l).take (k + 1)) j = chk ++ [i]) := Lib.hid (by rw [HTS.out, HONE.out, if_pos rfl])
            have hcb := HBL.out
            go_wp2_with (at_builtin; go_loud (refine wpList_app_rd2 rfl _ _ 30 rfl wo.heap.size 3 i0 (.int .i64 0) 8 Try.underlying30 hi0 hz0 hz1 hz2 rfl u chk.length (ints (natI chk)) rfl ((Ext.alloc _ _).own HO.out) (some ⟨wr.heap.size, 0, none⟩) 1 [.int .i64 (i : Int)] 1 rfl rfl (Blk.rd (Blk.new _ _ _)) (fun x hx => by rw [List.mem_singleton.1 hx]; rfl) ?d3 ?d4 ?d5 ?_))
            case d3 => unfold maxLen; omega
            case d4 => omega
            case d5 => exact Nat.le_trans HX.out.size (Ext.alloc _ _).size
            intro v3 w3' p1 q1 q3
            have HN : Hid (w3'.ownsRow wo.heap.size 3 1 v3 (chk ++ [i]).length (ints (natI (chk ++ [i]))) ∧ Ext wo w3') := Lib.hid (by
              have hlt0 := ((Ext.alloc wr (.cells #[.int .i64 (i : Int)] 3)).own HO.out).lt
              refine ⟨?_, (Chg.grown q1).ext (HX.out.trans (Ext.alloc _ _)) (fun b hb => (hlt0 b hb.symm).1)⟩
              simp only [List.length_append, List.length_singleton, natI_append, ints_append]
              exact p1)
            clear p1 q1 q3 hic hn0
            go_wp2
            go_roundw
            case rel => exact ⟨k + 1, v3, by omega, rfl, by go_num, by rw [HN1.out]; exact HN.out⟩
            case measure => simp [intOf]; omega
          · have HN1 : Hid (bkI l many ((seenI l).take (k + 1)) b = chk) := Lib.hid (by rw [HTS.out, HONE.out, if_neg hjb, List.append_nil])
            have hne : ((j : Int) == (b : Nat)) = false := beq_eq_false_iff_ne.2 (by omega)
            go_wp2
            go_roundw
            case rel => exact ⟨k + 1, u, by omega, rfl, by go_num, by rw [HN1.out]; exact ⟨HO.out, HX.out⟩⟩
            case measure => simp [intOf]; omega
        · have hke : k = (seenI l).length := by omega
          rw [hke, List.take_length, ← natI_len (bkI l many (seenI l) b)] at HO
          clear hke
          generalize natI (bkI l many (seenI l) b) = js at *
          obtain ⟨UA, uc, rfl⟩ := own_slice HO.out
          have s1 := HS.out.ex HX.out
          have HS1 := Lib.hid s1
          have HO2 : Hid (wr.ownsRow w2.heap.size 3 1 (Bk.cell ⟨UA, uc, js⟩) js.length (ints js)) := Lib.hid (own_mono HO.out HX0.out.size)
          obtain ⟨_, _, hW, hko⟩ := s1.ko
          simp only [Value.slice.injEq] at hW
          obtain ⟨rfl, hw0, rfl⟩ := hW
          clear hw0
          have o0 : wr.cell? ⟨oa, 0, none⟩ = some (.slice VA cs.length vc) := hko.cell 0 rfl
          clear s1 hko
          go_wp2_with (at_builtin; go_loud (refine wpList_app_rd2 rfl _ _ 50 rfl w2.heap.size 30 i1 (.slice none 0 0) 24 Try.underlying50 hj0 hj1 hj2 hj3 rfl (.slice VA cs.length vc) cs.length (cs.map Bk.cell) rfl ((Ext.alloc _ _).own HS1.out.row) (some ⟨wr.heap.size, 0, none⟩) 1 [.slice UA js.length uc] 1 rfl rfl (Blk.rd (Blk.new _ _ _)) (fun x hx => by rw [List.mem_singleton.1 hx]; rfl) ?d3 ?d4 ?d5 ?_))
          case d3 => have := HCL.out; unfold maxLen; omega
          case d4 => have := HCL.out; omega
          case d5 => exact Nat.le_trans HS1.out.x.size (Ext.alloc _ _).size
          intro v3 w3' p1 q1 q3
          obtain ⟨V3, c3, rfl⟩ := own_slice p1
          have hsn := MkS.snoc HS1.out (⟨UA, uc, js⟩ : Bk) HO2.out (grown_refl wr) (Ext.alloc wr _) p1 q1
          obtain ⟨f3, d3, sn⟩ := hsn
          have HSN := Lib.hid sn
          clear sn p1 q1 q3
          go_wp2
          go_roundw
          case rel => exact ⟨b + 1, _, cs ++ [⟨UA, uc, js⟩], by omega, by go_num, by simp [HCL.out], by rw [List.map_append, HCI.out, HTB.out]; rfl, HSN.out⟩
          case measure => simp [intOf]; omega
    · have HCI2 : Hid (cs.map Bk.is = bksI l many (seenI l)) := Lib.hid (by rw [HCI.out, List.take_of_length_le (by rw [bksI_len]; omega)])
      clear HCI
      have HCB : Hid (cs.length = many) := Lib.hid (by rw [HCL.out]; omega)
      clear HCL
      go_wp2_with fail
      go_loopw [10] (fun i wr => ∃ (k : Nat) (FA : Option Addr) (fc : Nat), k ≤ (seenI l).length ∧ i = .int .i64 k ∧ MkS w2 wr (.slice VA cs.length vc) cs (.slice FA wid fc) (putAll 6 ws0 (hashL l ((seenI l).take k))) 6 rb oa #[.slice none 0 0, .slice none 0 0, .int .i64 0]) (fun i _ => (seenI l).length - (intOf i).toNat)
      case atStart => exact ⟨0, FA0, wid, Nat.zero_le _, rfl, by rw [List.take_zero]; exact HS.out⟩
      case round =>
        clear HS
        obtain ⟨k, FA, fc, hk, rfl, hs⟩ := hrel
        have HS := Lib.hid hs
        have hwlen : (putAll 6 ws0 (hashL l ((seenI l).take k))).length = wid := by rw [putAll_length, HWL0.out]
        obtain ⟨W1, W2, hW, hko⟩ := hs.ko
        simp only [Value.slice.injEq] at hW
        obtain ⟨rfl, hw0, rfl⟩ := hW
        clear hw0
        rw [hwlen] at hko
        have HKO := Lib.hid hko
        have o0 : wr.cell? ⟨oa, 0, none⟩ = some (.slice VA cs.length vc) := hko.cell 0 rfl
        have o1 : wr.cell? ⟨oa, 1, none⟩ = some (.slice FA wid fc) := hko.cell 1 rfl
        have o2 : wr.cell? ⟨oa, 2, none⟩ = some (.int .i64 6) := hko.cell 2 rfl
        have hoal := hko.lt
        clear hs hko
        by_cases hkl : k < (seenI l).length
        · obtain ⟨ib, io, rfl, hic⟩ := own_natI HOI.out.1 rfl hkl
          replace hic := HS.out.x.cell hic
          have hibl : ib < wr.heap.size := cell_lt hic
          have hmem : (seenI l).getD k 0 ∈ seenI l := getD_mem (d := 0) hkl
          have hil := HLT.out _ hmem
          have HTS : Hid (putAll 6 ws0 (hashL l ((seenI l).take (k + 1))) = putAll 6 (putAll 6 ws0 (hashL l ((seenI l).take k))) [hashN (l.getD ((seenI l).getD k 0) sym0).name]) := Lib.hid (by
            rw [take_snocL (seenI l) k hkl, hashL_append]; unfold putAll; rw [List.foldl_append]; rfl)
          generalize (seenI l).getD k 0 = i at *
          obtain ⟨yb, yo, rfl, hyb, hy⟩ := HA.out.nine hil
          have hgd : l.getD i sym0 = l[i] := by rw [List.getD_eq_getElem?_getD, List.getElem?_eq_getElem hil]; rfl
          rw [hgd] at HTS
          have hns : l[i].name.size ≤ maxLen := by have := (HF.out _ (List.getElem_mem hil)).name; unfold maxLen; omega
          have hn0 := (hy.ext (HX2.out.trans HS.out.x)).1
          have hybl := cell_lt hn0
          generalize l[i].name = name at *
          clear hgd hy hmem
          have HFT : Hid (∀ x ∈ putAll 6 ws0 (hashL l ((seenI l).take k)), x < 18446744073709551616) := Lib.hid (putAll_lt 6 _ _ HWS.out)
          generalize putAll 6 ws0 (hashL l ((seenI l).take k)) = ws at *
          have HHA : Hid (∀ w', Calls Try.prog 23 #[.string name] w' fun e w2 => e = .returned (.int .u32 (hashN name : Nat)) ∧ w' = w2) :=
            Lib.hid (fun w' => by rw [(hash_lt name).1]; exact refHash_any name w' hns)
          have HHL : Hid (hashN name < 4294967296) := Lib.hid (hash_lt name).2
          generalize hashN name = hs at *
          have HRA : Hid (∀ H hc w', Ext wr w' → Rd w' H [.int .u32 (hs : Int)] → Calls Try.prog 53 #[.agg #[.slice FA wid fc, .int .i64 6], .slice H 1 hc] w' (RetFilt1 w' wid 6 (putAll 6 ws [hs]))) := Lib.hid (fun H hc w' hx hH => by
            have hr := refAdd_any FA fc 6 ws H hc [hs] w' HFT.out (fun x hx => by rw [List.mem_singleton.1 hx]; exact HHL.out) (by unfold maxLen; simp) (by rw [hwlen]; omega) (hx.rd (by
              have := HS.out.f
              rw [hwlen] at this
              exact Rd.of_own this)) hH (.inr (by rw [hwlen]; exact HWR.out))
            rw [hwlen] at hr
            exact hr)
          have HPL : Hid ((putAll 6 ws [hs]).length = wid) := Lib.hid (by rw [putAll_length, hwlen])
          clear hwlen
          go_wp2_with fail
          go_region_law (first
            | (go_simp; go_at_call 23; refine (HHA.out _).mono ?_; rintro e w5 ⟨rfl, rfl⟩)
            | (go_simp; go_at_call 53; refine (HRA.out _ _ _ (by first | exact Ext.alloc _ _ | exact (Ext.alloc _ _).trans (Ext.drew _) | exact (Ext.drew _).trans (Ext.alloc _ _)) (by first | exact Blk.rd (Blk.new _ _ _) | exact Blk.rd (Blk.new _ _ _).drew)).mono ?_; rintro e w5 ⟨A2, c2, rfl, r1, hb5⟩; obtain ⟨q1, q2, ⟨v1, q3⟩, q4, HQ⟩ := MkS.filt HS.out (Ext.trans (by first | exact Ext.alloc _ _ | exact (Ext.alloc _ _).trans (Ext.drew _) | exact (Ext.drew _).trans (Ext.alloc _ _)) hb5) HPL.out (own_mono r1 (Nat.le_trans HS.out.x.size (by simp)))))
          all_goals
            clear q1 q2 q3 q4 r1 hb5 o0 o1 o2 hic hn0
            go_wp2
            go_roundw
            case rel => exact ⟨k + 1, A2, c2, by omega, by go_num, by rw [HTS.out]; first | exact HQ.out | exact HQ.out.ex (Ext.drew _)⟩
            case measure => simp [intOf]; omega
        · have hke : k = (seenI l).length := by omega
          rw [hke, List.take_length, ← HWI.out] at HS hwlen
          have HWN := Lib.hid hwlen
          clear hke hwlen HKO
          have hs := HS.out
          have r0 : wr.cell? ⟨rb, 0, none⟩ = some (.slice none 0 0) := hs.ka.cell 0 rfl
          have r1 : wr.cell? ⟨rb, 1, none⟩ = some (.slice none 0 0) := hs.ka.cell 1 rfl
          have r2 : wr.cell? ⟨rb, 2, none⟩ = some (.int .i64 0) := hs.ka.cell 2 rfl
          have z0 := hs.ka.frozen 0
          have z1 := hs.ka.frozen 1
          have z2 := hs.ka.frozen 2
          have HW : Hid (RMk w l (.returned (.tuple #[.agg #[.slice VA cs.length vc, .slice FA wid fc, .int .i64 6], .int .i64 0])) (((wr.setCell ⟨rb, 0, none⟩ (.slice VA cs.length vc)).setCell ⟨rb, 1, none⟩ (.slice FA wid fc)).setCell ⟨rb, 2, none⟩ (.int .i64 6))) := Lib.hid (by
            have far : ∀ {e : TypeId} {n : Nat} {v : Value} {xs : List Value}, wr.ownsRow w2.heap.size e 1 v n xs → e ≠ 55 → (((wr.setCell ⟨rb, 0, none⟩ (.slice VA cs.length vc)).setCell ⟨rb, 1, none⟩ (.slice FA wid fc)).setCell ⟨rb, 2, none⟩ (.int .i64 6)).ownsRow w2.heap.size e 1 v n xs := fun h hne =>
              own_farB (own_farB (own_farB h hs.ka hne _) (hs.ka.set 0 _) hne _) ((hs.ka.set 0 _).set 1 _) hne _
            have hmem : ∀ k ∈ cs, ∃ b, k.is = natI (bkI l many (seenI l) b) := fun k hk => by
              have hm : k.is ∈ bksI l many (seenI l) := by rw [← HCI2.out]; exact List.mem_map_of_mem hk
              unfold bksI at hm
              obtain ⟨b, _, hb⟩ := List.mem_map.1 hm
              exact ⟨b, hb.symm⟩
            have hcb := HCB.out
            refine .inr ⟨h5, ⟨VA, vc, cs, FA, fc, wordsI l (seenI l), 6⟩, by simp only [Tb.vals, HWN.out], ?_, ?_, by rw [HCI2.out, hmany], rfl, rfl, ?_⟩
            · refine ⟨Rd.of_own (far hs.row (by decide)), ?_, by show cs.length * 24 ≤ _; omega, ?_, ?_, by show (wordsI l (seenI l)).length * 8 ≤ _; rw [HWN.out]; omega, by show i64B 6; unfold i64B; omega⟩
              · intro q hq
                obtain ⟨b, hqb⟩ := hmem q hq
                refine ⟨Rd.of_own (far (hs.each q hq) (by decide)), ?_, ?_⟩
                · intro i hi
                  rw [hqb] at hi
                  obtain ⟨m, hm, rfl⟩ := List.mem_map.1 hi
                  have := HLT.out m (List.mem_filter.1 hm).1
                  unfold i64B
                  omega
                · rw [hqb, natI_len]
                  have := bkI_len l many (seenI l) b
                  omega
              · have := far hs.f (by decide)
                rw [HWN.out] at this
                exact Rd.of_own this
              · show ∀ x ∈ wordsI l (seenI l), _
                rw [HWI.out]
                exact putAll_lt 6 _ _ HWS.out
            · have hx : Ext w wr := HX2.out.trans hs.x
              have hle : w.heap.size ≤ rb := by omega
              exact Ext.of (((hx.below.setCell hle _).setCell hle _).setCell hle _)
            · intro b hb
              rcases hb with hb | ⟨q, hq, hb⟩ | hb
              · obtain ⟨ds, hd⟩ := own_blk (far hs.row (by decide)) hb
                exact ⟨_, ds, hd, .inr (.inr rfl)⟩
              · obtain ⟨ds, hd⟩ := own_blk (far (hs.each q hq) (by decide)) hb
                exact ⟨_, ds, hd, .inl rfl⟩
              · have hf := far hs.f (by decide)
                rw [HWN.out] at hf
                obtain ⟨ds, hd⟩ := own_blk hf hb
                exact ⟨_, ds, hd, .inr (.inl rfl)⟩)
          clear hs hmany hwid hrb
          go_wp2
          exact bodyPost_ret (v := .tuple #[.agg #[.slice VA cs.length vc, .slice FA wid fc, .int .i64 6], .int .i64 0]) (by simp [results, Try.results41, go_sem, r0, r1, r2]) rfl HW.out

end Go.Proofs.Ytcjmngonpijeiaa
