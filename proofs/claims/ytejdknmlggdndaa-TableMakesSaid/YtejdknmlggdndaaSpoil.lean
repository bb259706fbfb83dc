/- clevislaw08.spoil: what it may change: only the rows of the table that it is given. -/
import Derived.Test.YtejdknmlggdndaaAw8
namespace Go.Proofs.Ytejdknmlggdndaa
open Go.RowKit Pl
set_option linter.unusedVariables false

/-- cells of the blocks in S were written over; no cell has gone, none is frozen that was not -/
structure Sp (S : Nat → Prop) (w w' : World) : Prop where
  chg : Chg S w w'
  cell : ∀ b o v, w.cell? ⟨b, o, none⟩ = some v → ∃ v', w'.cell? ⟨b, o, none⟩ = some v'
  froz : ∀ b o, w'.frozen? ⟨b, o, none⟩ = w.frozen? ⟨b, o, none⟩

theorem Sp.refl (S : Nat → Prop) (w : World) : Sp S w w := ⟨Chg.refl _ _, fun b o v h => ⟨v, h⟩, fun b o => rfl⟩
theorem Sp.set {S : Nat → Prop} {w w' : World} (h : Sp S w w') {b o : Nat} (u : Value) (hb : S b) : Sp S w (w'.setCell ⟨b, o, none⟩ u) := by
  refine ⟨h.chg.trans (Chg.set w' b o u) (fun i hi => .inl (by rw [hi]; exact hb)), ?_, fun b' o' => by rw [World.frozen?_setCell]; exact h.froz b' o'⟩
  intro b' o' v hv
  obtain ⟨v', hv'⟩ := h.cell b' o' v hv
  by_cases e : (⟨b, o, none⟩ : Addr) = ⟨b', o', none⟩
  · rw [e]
    exact ⟨u, World.cell?_setCell_same w' _ u hv'⟩
  · exact ⟨v', (World.cell?_setCell_other w' _ _ u e).trans hv'⟩

/-- the rows of a table: they may be written -/
structure SpT (S : Nat → Prop) (w : World) (t : Tb) : Prop where
  row : Rd w t.BA (t.bs.map Bk.cell)
  far : ∀ b o, t.BA = some ⟨b, o, none⟩ → ¬ S b
  each : ∀ k ∈ t.bs, ∀ i, i < k.is.length → ∃ b o, k.A = some ⟨b, o, none⟩ ∧ S b ∧ (∃ v, w.cell? ⟨b, o + i, none⟩ = some v) ∧ w.frozen? ⟨b, o + i, none⟩ = false
  f : ∀ i, i < t.ws.length → ∃ b o, t.WA = some ⟨b, o, none⟩ ∧ S b ∧ (∃ v, w.cell? ⟨b, o + i, none⟩ = some v) ∧ w.frozen? ⟨b, o + i, none⟩ = false
  blen : t.bs.length * 24 ≤ 140737488351232
  klen : ∀ k ∈ t.bs, k.is.length * 8 ≤ 140737488351232
  wlen : t.ws.length * 8 ≤ 140737488351232
  old : ∀ b, S b → b < w.heap.size

theorem SpT.ext {S : Nat → Prop} {w w' : World} {t : Tb} (h : SpT S w t) (hx : Ext w w') : SpT S w' t := by
  have fr : ∀ b o, S b → w'.frozen? ⟨b, o, none⟩ = w.frozen? ⟨b, o, none⟩ := fun b o hb => bfroz hx.below b o (h.old b hb)
  refine ⟨hx.rd h.row, h.far, ?_, ?_, h.blen, h.klen, h.wlen, fun b hb => Nat.lt_of_lt_of_le (h.old b hb) hx.size⟩
  · intro k hk i hi
    obtain ⟨b, o, e, hs, ⟨v, hv⟩, hf⟩ := h.each k hk i hi
    exact ⟨b, o, e, hs, ⟨v, hx.cell hv⟩, by rw [fr b _ hs]; exact hf⟩
  · intro i hi
    obtain ⟨b, o, e, hs, ⟨v, hv⟩, hf⟩ := h.f i hi
    exact ⟨b, o, e, hs, ⟨v, hx.cell hv⟩, by rw [fr b _ hs]; exact hf⟩

set_option maxRecDepth 100000 in
set_option maxHeartbeats 3200000 in
theorem spoil_any (S : Nat → Prop) (t : Tb) (w : World) (ht : SpT S w t) : Calls Try.prog 13 #[.agg t.vals.toArray] w fun e w' => (∃ v, e = .returned v) ∧ Chg S w w' := by
  have hbl := ht.blen
  have hwl := ht.wlen
  have HT0 := Lib.hid ht
  clear ht
  obtain ⟨BA, bc, bs, WA, wc, ws, sh⟩ := t
  simp only at hbl hwl
  simp only [Tb.vals]
  go_enter Try.func13, Try.ntmps13
  go_wp2_with fail
  have hbx : Blk (w.alloc (.cells #[.slice BA bs.length bc, .slice WA ws.length wc, .int .i64 sh] 29)) w.heap.size 29 #[.slice BA bs.length bc, .slice WA ws.length wc, .int .i64 sh] := Blk.new _ _ _
  have hxb := Ext.alloc w (.cells #[.slice BA bs.length bc, .slice WA ws.length wc, .int .i64 sh] 29)
  have HNS : Hid (¬ S w.heap.size) := Lib.hid (fun h => by have := HT0.out.old _ h; omega)
  have HT := Lib.hid (HT0.out.ext hxb)
  have HB := Lib.hid hbx
  have HXB := Lib.hid hxb
  clear hbx hxb HT0
  generalize w.alloc (.cells #[.slice BA bs.length bc, .slice WA ws.length wc, .int .i64 sh] 29) = wb at *
  generalize w.heap.size = tb at *
  go_loopw [2] (fun i wr => ∃ b : Nat, b ≤ bs.length ∧ i = .int .i64 b ∧ Sp S wb wr) (fun i _ => bs.length - (intOf i).toNat)
  case atStart => exact ⟨0, Nat.zero_le _, rfl, Sp.refl _ _⟩
  case round =>
    obtain ⟨b, hb, rfl, hs⟩ := hrel
    have HS := Lib.hid hs
    have t0 : wr.cell? ⟨tb, 0, none⟩ = some (.slice BA bs.length bc) := (hs.chg.blk HB.out HNS.out).cell 0 rfl
    clear hs
    by_cases hlt : b < bs.length
    · obtain ⟨bb, bo, hBA, hbc⟩ := HT.out.row b (by simpa using hlt)
      simp only at hBA
      subst hBA
      rw [List.getElem_map] at hbc
      have HKM : Hid (bs[b] ∈ bs) := Lib.hid (List.getElem_mem hlt)
      have hkl := HT.out.klen _ HKM.out
      have HE := Lib.hid (HT.out.each _ HKM.out)
      have HNB : Hid (¬ S bb) := Lib.hid (HT.out.far bb bo rfl)
      generalize bs[b] = bk at *
      obtain ⟨KA, kc, is⟩ := bk
      simp only [Bk.cell] at hbc
      simp only at hkl HE
      have HBC := Lib.hid hbc
      clear hbc
      go_wp2_with fail
      go_loopw [3] (fun i wr => ∃ k : Nat, k ≤ is.length ∧ i = .int .i64 k ∧ Sp S wb wr) (fun i _ => is.length - (intOf i).toNat)
      case atStart => exact ⟨0, Nat.zero_le _, rfl, HS.out⟩
      case round =>
        obtain ⟨k, hk, rfl, hs⟩ := hrel
        have HS2 := Lib.hid hs
        have t0 : wr.cell? ⟨tb, 0, none⟩ = some (.slice (some ⟨bb, bo, none⟩) bs.length bc) := (hs.chg.blk HB.out HNS.out).cell 0 rfl
        have hbc := hs.chg.cell HBC.out HNB.out
        clear hs
        by_cases hkl2 : k < is.length
        · obtain ⟨ib, io, hKA, hS, ⟨v, hv⟩, hf⟩ := HE.out k hkl2
          subst hKA
          have HSI := Lib.hid hS
          obtain ⟨v2, hv2⟩ := HS2.out.cell _ _ _ hv
          have hf2 := (HS2.out.froz ib (io + k)).trans hf
          clear hv hf hS
          go_wp2
          go_roundw
          case rel => exact ⟨k + 1, by omega, by go_num, HS2.out.set _ HSI.out⟩
          case measure => simp [intOf]; omega
        · go_wp2
          go_roundw
          case rel => exact ⟨b + 1, by omega, by go_num, HS2.out⟩
          case measure => simp [intOf]; omega
    · go_wp2_with fail
      go_loopw [4] (fun i wr => ∃ k : Nat, k ≤ ws.length ∧ i = .int .i64 k ∧ Sp S wb wr) (fun i _ => ws.length - (intOf i).toNat)
      case atStart => exact ⟨0, Nat.zero_le _, rfl, HS.out⟩
      case round =>
        obtain ⟨k, hk, rfl, hs⟩ := hrel
        have HS2 := Lib.hid hs
        have t1 : wr.cell? ⟨tb, 1, none⟩ = some (.slice WA ws.length wc) := (hs.chg.blk HB.out HNS.out).cell 1 rfl
        clear hs
        by_cases hkl2 : k < ws.length
        · obtain ⟨ib, io, hKA, hS, ⟨v, hv⟩, hf⟩ := HT.out.f k hkl2
          simp only at hKA
          subst hKA
          have HSI := Lib.hid hS
          obtain ⟨v2, hv2⟩ := HS2.out.cell _ _ _ hv
          have hf2 := (HS2.out.froz ib (io + k)).trans hf
          clear hv hf hS
          go_wp2
          go_roundw
          case rel => exact ⟨k + 1, by omega, by go_num, HS2.out.set _ HSI.out⟩
          case measure => simp [intOf]; omega
        · go_wp2
          go_end0
          exact ⟨⟨_, rfl⟩, (Chg.of_ext HXB.out).trans HS2.out.chg (fun i hi => .inl hi)⟩

end Go.Proofs.Ytejdknmlggdndaa
