/- A piece is put. -/
import Derived.Test.YtjgghahjcmdnmaaTwo
namespace Go.Proofs.Ytjgghahjcmdnmaa
open Go.RowKit Pl
set_option linter.unusedVariables false

/-- a piece, put -/
def wput (st : WS) (p : Pc) : WS :=
  if p.kind = 0 then wnum p.size st p.ns else if p.kind = 1 then wtext st (p.ss.map txt) else if p.kind = 2 then wblock st p.bs else if p.kind = 3 then wraw st p.bs else st

theorem wblock_len (st : WS) (b : List UInt8) : (wblock st b).2.length ≤ st.2.length + 4 + b.length := by
  unfold wblock
  split
  · split
    · simp [digs_length]; omega
    · simp; omega
  · omega

theorem wraw_len (st : WS) (b : List UInt8) : (wraw st b).2.length ≤ st.2.length + b.length := by
  unfold wraw
  split
  · simp
  · omega

theorem wput_len (st : WS) (p : Pc) : (wput st p).2.length ≤ st.2.length + 4200 * p.bulk := by
  have h1 := letters_len p.ss
  unfold wput Pc.bulk
  split
  · have := wnum_len_any p.size p.ns st; omega
  split
  · have := wtext_len_all (p.ss.map txt) st
    rw [List.length_map] at this
    omega
  split
  · have := wblock_len st p.bs; omega
  split
  · have := wraw_len st p.bs; omega
  · omega

/-- what a piece holds lies apart from a writer -/
structure Pc.Apart (p : Pc) (S : Nat → Prop) : Prop where
  n : ∀ b o, p.NA = some ⟨b, o, none⟩ → 0 < (ints p.ns).length → ¬ S b
  s : ∀ b o, p.SA = some ⟨b, o, none⟩ → 0 < (strs p.ss).length → ¬ S b
  b : ∀ b o, p.BA = some ⟨b, o, none⟩ → 0 < (u8s p.bs).length → ¬ S b

theorem Pc.In.apart {w : World} {p : Pc} {S : Nat → Prop} (h : p.In w) (hf : ∀ k, S k → w.heap.size ≤ k) : p.Apart S := ⟨h.nr.apart hf, h.sr.apart hf, h.br.apart hf⟩
theorem Pc.In.ext {w w' : World} {p : Pc} (h : p.In w) (hx : Ext w w') : p.In w' := ⟨h.kind, h.size, h.n, hx.rd h.nr, h.nb, h.nl, hx.rd h.sr, h.sb, h.sl, hx.rd h.br, h.bl⟩

set_option maxHeartbeats 800000 in
theorem put_any (q : Nat) (st : WS) (v : Value) (p : Pc) (w : World) (h : Wst w q st v) (hp : p.In w) (ha : p.Apart (ftp q v)) (hlen : st.2.length + 4200 * p.bulk ≤ 140737488355328) :
    Calls Try.prog 20 #[.pointer (some ⟨q, 0, none⟩), .agg p.vals.toArray] w fun r w' => r = .returned (.tuple #[]) ∧ ∃ v', Wto q w v w' (wput st p) v' := by
  have h1 := letters_len p.ss
  unfold Pc.bulk at hlen
  obtain ⟨kind, size, n, NA, nc, ns, SA, sc, ss, BA, bc, bs⟩ := p
  have HP := Lib.hid hp
  have HA := Lib.hid ha
  have H := Lib.hid h
  clear h hp ha
  simp only at hlen h1
  simp only [Pc.vals]
  by_cases k0 : kind = 0
  · subst k0
    have HR : Hid (wput st ⟨0, size, n, NA, nc, ns, SA, sc, ss, BA, bc, bs⟩ = wnum size st ns) := Lib.hid rfl
    go_enter Try.func20, Try.ntmps20
    go_wp2_with fail
    refine (num_any q st v size NA nc ns _ (H.out.ext (Ext.alloc _ _)) ((Ext.alloc _ _).rd HP.out.nr) HP.out.nb HA.out.n HP.out.size (by omega)).mono ?_
    rintro e w1 ⟨rfl, v1, h1⟩
    go_wp2
    go_end0
    exact ⟨rfl, v1, by rw [HR.out]; exact ((Wto.refl H.out).ext (Ext.alloc _ _)).trans h1⟩
  by_cases k1 : kind = 1
  · subst k1
    have HR : Hid (wput st ⟨1, size, n, NA, nc, ns, SA, sc, ss, BA, bc, bs⟩ = wtext st (ss.map txt)) := Lib.hid rfl
    clear k0
    go_enter Try.func20, Try.ntmps20
    go_wp2_with fail
    refine (text_any q st v SA sc ss _ (H.out.ext (Ext.alloc _ _)) ((Ext.alloc _ _).rd HP.out.sr) HA.out.s (by omega) HP.out.sb).mono ?_
    rintro e w1 ⟨rfl, v1, h1⟩
    go_wp2
    go_end0
    exact ⟨rfl, v1, by rw [HR.out]; exact ((Wto.refl H.out).ext (Ext.alloc _ _)).trans h1⟩
  by_cases k2 : kind = 2
  · subst k2
    have HR : Hid (wput st ⟨2, size, n, NA, nc, ns, SA, sc, ss, BA, bc, bs⟩ = wblock st bs) := Lib.hid rfl
    clear k0 k1
    go_enter Try.func20, Try.ntmps20
    go_wp2_with fail
    refine (block_any q st v BA bc bs _ (H.out.ext (Ext.alloc _ _)) ((Ext.alloc _ _).rd HP.out.br) HA.out.b (by omega)).mono ?_
    rintro e w1 ⟨rfl, v1, h1⟩
    go_wp2
    go_end0
    exact ⟨rfl, v1, by rw [HR.out]; exact ((Wto.refl H.out).ext (Ext.alloc _ _)).trans h1⟩
  by_cases k3 : kind = 3
  · subst k3
    have HR : Hid (wput st ⟨3, size, n, NA, nc, ns, SA, sc, ss, BA, bc, bs⟩ = wraw st bs) := Lib.hid rfl
    clear k0 k1 k2
    go_enter Try.func20, Try.ntmps20
    go_wp2_with fail
    refine (raw_any q st v BA bc bs _ (H.out.ext (Ext.alloc _ _)) ((Ext.alloc _ _).rd HP.out.br) (fun _ => by omega)).mono ?_
    rintro e w1 ⟨rfl, v1, h1⟩
    go_wp2
    go_end0
    exact ⟨rfl, v1, by rw [HR.out]; exact ((Wto.refl H.out).ext (Ext.alloc _ _)).trans h1⟩
  · have HR : Hid (wput st ⟨kind, size, n, NA, nc, ns, SA, sc, ss, BA, bc, bs⟩ = st) := Lib.hid (by simp [wput, k0, k1, k2, k3])
    have b0 : (kind == 0) = false := by simp [k0]
    have b1 : (kind == 1) = false := by simp [k1]
    have b2 : (kind == 2) = false := by simp [k2]
    have b3 : (kind == 3) = false := by simp [k3]
    clear k0 k1 k2 k3 hlen h1
    go_enter Try.func20, Try.ntmps20
    go_wp2
    go_end0
    exact ⟨rfl, v, by rw [HR.out]; exact (Wto.refl H.out).ext (Ext.alloc _ _)⟩

end Go.Proofs.Ytjgghahjcmdnmaa
