/- Pieces are written. -/
import Derived.Test.YtjgghahjcmdnmaaPut
namespace Go.Proofs.Ytjgghahjcmdnmaa
open Go.RowKit Pl
set_option linter.unusedVariables false

def wputs (st : WS) (ps : List Pc) : WS := ps.foldl wput st

theorem wputs_snoc (st : WS) (ps : List Pc) {k : Nat} (h : k < ps.length) : wputs st (ps.take (k + 1)) = wput (wputs st (ps.take k)) ps[k] := by
  unfold wputs
  rw [List.take_succ_eq_append_getElem h, List.foldl_append]
  rfl

theorem bulks_cons (p : Pc) (ps : List Pc) : bulks (p :: ps) = p.bulk + bulks ps := by simp [bulks]
theorem bulks_snoc (ps : List Pc) {k : Nat} (h : k < ps.length) : bulks (ps.take (k + 1)) = bulks (ps.take k) + ps[k].bulk := by
  unfold bulks
  rw [List.take_succ_eq_append_getElem h, List.map_append, List.sum_append, List.map_cons, List.map_nil, List.sum_cons, List.sum_nil]
  omega
theorem bulks_take : ∀ (ps : List Pc) (k : Nat), bulks (ps.take k) ≤ bulks ps
  | [], k => by simp
  | p :: r, 0 => by simp [bulks]
  | p :: r, k + 1 => by
    have := bulks_take r k
    rw [List.take_succ_cons, bulks_cons, bulks_cons]; omega

theorem wputs_len (ps : List Pc) : ∀ st : WS, (wputs st ps).2.length ≤ st.2.length + 4200 * bulks ps := by
  induction ps with
  | nil => intro st; simp [wputs]
  | cons p r ih =>
    intro st
    have h1 := ih (wput st p)
    have h2 := wput_len st p
    rw [bulks_cons]
    have e : wputs st (p :: r) = wputs (wput st p) r := rfl
    rw [e]
    omega

theorem bulks_len : ∀ ps : List Pc, ps.length ≤ bulks ps
  | [] => by simp
  | p :: r => by
    have := bulks_len r
    rw [bulks_cons, List.length_cons]; unfold Pc.bulk; omega

theorem RdP.at {w : World} {A : Option Addr} {ps : List Pc} (h : RdP w A ps) {i : Nat} (hi : i < ps.length) :
    ∃ b off, A = some ⟨b, off, none⟩ ∧ w.cell? ⟨b, off + i * 6, none⟩ = some (.int .i64 ps[i].kind) ∧ w.cell? ⟨b, off + i * 6 + 1, none⟩ = some (.int .i64 ps[i].size) ∧ w.cell? ⟨b, off + i * 6 + 2, none⟩ = some (.int .i64 ps[i].n) ∧
      w.cell? ⟨b, off + i * 6 + 3, none⟩ = some (.slice ps[i].NA ps[i].ns.length ps[i].nc) ∧ w.cell? ⟨b, off + i * 6 + 4, none⟩ = some (.slice ps[i].SA ps[i].ss.length ps[i].sc) ∧ w.cell? ⟨b, off + i * 6 + 5, none⟩ = some (.slice ps[i].BA ps[i].bs.length ps[i].bc) := by
  obtain ⟨b, off, cs, hA, hl, rfl, hc⟩ := h i _ (List.getElem?_eq_getElem hi)
  exact ⟨b, off, hA, hc 0 (by omega), hc 1 (by omega), hc 2 (by omega), hc 3 (by omega), hc 4 (by omega), hc 5 (by omega)⟩

theorem RdP.ext {w w' : World} {A : Option Addr} {ps : List Pc} (h : RdP w A ps) (hx : Ext w w') : RdP w' A ps := by
  intro i p hp
  obtain ⟨b, off, cs, hA, hl, hq, hc⟩ := h i p hp
  refine ⟨b, off, cs, hA, hl, hq, fun j hj => ?_⟩
  have := hc j hj
  rw [List.getElem?_eq_getElem (by omega)] at this ⊢
  exact hx.cell this

/-- what was written comes out -/
def Writ (w : World) (st : WS) (r : Ending) (w' : World) : Prop :=
  ∃ A c, r = .returned (.tuple #[.slice A (wgot st).length c, .bool (st.1 == 0)]) ∧ Ext w w' ∧ w'.ownsRow w.heap.size 5 1 (.slice A (wgot st).length c) (wgot st).length (u8s (wgot st))

theorem own_base {w : World} {base base' : Nat} {e : TypeId} {size n : Nat} {v : Value} {xs : List Value} (h : w.ownsRow base e size v n xs) (hb : base' ≤ base) : w.ownsRow base' e size v n xs := own_mono h hb

set_option maxHeartbeats 800000 in
theorem written_any (A : Option Addr) (cap : Nat) (ps : List Pc) (w : World) (hR : RdP w A ps) (hP : ∀ p ∈ ps, p.In w) (hk : bulks ps ≤ 1048576) :
    Calls Try.prog 25 #[.slice A ps.length cap] w fun r w' => Writ w (wputs (0, []) ps) r w' := by
  have HR := Lib.hid hR
  have HP := Lib.hid hP
  have hl63 : ps.length ≤ 9223372036854775807 := by have := bulks_len ps; omega
  have hlen := wputs_len ps (0, [])
  simp only [List.length_nil] at hlen
  clear hR hP
  go_enter Try.func25, Try.ntmps25
  go_wp2_with fail
  refine (newWriter_any w).mono ?_
  rintro e w1 ⟨rfl, h1, hx1⟩
  have H1 := Lib.hid (WF.new (Ext.refl w) h1 hx1)
  clear h1 hx1
  generalize hpa : w.heap.size = pa at *
  clear hpa
  go_wp2_with fail
  go_loopw [5] (fun i wr => ∃ (k : Nat) (v : Value), k ≤ ps.length ∧ i = .int .i64 k ∧ WF w wr pa (wputs (0, []) (ps.take k)) v) (fun i _ => ps.length - (intOf i).toNat)
  case atStart => exact ⟨0, _, Nat.zero_le _, rfl, H1.out⟩
  case round =>
    clear H1
    obtain ⟨k, v, hkl, rfl, hw⟩ := hrel
    by_cases hlt : k < ps.length
    · obtain ⟨b, off, rfl, c0, c1, c2, c3, c4, c5⟩ := HR.out.at hlt
      have hp := HP.out _ (List.getElem_mem hlt)
      have HE := Lib.hid (wputs_snoc (0, []) ps hlt)
      have hb1 := wputs_len (ps.take k) (0, [])
      have hb2 := bulks_snoc ps hlt
      have hb3 := bulks_take ps (k + 1)
      simp only [List.length_nil] at hb1
      generalize wputs (0, []) (ps.take k) = sk at *
      generalize ps[k] = p at *
      replace c0 := hw.ext.cell c0
      replace c1 := hw.ext.cell c1
      replace c2 := hw.ext.cell c2
      replace c3 := hw.ext.cell c3
      replace c4 := hw.ext.cell c4
      replace c5 := hw.ext.cell c5
      have HW := Lib.hid hw
      have HPI := Lib.hid (hp.ext hw.ext)
      have HPA := Lib.hid (hp.apart hw.foot)
      clear hw hp
      go_wp2_with fail
      refine (put_any pa sk v p wr HW.out.st HPI.out HPA.out (by omega)).mono ?_
      rintro e w2 ⟨rfl, v2, h2⟩
      have H2 := Lib.hid (HW.out.to h2)
      clear h2 HW HPI HPA c0 c1 c2 c3 c4 c5
      go_wp2
      go_roundw
      case rel => exact ⟨k + 1, v2, by omega, by go_num, by rw [HE.out]; exact H2.out⟩
      case measure => simp [intOf]; omega
    · rw [show ps.take k = ps from List.take_of_length_le (by omega)] at hw
      have HW := Lib.hid hw
      clear hw
      go_wp2_with fail
      refine (bytes_got pa _ v wr HW.out.st (by omega)).mono ?_
      rintro e w7 ⟨A7, c7, rfl, hx7, ho7⟩
      have HX := Lib.hid (HW.out.ext.trans hx7)
      have HO := Lib.hid (own_mono ho7 HW.out.ext.size)
      clear hx7 ho7 HW
      go_wp2
      exact bodyPost_ret (v := .tuple #[.slice A7 (wgot (wputs (0, []) ps)).length c7, .bool ((wputs (0, []) ps).1 == 0)]) (by simp [results, Try.results25, go_sem]) rfl ⟨A7, c7, rfl, HX.out, HO.out⟩

end Go.Proofs.Ytjgghahjcmdnmaa
