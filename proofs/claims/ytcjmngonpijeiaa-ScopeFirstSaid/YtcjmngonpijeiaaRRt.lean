/- clevisref14.Right: are all images' tables right; and what right tables find. -/
import Derived.Test.YtcjmngonpijeiaaRRight
import Derived.Test.YtcjmngonpijeiaaLookP
import Derived.Test.YtcjmngonpijeiaaLin
namespace Go.Proofs.Ytcjmngonpijeiaa
set_option maxRecDepth 100000
open Go.RowKit Pl
set_option linter.unusedVariables false

def allR (ims : List Im) : Bool := ims.all fun m => refR m.t m.l

theorem allR_each {ims : List Im} (h : allR ims = true) : ∀ m ∈ ims, rightT m.t m.l = true := fun m hm => by
  rw [right_eq]; exact List.all_eq_true.1 h m hm
theorem allR_len {ims : List Im} (h : allR ims = true) : ∀ m ∈ ims, m.t.bs.length < 4294967296 := fun m hm => by
  have := (right_full m.t m.l (allR_each h m hm)).2.1
  omega
/-- by right tables the same is found -/
theorem look_lin {r : Sym} {skip : Int} {ims : List Im} (h : allR ims = true) : lookF r skip ims = linF r skip ims := by
  have hf : ∀ k, k < ims.length → (findI r ims k).1 = firstP r (ims.getD k im0).l := fun k hk => by
    have hm : ims.getD k im0 ∈ ims := getD_mem hk
    obtain ⟨h1, _, _, h4, h5⟩ := right_full _ _ (allR_each h _ hm)
    exact (find_first _ r _ h1 h4 h5).1
  have hh : ∀ k, k < ims.length → hitB r skip ims k = linH r skip ims k := fun k hk => by
    unfold hitB linH
    rw [hf k hk]
  rcases hq : (List.range ims.length).find? (linH r skip ims) with _ | k
  · have hn : ∀ j, j < ims.length → linH r skip ims j = false := fun j hj => by
      have := List.find?_eq_none.1 hq j (List.mem_range.2 hj)
      simpa using this
    rw [lin_none hn, (look_none (fun j hj => by rw [hh j hj]; exact hn j hj)).1]
  · obtain ⟨h1, as1, bs1, h2, h3⟩ := List.find?_eq_some_iff_append.1 hq
    have hk : k < ims.length := by
      have : k ∈ List.range ims.length := by rw [h2]; simp
      exact List.mem_range.1 this
    have hlen : as1.length = k := by
      have h4 := congrArg (fun l : List Nat => l[as1.length]?) h2
      rw [List.getElem?_append_right (Nat.le_refl _), Nat.sub_self, List.getElem?_cons_zero] at h4
      have hal : as1.length < ims.length := by
        have := congrArg List.length h2
        simp at this
        omega
      rw [List.getElem?_range hal] at h4
      simpa using h4
    have hn : ∀ j, j < k → linH r skip ims j = false := fun j hj => by
      have h4 := congrArg (fun l : List Nat => l[j]?) h2
      rw [List.getElem?_range (by omega), List.getElem?_append_left (by omega), List.getElem?_eq_getElem (by omega)] at h4
      simp only [Option.some.injEq] at h4
      have := h3 as1[j] (List.getElem_mem _)
      rw [← h4] at this
      simpa using this
    rw [lin_hit hk hn h1, (look_hit hk (fun j hj => by rw [hh j (by omega)]; exact hn j hj) (by rw [hh k hk]; exact h1)).1, hf k hk]

set_option maxRecDepth 100000 in
set_option maxHeartbeats 3200000 in
theorem rright14_any (A : Option Addr) (c : Nat) (ims : List Im) (w : World) (h : ImsIn w A ims) :
    Calls Try.prog 21 #[.slice A ims.length c] w fun e w' => e = .returned (.bool (allR ims)) ∧ Ext w w' := by
  have HH := Lib.hid h
  have hil := h.len
  have HFA := Lib.hid (fun m w' hm hx => rright_any m.t m.SA m.sc m.l w' (h.each m hm |>.ext (show Ext w w' from hx)).t (h.each m hm |>.ext (show Ext w w' from hx)).rd (h.each m hm).fit (h.each m hm).len)
  have HNO : Hid (∀ k, k < ims.length → refR (ims.getD k im0).t (ims.getD k im0).l = false → allR ims = false) := Lib.hid (fun k hk hf => List.all_eq_false.2 ⟨_, getD_mem hk, by rw [hf]; simp⟩)
  have HYES : Hid ((∀ k, k < ims.length → refR (ims.getD k im0).t (ims.getD k im0).l = true) → allR ims = true) := Lib.hid (fun hq => List.all_eq_true.2 (fun m hm => by
    obtain ⟨j, hj, he⟩ := List.mem_iff_getElem.1 hm
    have := hq j hj
    rw [List.getD_eq_getElem?_getD, List.getElem?_eq_getElem hj, Option.getD_some, he] at this
    exact this))
  clear h
  generalize allR ims = al at *
  go_enter Try.func21, Try.ntmps21
  go_wp2_with fail
  go_loopw [3] (fun i wr => ∃ k : Nat, k ≤ ims.length ∧ i = .int .i64 k ∧ (∀ j, j < k → refR (ims.getD j im0).t (ims.getD j im0).l = true) ∧ Ext w wr) (fun i _ => ims.length - (intOf i).toNat)
  case atStart => exact ⟨0, Nat.zero_le _, rfl, fun j hj => absurd hj (by omega), Ext.refl _⟩
  case round =>
    obtain ⟨k, hk, rfl, hn, hx⟩ := hrel
    have HN := Lib.hid hn
    have HX := Lib.hid hx
    clear hn hx
    by_cases hlt : k < ims.length
    · obtain ⟨yb, yo, rfl, hyb, hy⟩ := HH.out.rd.at hlt
      have hgd : ims.getD k im0 = ims[k] := by rw [List.getD_eq_getElem?_getD, List.getElem?_eq_getElem hlt]; rfl
      have HFC := Lib.hid (fun (u : EW wr) => HFA.out ims[k] u.w (List.getElem_mem hlt) (HX.out.trans u.ext))
      have hI := hy.ext HX.out
      have HNK := Lib.hid (HNO.out k hlt)
      have HNEXT : Hid (refR (ims.getD k im0).t (ims.getD k im0).l = true → ∀ j, j < k + 1 → refR (ims.getD j im0).t (ims.getD j im0).l = true) := Lib.hid (fun h j hj => by
        rcases Nat.lt_or_ge j k with h1 | h1
        · exact HN.out j h1
        · have : j = k := by omega
          subst this; exact h)
      have HGD := Lib.hid hgd
      clear hy hgd
      rw [HGD.out] at HNK
      have HNEXT2 : Hid (refR ims[k].t ims[k].l = true → ∀ j, j < k + 1 → refR (ims.getD j im0).t (ims.getD j im0).l = true) := Lib.hid (by rw [← HGD.out]; exact HNEXT.out)
      clear HGD HNEXT
      generalize ims[k] = m at *
      generalize refR m.t m.l = rb at *
      obtain ⟨d0, d1, d2, d3, d4, SA, sc, l, ⟨BA, bc, bs, WA, wc, ws, sh⟩, d9, d10, d11, d12, d13, d14⟩ := m
      obtain ⟨a0, a1, a2, a3, a4, a5, a6, a7, a8, a9, a10, a11, a12, a13, a14⟩ := hI
      simp only [Tb.vals] at a5 a6 a7 a8 HFC
      have e5 : ∀ u : EW wr, u.w.cell? _ = _ := fun u => u.cell a5
      have e6 : ∀ u : EW wr, u.w.cell? _ = _ := fun u => u.cell a6
      have e7 : ∀ u : EW wr, u.w.cell? _ = _ := fun u => u.cell a7
      have e8 : ∀ u : EW wr, u.w.cell? _ = _ := fun u => u.cell a8
      clear a0 a1 a2 a3 a4 a5 a6 a7 a8 a9 a10 a11 a12 a13 a14
      cases rb
      · have HF := Lib.hid (HNK.out rfl)
        go_wp2_with fail
        refine wp_region_ext (by kernel_rfl) (by kernel_rfl) ?_
        repeat (go_big_quiet_step ((go_at_call 31; exact ext_call (HFC.out _))))
        refine wpQuiet_nil ?_
        rintro w5 ⟨u5, rfl⟩
        go_wp2
        go_ret
        exact ⟨retv (by rw [HF.out]; rfl), HX.out.trans u5.ext⟩
      · have HF := Lib.hid (HNEXT2.out rfl)
        go_wp2_with fail
        refine wp_region_ext (by kernel_rfl) (by kernel_rfl) ?_
        repeat (go_big_quiet_step ((go_at_call 31; exact ext_call (HFC.out _))))
        refine wpQuiet_nil ?_
        rintro w5 ⟨u5, rfl⟩
        go_wp2
        go_roundw
        case rel => exact ⟨k + 1, by omega, by go_num, HF.out, HX.out.trans u5.ext⟩
        case measure => simp [intOf]; omega
    · have HF := Lib.hid (HYES.out (fun j hj => HN.out j (by omega)))
      go_wp2
      go_ret
      exact ⟨retv (by rw [HF.out]; rfl), HX.out⟩

end Go.Proofs.Ytcjmngonpijeiaa
