/- SieveLess: a union lacks only what all of its filters lack. No condition. -/
import Derived.Test.YtmjkkmmgbndcoaaUnion2
import Derived.Test.YtmjkkmmgbndcoaaSieve2
namespace Go.Proofs.Ytmjkkmmgbndcoaa
open Go.ChangeShapes Go.WideShapes Go.ChangeAt Go.RowKit Pl
set_option linter.unusedVariables false

/-- of a filter: does it lack a hash; one that is not right lacks nothing -/
def lacksF (x : List Nat × Int) (h : Nat) : Bool := rightB x.1.length x.2 && lacksB x.2.toNat x.1 h

theorem lacks_any (A : Option Addr) (cap : Nat) (sh : Int) (h : Nat) (ws : List Nat) (w : World) (hh : h < 4294967296) (hws : ∀ x ∈ ws, x < 18446744073709551616) (hm : ws.length * 8 ≤ 140737488351232) (hR : Rd w A (u64s ws)) :
    Calls Try.prog 21 #[.agg #[.slice A ws.length cap, .int .i64 sh], .int .u32 h] w (fun e w' => e = .returned (.bool (lacksF (ws, sh) h)) ∧ Below w.heap.size w w') := by
  unfold lacksF
  cases hr : rightB ws.length sh
  · exact lacks_no A _ cap sh h w (by unfold maxLen; omega) hr
  · have hbd := rightB_bd hr
    obtain ⟨s, rfl⟩ := Int.eq_ofNat_of_zero_le (by omega : 0 ≤ sh)
    exact lacks_yes A cap s h ws w hh hws hR hr

theorem cov_orL {sh h : Nat} {a b : List Nat} (hl : b.length = a.length) (hn : 0 < a.length) (hc : Cov sh a h) : Cov sh (orAll a b) h := by
  have hk : h / 64 % a.length < a.length := Nat.mod_lt _ hn
  unfold Cov at hc ⊢
  rw [orAll_length hl]
  have e : (orAll a b).getD (h / 64 % a.length) 0 = a.getD (h / 64 % a.length) 0 ||| b.getD (h / 64 % a.length) 0 := by
    unfold orAll
    rw [List.getD_eq_getElem?_getD, List.getElem?_eq_getElem (by simp; omega), List.getD_eq_getElem?_getD, List.getElem?_eq_getElem hk, List.getD_eq_getElem?_getD, List.getElem?_eq_getElem (by omega)]
    simp
  rw [e]
  exact and_or_left hc

theorem orAll_comm (a b : List Nat) (hl : b.length = a.length) : orAll a b = orAll b a := by
  unfold orAll
  apply List.ext_getElem
  · simp; omega
  · intro i h1 h2
    simp [Nat.or_comm]

theorem cov_orR {sh h : Nat} {a b : List Nat} (hl : b.length = a.length) (hn : 0 < a.length) (hc : Cov sh b h) : Cov sh (orAll a b) h := by
  rw [orAll_comm a b hl]
  exact cov_orL hl.symm (by omega) hc

theorem cov_of_lacks {sh h : Nat} {ws : List Nat} (hc : lacksB sh ws h = false) : Cov sh ws h := by
  unfold lacksB at hc
  unfold Cov
  simpa using hc

theorem unionR_cov {sh : Int} {h : Nat} : ∀ (fs : List (List Nat × Int)) (acc ws : List Nat), 0 < acc.length → unionR sh acc fs = some ws →
    (Cov sh.toNat acc h ∨ ∃ f ∈ fs, Cov sh.toNat f.1 h) → Cov sh.toNat ws h
  | [], acc, ws, hn, hu, hc => by
    simp [unionR] at hu
    subst hu
    rcases hc with hc | ⟨f, hf, _⟩
    · exact hc
    · cases hf
  | f :: r, acc, ws, hn, hu, hc => by
    unfold unionR at hu
    split at hu
    · rename_i hcond
      refine unionR_cov r _ ws (by rw [orAll_length hcond.1]; exact hn) hu ?_
      rcases hc with hc | ⟨g, hg, hc⟩
      · exact .inl (cov_orL hcond.1 hn hc)
      · rcases List.mem_cons.1 hg with rfl | hg
        · exact .inl (cov_orR hcond.1 hn hc)
        · exact .inr ⟨g, hg, hc⟩
    · cases hu

theorem unionR_same {sh : Int} : ∀ (fs : List (List Nat × Int)) (acc ws : List Nat), unionR sh acc fs = some ws → ∀ f ∈ fs, f.1.length = acc.length ∧ f.2 = sh
  | [], _, _, _, f, hf => by cases hf
  | g :: r, acc, ws, hu, f, hf => by
    unfold unionR at hu
    split at hu
    · rename_i hcond
      rcases List.mem_cons.1 hf with rfl | hf
      · exact hcond
      · have := unionR_same r _ ws hu f hf
        rw [orAll_length hcond.1] at this
        exact this
    · cases hu

/-- what a union lacks, each of its filters lacks -/
theorem union_lacks {fs : List (List Nat × Int)} {ws : List Nat} {sh : Int} {h : Nat} (hu : unionS fs = some (ws, sh)) (hl : lacksF (ws, sh) h = true) : ∀ f ∈ fs, lacksF f h = true := by
  cases fs with
  | nil => cases hu
  | cons f0 r =>
    simp only [unionS] at hu
    by_cases hr : rightB f0.1.length f0.2 = true
    · rw [if_pos hr] at hu
      cases hR : unionR f0.2 f0.1 r with
      | none => rw [hR] at hu; cases hu
      | some ws' =>
        rw [hR] at hu
        simp only [Option.map_some, Option.some.injEq, Prod.mk.injEq] at hu
        obtain ⟨rfl, rfl⟩ := hu
        have hbd := rightB_bd hr
        have hall : ∀ f ∈ f0 :: r, f.1.length = f0.1.length ∧ f.2 = f0.2 := by
          intro f hf
          rcases List.mem_cons.1 hf with rfl | hf
          · exact ⟨rfl, rfl⟩
          · exact unionR_same r _ _ hR f hf
        intro f hf
        obtain ⟨e1, e2⟩ := hall f hf
        unfold lacksF at hl ⊢
        rw [e1, e2, hr, Bool.true_and]
        cases hx : lacksB f0.2.toNat f.1 h
        · have hc := cov_of_lacks hx
          have : Cov f0.2.toNat ws' h := by
            refine unionR_cov r f0.1 ws' (by omega) hR ?_
            rcases List.mem_cons.1 hf with rfl | hf
            · exact .inl hc
            · exact .inr ⟨f, hf, hc⟩
          rw [this.lacks] at hl
          simp at hl
        · rfl
    · rw [if_neg hr] at hu; cases hu

theorem unionR_lt {sh : Int} : ∀ (fs : List (List Nat × Int)) (acc ws : List Nat), (∀ y ∈ acc, y < 18446744073709551616) → (∀ f ∈ fs, ∀ y ∈ f.1, y < 18446744073709551616) → unionR sh acc fs = some ws → ∀ y ∈ ws, y < 18446744073709551616
  | [], acc, ws, ha, _, hu => by
    simp [unionR] at hu
    subst hu
    exact ha
  | f :: r, acc, ws, ha, hf, hu => by
    unfold unionR at hu
    split at hu
    · exact unionR_lt r _ ws (orAll_lt ha (hf f (by simp))) (fun g hg => hf g (List.mem_cons_of_mem _ hg)) hu
    · cases hu

theorem unionS_fit (fs : List Fl) (hfit : ∀ g ∈ fs, g.Fit) {ws : List Nat} {sh : Int} (hu : unionS (fs.map Fl.pair) = some (ws, sh)) :
    (∀ y ∈ ws, y < 18446744073709551616) ∧ ws.length * 8 ≤ 140737488351232 := by
  cases fs with
  | nil => cases hu
  | cons f0 r =>
    simp only [List.map_cons, unionS] at hu
    by_cases hr : rightB f0.pair.1.length f0.pair.2 = true
    · rw [if_pos hr] at hu
      cases hR : unionR f0.pair.2 f0.pair.1 (r.map Fl.pair) with
      | none => rw [hR] at hu; cases hu
      | some ws' =>
        rw [hR] at hu
        simp only [Option.map_some, Option.some.injEq, Prod.mk.injEq] at hu
        obtain ⟨rfl, rfl⟩ := hu
        have h0 := hfit f0 (by simp)
        refine ⟨unionR_lt _ _ _ h0.1 ?_ hR, ?_⟩
        · intro f hf
          obtain ⟨g, hg, rfl⟩ := List.mem_map.1 hf
          exact (hfit g (List.mem_cons_of_mem _ hg)).1
        · rw [unionR_length _ _ _ _ hR]
          exact h0.2.1
    · rw [if_neg hr] at hu; cases hu

set_option maxHeartbeats 1600000 in
theorem walk_SieveLess (v0 v1 : Value) (x0 : List Fl) (x1 : Nat) (w : World) (h0 : InFilters w v0 x0) (h1 : InU32 w v1 x1) :
    Calls Try.prog 11 #[v0, v1] w fun e w' => e = .returned (.bool true) ∧ Below w.heap.size w w' := by
  obtain ⟨A, cap, rfl, hA, hfit, hcap, hlen⟩ := h0
  obtain ⟨rfl, hx1⟩ := h1
  have HA := Lib.hid hA
  have HF := Lib.hid hfit
  clear hA hfit
  go_enter Try.func11, Try.ntmps11
  go_wp2_with fail
  refine (awake_any _).mono ?_
  rintro e w1 ⟨rfl, hb1⟩
  have x1' : Ext w w1 := hb1
  clear hb1
  go_wp2_with fail
  refine (union_any A cap x0 w1 (HA.out.ext x1') HF.out hcap hlen).mono ?_
  rintro e w2 (⟨hn, rfl, x2⟩ | ⟨ws, sh, hs, g, c, rfl, o2, hb2⟩)
  · have HN := Lib.hid hn
    clear hn
    go_wp2
    go_ret
    exact ⟨rfl, (x1'.trans x2).trans (Ext.alloc _ _)⟩
  · have HS := Lib.hid hs
    have x2 : Ext w1 w2 := hb2
    have xx := (x1'.trans x2).trans (Ext.alloc w2 (.cells #[.slice (some ⟨g, 0, none⟩) ws.length c, .int .i64 sh] 26))
    have HR := Lib.hid ((Ext.alloc w2 (.cells #[.slice (some ⟨g, 0, none⟩) ws.length c, .int .i64 sh] 26)).rd (Rd.of_own o2))
    obtain ⟨hws, hwl⟩ := unionS_fit x0 HF.out hs
    have HL := Lib.hid (lacks_any (some ⟨g, 0, none⟩) c sh x1 ws _ hx1 hws hwl HR.out)
    clear hs hb2 hws
    go_wp2_with fail
    refine HL.out.mono ?_
    rintro e w3 ⟨rfl, hb3⟩
    have x3 : Ext _ w3 := hb3
    cases hl : lacksF (ws, sh) x1
    · clear HL
      go_wp2
      go_ret
      exact ⟨rfl, xx.trans x3⟩
    · have HU := Lib.hid (union_lacks HS.out hl)
      replace xx := xx.trans x3
      clear HL hl hb3 x3 x2 x1' o2
      go_wp2
      go_loopw [8] (fun i wr => ∃ k : Nat, k ≤ x0.length ∧ i = .int .i64 k ∧ Ext w wr) (fun i _ => x0.length - (intOf i).toNat)
      case atStart => exact ⟨0, Nat.zero_le _, rfl, xx⟩
      case round =>
        clear xx
        obtain ⟨k, hk, rfl, xr⟩ := hrel
        by_cases hlt : k < x0.length
        · have hfk : x0[k]? = some (x0[k]) := List.getElem?_eq_getElem hlt
          have hmem : x0[k] ∈ x0 := List.getElem_mem hlt
          have hfit := HF.out x0[k] hmem
          have hlk := HU.out x0[k].pair (List.mem_map.2 ⟨_, hmem, rfl⟩)
          obtain ⟨b, off, rfl, e0, e1, hRk⟩ := HA.out k _ hfk
          generalize x0[k] = fk at *
          obtain ⟨Ak, ck, wk, sk⟩ := fk
          simp only at e0 e1 hRk
          replace e0 := xr.cell e0
          replace e1 := xr.cell e1
          have HLk := Lib.hid (lacks_any Ak ck sk x1 wk wr hx1 hfit.1 hfit.2.1 (xr.rd hRk))
          have hlk' : lacksF (wk, sk) x1 = true := hlk
          rw [hlk'] at HLk
          clear hfit hRk hfk hmem hlk hlk'
          go_wp2_with fail
          refine HLk.out.mono ?_
          rintro e w5 ⟨rfl, hb5⟩
          have x5 : Ext wr w5 := hb5
          go_wp2
          go_roundw
          case rel => exact ⟨k + 1, by omega, by go_num, xr.trans x5⟩
          case measure => simp [intOf]; omega
        · go_wp2
          go_ret
          exact ⟨rfl, xr⟩

set_option maxRecDepth 100000 in
theorem lifted_SieveLess (os : Os) (started : os.Started) (H : Type) (enc : TypeId × Value → H) :
    ReturnsInHanded {} Try.checked os 11 .any (Rows.sieveLessSpec.pre6 enc Try.prog Try.f11 Rows.sieveLessRow.domain false) (Rows.sieveLessSpec.post enc Try.prog Try.f11 false true false false) := by
  refine returnsInHanded_of_change_sized (C := Try.checked) own started (by kernel_rfl) Try.func11
    (ChangeSpec.witness6 (enc := enc) (C := Try.checked) false ⟨#[], #[.slice none 0 0, .int .u32 0], []⟩ 8 (by kernel_rfl) (by kernel_rfl) (by kernel_rfl) (by kernel_rfl)) ?_
  intro W base args ds gs before hval0 hW hcnd hsz0 _
  have hsz : (DataW.weightsEach Try.prog (Try.f11.params.toList ++ Rows.sieveLessSpec.plain.varTypes Try.prog) (ds ++ gs)).all (· ≤ reachBytes) = true := hsz0
  clear hsz0
  have hval : ∀ (j : Nat) t v, Try.f11.params[j]? = some t → args[j]? = some v → Value.okWide Try.prog W .any base t v := hval0
  have hW' := hW
  obtain ⟨p, q, hA0, hV, rfl, hfz, hnd⟩ := hW
  have hA : DataW.TrodAll enc Try.prog W 0 (fun _ => true) true Try.f11.params.toList args.toList ds p := hA0
  rw [Try.params11] at hA hval hsz
  obtain ⟨v0, vs0, d0, ds0, p0, q0, hargs, rfl, rfl, h0, r0⟩ := trodAll_cons hA
  obtain ⟨v1, vs1, d1, ds1, p1, q1, rfl, rfl, rfl, h1, r1⟩ := trodAll_cons r0
  obtain ⟨rfl, rfl, rfl⟩ := trodAll_nil r1
  obtain rfl : args = #[v0, v1] := by cases args; simp_all
  obtain ⟨rfl, rfl⟩ := trodVars_none hV
  have lt0 : ∀ x ∈ p0, x.block < W.heap.size := by obtain ⟨m, hm⟩ := h0; exact DataW.trod_lt m _ _ _ hm
  obtain ⟨x0, hx0⟩ := open_InFilters (hval 0 46 v0 rfl rfl) h0 (light_each (j := 0) hsz rfl rfl)
  have lt1 : ∀ x ∈ p1, x.block < W.heap.size := by obtain ⟨m, hm⟩ := h1; exact DataW.trod_lt m _ _ _ hm
  obtain ⟨x1, hx1⟩ := open_InU32 Try.underlying39 (hval 1 39 v1 rfl rfl) h1 (light_each (j := 1) hsz rfl rfl)
  clear hA0 hval0
  refine (walk_SieveLess v0 v1 x0 x1 W hx0 hx1).mono fun e W' ⟨he, bel⟩ => ?_
  subst he
  exact ⟨_, rfl, _, _, _, [], _, [], hW', trodAll_mk1 (shut_bool Try.underlying4 _), (trodAll_cons_mk (Below.trod laidOut (by kernel_rfl) (of_decide_eq_true (by kernel_rfl)) h0 bel lt0) (trodAll_cons_mk (Below.trod laidOut (by kernel_rfl) (of_decide_eq_true (by kernel_rfl)) h1 bel lt1) trodAll_mk0)), rfl, bel.frame _, fun h => by cases h⟩

theorem over_SieveLess : Rows.sieveLessRow.holds Try.pinned (OpenSpec.ofChange Rows.sieveLessSpec) :=
  OpenClaim.holds_of_wide 11 Try.f11 rfl rfl rfl rfl rfl rfl rfl ⟨rfl, rfl, rfl, rfl, rfl⟩ rfl rfl rfl rfl rfl (by kernel_rfl) Try.func11 (by kernel_rfl)
    (of_decide_eq_true (by kernel_rfl)) (by unfold Func.isWrapper; first | (rw [if_pos (by decide +kernel)]; kernel_rfl) | (rw [if_neg (by decide +kernel)]; exact ⟨rfl, rfl⟩))
    (fun os started H enc _ => lifted_SieveLess os started H enc)

/-- the statement -/
theorem holds_SieveLess : Rows.SieveLessSaid := over_SieveLess
#print axioms holds_SieveLess

end Go.Proofs.Ytmjkkmmgbndcoaa
