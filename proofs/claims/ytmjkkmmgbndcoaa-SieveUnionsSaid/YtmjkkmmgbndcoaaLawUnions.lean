/- SieveUnions: the union of any filters is the reference's; they stay as they were. No condition. -/
import Derived.Test.YtmjkkmmgbndcoaaUnionR
import Derived.Test.YtmjkkmmgbndcoaaSieve7
import Derived.Test.YtmjkkmmgbndcoaaSieve8
namespace Go.Proofs.Ytmjkkmmgbndcoaa
open Go.ChangeShapes Go.WideShapes Go.ChangeAt Go.RowKit Pl
set_option linter.unusedVariables false

theorem unionB_any (A : Option Addr) (cap : Nat) (fs : List Fl) (w : World) (hA : RdF w A fs) (hfit : ∀ g ∈ fs, g.Fit) (hlen : fs.length * 32 ≤ 140737488351232) :
    Calls Try.prog 28 #[.slice A fs.length cap] w (RetB w (unionS (fs.map Fl.pair))) := by
  cases fs with
  | nil => exact (unionR_nil A cap w).mono fun e w' h => .inl ⟨rfl, h.1, h.2⟩
  | cons f fs =>
    cases hr : rightB f.ws.length f.sh
    · have hf := hfit f (by simp)
      refine (unionR_bad A cap f fs w hA hlen (by have := hf.2.1; unfold maxLen; omega) hr).mono fun e w' h => .inl ⟨?_, h.1, h.2⟩
      show unionS ((f.ws, f.sh) :: fs.map Fl.pair) = none
      simp [unionS, hr]
    · refine (unionR_walk A cap f fs w hA hfit hlen hr).mono fun e w' h => ?_
      have hu : unionS ((f :: fs).map Fl.pair) = (unionR f.sh f.ws (fs.map Fl.pair)).map fun ws => (ws, f.sh) := by
        show unionS ((f.ws, f.sh) :: fs.map Fl.pair) = _
        simp [unionS, hr]
      rw [hu]
      exact h

def flCells : List Fl → List Value
  | [] => []
  | f :: r => .slice f.A f.ws.length f.cap :: .int .i64 f.sh :: flCells r

theorem flCells_length : ∀ os : List Fl, (flCells os).length = os.length * 2
  | [] => rfl
  | f :: r => by simp only [flCells, List.length_cons, flCells_length r]; omega

theorem flCells_append : ∀ (a b : List Fl), flCells (a ++ b) = flCells a ++ flCells b
  | [], b => rfl
  | f :: r, b => by simp only [List.cons_append, flCells, flCells_append r b]

theorem flCells_get : ∀ (os : List Fl) (i : Nat) (f : Fl), os[i]? = some f → (flCells os)[i * 2]? = some (.slice f.A f.ws.length f.cap) ∧ (flCells os)[i * 2 + 1]? = some (.int .i64 f.sh)
  | [], i, f, h => by simp at h
  | g :: r, 0, f, h => by
    obtain rfl : g = f := by simpa using h
    exact ⟨rfl, rfl⟩
  | g :: r, i + 1, f, h => by
    have := flCells_get r i f (by simpa using h)
    rw [show (i + 1) * 2 = i * 2 + 1 + 1 by omega]
    exact ⟨by simpa [flCells] using this.1, by simpa [flCells] using this.2⟩

theorem flCells_one : ∀ (os : List Fl), ∀ u ∈ flCells os, u.oneCell' = true
  | [], u, h => by cases h
  | f :: r, u, h => by
    simp only [flCells, List.mem_cons] at h
    rcases h with rfl | rfl | h
    · rfl
    · rfl
    · exact flCells_one r u h

/-- each of these filters' words is a row of the call's own -/
def OwnAll (w : World) (base : Nat) (os : List Fl) : Prop := ∀ (i : Nat) (f : Fl), os[i]? = some f → w.ownsRow base 53 1 (.slice f.A f.ws.length f.cap) f.ws.length (u64s f.ws)

theorem own_grown {w w' : World} {base : Nat} {e e' : TypeId} {size size' n n' : Nat} {v v' : Value} {xs xs' : List Value} (h : w.ownsRow base e size v n xs) (h' : w.ownsRow base e' size' v' n' xs') (hne : e ≠ e') (hg : w.grownBy w' v'.ownBlock) : w'.ownsRow base e size v n xs := by
  rcases h.2 with ⟨rfl, _⟩ | ⟨g, cap, cur, rfl, _, hh, _⟩
  · exact h.kept hg (.inl rfl)
  · refine h.kept hg (.inr ?_)
    rcases h'.2 with ⟨rfl, _⟩ | ⟨g', cap', cur', rfl, _, hh', _⟩
    · simp [Value.ownBlock]
    · simp only [Value.ownBlock, ne_eq, Option.some.injEq]
      rintro rfl
      rw [hh] at hh'
      injection hh' with hh'
      injection hh' with _ ht
      exact hne ht

theorem rdf_own {w : World} {base : Nat} {A : Option Addr} {n cap : Nat} {os : List Fl} (h : w.ownsRow base 26 2 (.slice A n cap) n (flCells os)) (hn : os.length = n) (ho : OwnAll w base os) : RdF w A os := by
  intro i f hf
  have hi : i < os.length := (List.getElem?_eq_some_iff.1 hf).1
  obtain ⟨g, cap', hv, _, _, _, _⟩ := own_at h (by omega)
  simp only [Value.slice.injEq, true_and] at hv
  obtain ⟨rfl, rfl⟩ := hv
  have hc := h.cells (g := g) rfl
  obtain ⟨c0, c1⟩ := flCells_get os i f hf
  have e0 := hc _ _ c0
  have e1 := hc _ _ c1
  rw [Addr.add_lit] at e0 e1
  exact ⟨g, 0, rfl, e0, by rw [show 0 + i * 2 + 1 = 0 + (i * 2 + 1) by omega]; exact e1, Rd.of_own (ho i f hf)⟩

theorem own_cap {w : World} {base : Nat} {e : TypeId} {size n cap : Nat} {A : Option Addr} {xs : List Value} (h : w.ownsRow base e size (.slice A n cap) n xs) : n ≤ cap := by
  rcases h.2 with ⟨hv, rfl⟩ | ⟨g, cap', cur, hv, _, _, hnc, _⟩
  · exact Nat.zero_le _
  · simp only [Value.slice.injEq, true_and] at hv
    omega

theorem four_next {W0 w w' : World} {a0 o0 a1 o1 a2 o2 a3 o3 : Nat} {v0 v1 v2 v3 : Value} (h : w.cell? ⟨a0, o0, none⟩ = some v0 ∧ w.cell? ⟨a1, o1, none⟩ = some v1 ∧ w.cell? ⟨a2, o2, none⟩ = some v2 ∧ w.cell? ⟨a3, o3, none⟩ = some v3 ∧ Hid (Ext W0 w)) (hb : Ext w w') :
    w'.cell? ⟨a0, o0, none⟩ = some v0 ∧ w'.cell? ⟨a1, o1, none⟩ = some v1 ∧ w'.cell? ⟨a2, o2, none⟩ = some v2 ∧ w'.cell? ⟨a3, o3, none⟩ = some v3 ∧ Hid (Ext W0 w') :=
  ⟨hb.cell h.1, hb.cell h.2.1, hb.cell h.2.2.1, hb.cell h.2.2.2.1, Lib.hid (h.2.2.2.2.out.trans hb)⟩

theorem info_flt : (Try.prog.info? 26).map (fun i => (i.zero, i.size, i.bytes)) = some (some (.agg #[.slice none 0 0, .int .i64 0]), 2, 32) := by kernel_rfl

set_option maxHeartbeats 3200000 in
theorem walk_SieveUnions (v0 : Value) (x0 : List Fl) (w : World) (h0 : InFilters w v0 x0) :
    Calls Try.prog 9 #[v0] w fun e w' => e = .returned (.bool true) ∧ Below w.heap.size w w' := by
  obtain ⟨A, cap, rfl, hA, hfit, hcap, hlen⟩ := h0
  obtain ⟨i0, hi0, hz0, hz1, hz2⟩ := info_parts info_flt
  have HA := Lib.hid hA
  have HF := Lib.hid hfit
  clear hA hfit
  go_enter Try.func9, Try.ntmps9
  go_wp2_with fail
  refine (awake_any _).mono ?_
  rintro e w1 ⟨rfl, hb1⟩
  have x1 : Ext w w1 := hb1
  clear hb1
  go_wp2_with fail
  go_loopw [4, 5] (fun v i wr => ∃ (k : Nat) (os : List Fl) (A' : Option Addr) (c' : Nat), k ≤ x0.length ∧ i = .int .i64 k ∧ v = .slice A' k c' ∧ os.length = k ∧ os.map Fl.pair = (x0.take k).map Fl.pair ∧
      wr.ownsRow w1.heap.size 26 2 (.slice A' k c') k (flCells os) ∧ OwnAll wr w1.heap.size os ∧ Ext w1 wr) (fun _ i _ => x0.length - (intOf i).toNat)
  case atStart => exact ⟨0, [], none, 0, Nat.zero_le _, rfl, rfl, rfl, rfl, World.ownsRow_nil _ _ _ _, fun i f h => by simp at h, Ext.refl _⟩
  case round =>
    obtain ⟨k, os, A', c', hk, rfl, rfl, hos, hpair, ho, hall, xr⟩ := hrel
    by_cases hlt : k < x0.length
    · have hfk : x0[k]? = some (x0[k]) := List.getElem?_eq_getElem hlt
      have hfit := HF.out x0[k] (List.getElem_mem hlt)
      have hts : x0.take (k + 1) = x0.take k ++ [x0[k]] := List.take_succ_eq_append_getElem hlt
      obtain ⟨b, off, rfl, e0, e1, hRk⟩ := HA.out k _ hfk
      generalize x0[k] = fk at *
      obtain ⟨Ak, ck, wk, sk⟩ := fk
      simp only at e0 e1 hRk
      replace e0 := (x1.trans xr).cell e0
      replace e1 := (x1.trans xr).cell e1
      have HRA := Lib.hid (refAdd_any Ak ck sk wk none 0 [] wr hfit.1 (by simp) (by simp) hfit.2.1 ((x1.trans xr).rd hRk) (Rd.nil _ _) (.inl rfl))
      have HOS := Lib.hid hos
      have HPA := Lib.hid hpair
      have HTS := Lib.hid hts
      have HO := Lib.hid ho
      have HAL := Lib.hid hall
      clear hRk hfk hos hpair hts ho hall
      go_wp2_with fail
      refine HRA.out.mono ?_
      rintro e w2 ⟨A2, c2, rfl, o2, hb2⟩
      have x2 : Ext wr w2 := hb2
      have o2 : w2.ownsRow wr.heap.size 53 1 (.slice A2 wk.length c2) wk.length (u64s wk) := o2
      have z2 := xr.size
      have o2' := own_mono o2 (base' := w1.heap.size) z2
      have ho2 := x2.own HO.out
      have x3 := Ext.alloc w2 (.cells #[.slice A2 wk.length c2, .int .i64 sk] 26)
      have ho3 := x3.own ho2
      have HO3 := Lib.hid ho3
      have hb3 := Blk.new w2 26 #[.slice A2 wk.length c2, .int .i64 sk]
      have HB3 := Lib.hid hb3
      have zz2 := x2.size
      clear HRA ho2 ho3 hb3 hb2
      go_wp2_with (at_builtin; refine wpList_append_own _ rfl _ _ 46 rfl w1.heap.size 26 i0 (.agg #[.slice none 0 0, .int .i64 0]) 2 32 Try.underlying46 hi0 hz0 hz1 hz2 rfl (by decide) (.slice A' k c') k (flCells os) rfl HO3.out ⟨w2.heap.size, 0, none⟩ 1 1 [.slice A2 wk.length c2, .int .i64 sk] rfl ?c1 ?c2 ?c3 ?c4 ?c5 ?c6 ?_)
      case c1 => rfl
      case c2 =>
        intro j u hu
        rw [Addr.add_lit, Nat.zero_add]
        exact HB3.out.cell j (by simpa using hu)
      case c3 =>
        intro u hu
        simp only [List.mem_cons, List.not_mem_nil, or_false] at hu
        rcases hu with rfl | rfl <;> rfl
      case c4 => unfold maxLen; omega
      case c5 => omega
      case c6 => simp; omega
      intro v3 w3 o3 g3 _
      obtain ⟨g, c3, rfl, _, _, _, _⟩ := own_at o3 (by omega)
      have o2b := x3.own o2'
      have hal3 : OwnAll w3 w1.heap.size (os ++ [⟨A2, c2, wk, sk⟩]) := by
        intro i f hf
        by_cases hi : i < os.length
        · rw [List.getElem?_append_left hi] at hf
          exact own_grown ((x2.trans x3).own (HAL.out i f hf)) HO3.out (by decide) g3
        · rw [List.getElem?_append_right (by omega)] at hf
          have hfe : f = ⟨A2, c2, wk, sk⟩ := by
            match hj : i - os.length, hf with
            | 0, hf => simpa using hf.symm
            | j + 1, hf => simp at hf
          subst hfe
          exact own_grown o2b HO3.out (by decide) g3
      have x4 : Ext w1 w3 := by
        have xa := xr.trans (x2.trans x3)
        refine Below.grown xa.below g3 xa.size (fun b hb => ?_)
        exact (HO3.out.lt b hb).1
      have HAL3 := Lib.hid hal3
      have O3 := Lib.hid o3
      clear hal3 o3 g3 o2b HAL HO HO3 HB3 o2 o2' x2 x3 xr
      go_wp2
      go_roundw
      case rel =>
        refine ⟨k + 1, os ++ [⟨A2, c2, wk, sk⟩], _, c3, by omega, by go_num, rfl, by simp [HOS.out], ?_, ?_, HAL3.out, x4⟩
        · rw [List.map_append, HTS.out, List.map_append, HPA.out]
          rfl
        · rw [flCells_append]
          exact O3.out
      case measure => simp [intOf]; omega
    · obtain rfl : k = x0.length := by omega
      have hpa : os.map Fl.pair = x0.map Fl.pair := by rw [hpair, List.take_length]
      have HPA := Lib.hid hpa
      have HOS := Lib.hid hos
      have hfo : ∀ g ∈ os, g.Fit := by
        intro g hg
        have : g.pair ∈ os.map Fl.pair := List.mem_map.2 ⟨g, hg, rfl⟩
        rw [hpa] at this
        obtain ⟨f, hf, he⟩ := List.mem_map.1 this
        have hff := HF.out f hf
        simp only [Fl.pair, Prod.mk.injEq] at he
        unfold Fl.Fit at hff ⊢
        rw [← he.1, ← he.2]
        exact hff
      have hrd := rdf_own ho hos hall
      have hcp := own_cap ho
      have HFO := Lib.hid hfo
      have HU := Lib.hid (union_any A' c' os wr hrd hfo (by rw [hos]; exact hcp) (by rw [hos]; exact hlen))
      rw [hos, hpa] at HU
      have HRD := Lib.hid hrd
      clear hpair hpa hos hfo hrd ho hall
      have xw := x1.trans xr
      clear xr x1
      go_wp2_with fail
      refine HU.out.mono ?_
      rintro e w2 (⟨hn, rfl, x2⟩ | ⟨ws, sh, hs, gf, cf, rfl, of, hb2⟩)
      · have HN := Lib.hid hn
        have x3 := x2.trans (Ext.alloc w2 (.cells #[.slice none 0 0, .int .i64 0] 26))
        have HB := Lib.hid (unionB_any A cap x0 _ (HA.out.ext (xw.trans x3)) HF.out hlen)
        have c0 := cnew w2 #[.slice none 0 0, .int .i64 0] 26 0 rfl
        clear hn HU
        go_wp2_with fail
        refine HB.out.mono ?_
        rintro e w4 (⟨hn, rfl, x4⟩ | ⟨ws, sh, A4, c4, hs, rfl, _, x4⟩)
        · replace c0 := x4.cell c0
          clear hn
          have c0' : w4.cell? ⟨w2.heap.size, 0, none⟩ = some (.slice none 0 0) := c0
          have l0 := cell_lt c0
          go_wp2
          go_ret
          exact ⟨rfl, (xw.trans (x3.trans x4)).trans (Ext.alloc _ _)⟩
        · rw [HN.out] at hs
          cases hs
      · have HS := Lib.hid hs
        have x2 : Ext wr w2 := hb2
        have a2 := Ext.alloc w2 (.cells #[.slice (some ⟨gf, 0, none⟩) ws.length cf, .int .i64 sh] 26)
        have kf := Blk.new w2 26 #[.slice (some ⟨gf, 0, none⟩) ws.length cf, .int .i64 sh]
        have lf := own_lt of
        replace of := a2.own of
        have HB := Lib.hid (unionB_any A cap x0 _ (HA.out.ext (xw.trans (x2.trans a2))) HF.out hlen)
        have xa := x2.trans a2
        clear hs HU hb2 x2 a2
        go_wp2_with fail
        generalize w2.alloc (.cells #[.slice (some ⟨gf, 0, none⟩) ws.length cf, .int .i64 sh] 26) = w3 at *
        refine HB.out.mono ?_
        rintro e w4 (⟨hn, rfl, x4⟩ | ⟨ws', sh', A4, c4, hs, rfl, o4, x4⟩)
        · rw [HS.out] at hn
          cases hn
        · rw [HS.out] at hs
          simp only [Option.some.injEq, Prod.mk.injEq] at hs
          obtain ⟨rfl, rfl⟩ := hs
          have a4 := Ext.alloc w4 (.cells #[.slice A4 ws.length c4, .int .i64 sh] 26)
          have d0 := cnew w4 #[.slice A4 ws.length c4, .int .i64 sh] 26 0 rfl
          have d1 := cnew w4 #[.slice A4 ws.length c4, .int .i64 sh] 26 1 rfl
          replace kf := (x4.trans a4).blk kf
          replace of := (x4.trans a4).own of
          replace o4 := a4.own o4
          replace xa := xa.trans (x4.trans a4)
          have c0 : (w4.alloc (.cells #[.slice A4 ws.length c4, .int .i64 sh] 26)).cell? ⟨w2.heap.size, 0, none⟩ = some (.slice (some ⟨gf, 0, none⟩) ws.length cf) := kf.cell 0 rfl
          have c1 : (w4.alloc (.cells #[.slice A4 ws.length c4, .int .i64 sh] 26)).cell? ⟨w2.heap.size, 1, none⟩ = some (.int .i64 sh) := kf.cell 1 rfl
          clear x4 a4 HB kf
          have hfw := unionS_fit x0 HF.out HS.out
          have hml : ws.length ≤ maxLen := by unfold maxLen; omega
          have HSm := Lib.hid (same_any (some ⟨gf, 0, none⟩) A4 cf c4 ws ws sh sh _ (Rd.of_own of) (Rd.of_own o4) hml hml)
          have s1 : sameB (ws, sh) (ws, sh) = true := by unfold sameB; simp
          rw [s1] at HSm
          clear s1
          go_wp2_with fail
          generalize w4.alloc (.cells #[.slice A4 ws.length c4, .int .i64 sh] 26) = w5 at *
          refine HSm.out.mono ?_
          rintro e w6 ⟨rfl, hb6⟩
          have x6 : Ext w5 w6 := hb6
          replace of := x6.own of
          replace c0 := x6.cell c0
          replace c1 := x6.cell c1
          replace xa := xa.trans x6
          clear HSm o4 d0 d1 hb6 x6
          have z6 := xa.size
          go_wp2_with fail
          refine (spoil_any _ gf ws.length cf sh _ _ hml of).mono ?_
          rintro e w7 ⟨rfl, hg7⟩
          have x7 : Ext wr w7 := Below.grown xa.below hg7 z6 (fun k hk => by simp at hk; omega)
          have hR7 := HRD.out.ext x7
          have HR7 := Lib.hid hR7
          have xw7 := xw.trans x7
          clear hR7 x7 hg7 of c0 c1 xa z6 lf
          go_wp2_with fail
          go_loopw [10, 11] (fun b i wi => ∃ k : Nat, k ≤ x0.length ∧ i = .int .i64 k ∧ b = .bool true ∧ Ext w7 wi) (fun _ i _ => x0.length - (intOf i).toNat)
          case atStart => exact ⟨0, Nat.zero_le _, rfl, rfl, Ext.refl _⟩
          case round =>
            obtain ⟨k, hk, rfl, rfl, xr⟩ := hrel
            by_cases hlt : k < x0.length
            · have hfk : x0[k]? = some (x0[k]) := List.getElem?_eq_getElem hlt
              have hok : os[k]? = some (os[k]'(by rw [HOS.out]; exact hlt)) := List.getElem?_eq_getElem _
              have hpp : (os[k]'(by rw [HOS.out]; exact hlt)).pair = (x0[k]).pair := by
                have h1 : (os.map Fl.pair)[k]? = (x0.map Fl.pair)[k]? := by rw [HPA.out]
                rw [List.getElem?_map, List.getElem?_map, hfk, hok] at h1
                simpa using h1
              have hfit := HF.out x0[k] (List.getElem_mem hlt)
              obtain ⟨b, off, hAe, e0, e1, hRk⟩ := HA.out k _ hfk
              obtain ⟨b', off', hAe', e0', e1', hRk'⟩ := HR7.out k _ hok
              generalize x0[k] = fk at *
              generalize os[k]'(by rw [HOS.out]; exact hlt) = ok at *
              obtain ⟨Ak, ck, wk, sk⟩ := fk
              obtain ⟨Ao, co, wo, so⟩ := ok
              simp only [Fl.pair, Prod.mk.injEq] at hpp
              obtain ⟨rfl, rfl⟩ := hpp
              simp only at e0 e1 hRk e0' e1' hRk'
              subst hAe hAe'
              replace e0 := (xw7.trans xr).cell e0
              replace e1 := (xw7.trans xr).cell e1
              replace e0' := xr.cell e0'
              replace e1' := xr.cell e1'
              have l0 := cell_lt e0
              have l0' := cell_lt e0'
              have HRk := Lib.hid ((xw7.trans xr).rd hRk)
              have HRk' := Lib.hid (xr.rd hRk')
              have hmk : wo.length ≤ maxLen := by have := hfit.2.1; unfold maxLen; simp only at this; omega
              have HMK := Lib.hid hmk
              have q0 : wr.drew.cell? ⟨b, off + k * 2, none⟩ = some (.slice Ak wo.length ck) := e0
              have q1 : wr.drew.cell? ⟨b, off + k * 2 + 1, none⟩ = some (.int .i64 so) := e1
              have q2 : wr.drew.cell? ⟨b', off' + k * 2, none⟩ = some (.slice Ao wo.length co) := e0'
              have q3 : wr.drew.cell? ⟨b', off' + k * 2 + 1, none⟩ = some (.int .i64 so) := e1'
              have q4 : Hid (Ext wr wr.drew) := Lib.hid (Ext.drew _)
              have s1 : Hid (sameB (wo, so) (wo, so) = true) := Lib.hid (by unfold sameB; simp)
              have hik : (k : Int) < (x0.length : Int) := by omega
              clear hRk hRk' hfit hfk hok hmk
              go_wp2_with fail
              go_region_held3 (fun w' => w'.cell? ⟨b, off + k * 2, none⟩ = some (.slice Ak wo.length ck) ∧ w'.cell? ⟨b, off + k * 2 + 1, none⟩ = some (.int .i64 so) ∧ w'.cell? ⟨b', off' + k * 2, none⟩ = some (.slice Ao wo.length co) ∧ w'.cell? ⟨b', off' + k * 2 + 1, none⟩ = some (.int .i64 so) ∧ Hid (Ext wr w'))
                (first | exact ⟨q0, q1, q2, q3, q4⟩ | exact four_next (by assumption) (by assumption))
                (first | (go_at_call 17; refine (same_any _ _ _ _ _ _ _ _ _ ?_ ?_ HMK.out HMK.out).mono ?_; (exact Ext.rd (Hid.out (And.right (And.right (And.right (And.right (by assumption)))))) HRk'.out); (exact Ext.rd (Hid.out (And.right (And.right (And.right (And.right (by assumption)))))) HRk.out); rintro e w9 ⟨rfl, hb9⟩; rw [s1.out]; (have x9 : Ext _ w9 := hb9)))
              have x10 : Ext wr w9 := Hid.out (And.right (And.right (And.right (And.right (by assumption)))))
              go_wp2
              go_roundw
              case rel => exact ⟨k + 1, by omega, by go_num, rfl, xr.trans x10⟩
              case measure => simp [intOf]; omega
            · go_wp2
              go_ret
              exact ⟨rfl, xw7.trans xr⟩

set_option maxRecDepth 100000 in
theorem lifted_SieveUnions (os : Os) (started : os.Started) (H : Type) (enc : TypeId × Value → H) :
    ReturnsInHanded {} Try.checked os 9 .any (Rows.sieveUnionsSpec.pre6 enc Try.prog Try.f9 Rows.sieveUnionsRow.domain false) (Rows.sieveUnionsSpec.post enc Try.prog Try.f9 false true false false) := by
  refine returnsInHanded_of_change_sized (C := Try.checked) own started (by kernel_rfl) Try.func9
    (ChangeSpec.witness6 (enc := enc) (C := Try.checked) false ⟨#[], #[.slice none 0 0], []⟩ 8 (by kernel_rfl) (by kernel_rfl) (by kernel_rfl) (by kernel_rfl)) ?_
  intro W base args ds gs before hval0 hW hcnd hsz0 _
  have hsz : (DataW.weightsEach Try.prog (Try.f9.params.toList ++ Rows.sieveUnionsSpec.plain.varTypes Try.prog) (ds ++ gs)).all (· ≤ reachBytes) = true := hsz0
  clear hsz0
  have hval : ∀ (j : Nat) t v, Try.f9.params[j]? = some t → args[j]? = some v → Value.okWide Try.prog W .any base t v := hval0
  have hW' := hW
  obtain ⟨p, q, hA0, hV, rfl, hfz, hnd⟩ := hW
  have hA : DataW.TrodAll enc Try.prog W 0 (fun _ => true) true Try.f9.params.toList args.toList ds p := hA0
  rw [Try.params9] at hA hval hsz
  obtain ⟨v0, vs0, d0, ds0, p0, q0, hargs, rfl, rfl, h0, r0⟩ := trodAll_cons hA
  obtain ⟨rfl, rfl, rfl⟩ := trodAll_nil r0
  obtain rfl : args = #[v0] := by cases args; simp_all
  obtain ⟨rfl, rfl⟩ := trodVars_none hV
  have lt0 : ∀ x ∈ p0, x.block < W.heap.size := by obtain ⟨m, hm⟩ := h0; exact DataW.trod_lt m _ _ _ hm
  obtain ⟨x0, hx0⟩ := open_InFilters (hval 0 46 v0 rfl rfl) h0 (light_each (j := 0) hsz rfl rfl)
  clear hA0 hval0
  refine (walk_SieveUnions v0 x0 W hx0).mono fun e W' ⟨he, bel⟩ => ?_
  subst he
  exact ⟨_, rfl, _, _, _, [], _, [], hW', trodAll_mk1 (shut_bool Try.underlying4 _), (trodAll_cons_mk (Below.trod laidOut (by kernel_rfl) (of_decide_eq_true (by kernel_rfl)) h0 bel lt0) trodAll_mk0), rfl, bel.frame _, fun h => by cases h⟩

theorem over_SieveUnions : Rows.sieveUnionsRow.holds Try.pinned (OpenSpec.ofChange Rows.sieveUnionsSpec) :=
  OpenClaim.holds_of_wide 9 Try.f9 rfl rfl rfl rfl rfl rfl rfl ⟨rfl, rfl, rfl, rfl, rfl⟩ rfl rfl rfl rfl rfl (by kernel_rfl) Try.func9 (by kernel_rfl)
    (of_decide_eq_true (by kernel_rfl)) (by unfold Func.isWrapper; first | (rw [if_pos (by decide +kernel)]; kernel_rfl) | (rw [if_neg (by decide +kernel)]; exact ⟨rfl, rfl⟩))
    (fun os started H enc _ => lifted_SieveUnions os started H enc)

/-- the statement -/
theorem holds_SieveUnions : Rows.SieveUnionsSaid := over_SieveUnions
#print axioms holds_SieveUnions

end Go.Proofs.Ytmjkkmmgbndcoaa
