/- SieveOrder: in whatever order, and by however many calls, hashes are put, the filter is the same. No condition. -/
import Derived.Test.YtmjkkmmgbndcoaaUnion2
import Derived.Test.YtmjkkmmgbndcoaaSieve7
namespace Go.Proofs.Ytmjkkmmgbndcoaa
open Go.ChangeShapes Go.WideShapes Go.ChangeAt Go.RowKit Pl
set_option linter.unusedVariables false

theorem orAll_put1 (s h : Nat) {X Y : List Nat} (hl : Y.length = X.length) : orAll X (put1 s Y h) = put1 s (orAll X Y) h := by
  rw [put1_at s Y h hl, put1_at s (orAll X Y) h (orAll_length hl)]
  rcases Nat.eq_zero_or_pos X.length with h0 | hn
  · have : X = [] := List.eq_nil_of_length_eq_zero h0
    subst this
    simp [orAll]
  · have hk : h / 64 % X.length < X.length := Nat.mod_lt _ hn
    apply List.ext_getElem
    · simp [orAll]
    · intro i h1 h2
      have hiX : i < X.length := by simp [orAll] at h1; omega
      have hiY : i < Y.length := by omega
      simp only [orAll, List.getElem_zipWith, List.getElem_set]
      by_cases hi : h / 64 % X.length = i
      · have g1 : Y.getD (h / 64 % X.length) 0 = Y[i] := by
          rw [List.getD_eq_getElem?_getD, hi, List.getElem?_eq_getElem hiY]; rfl
        have g2 : (List.zipWith (fun x y => x ||| y) X Y).getD (h / 64 % X.length) 0 = X[i] ||| Y[i] := by
          rw [List.getD_eq_getElem?_getD, hi, List.getElem?_eq_getElem (by simp; omega)]
          simp
        simp only [hi, if_true] at g1 g2 ⊢
        simp only [g1, g2, Nat.or_assoc]
      · simp [hi]

theorem orAll_putAll (s : Nat) (b : List Nat) : ∀ {X Y : List Nat}, Y.length = X.length → orAll X (putAll s Y b) = putAll s (orAll X Y) b := by
  induction b with
  | nil => intro X Y _; rfl
  | cons h b ih =>
    intro X Y hl
    show orAll X (putAll s (put1 s Y h) b) = putAll s (put1 s (orAll X Y) h) b
    rw [ih (by rw [put1_length]; exact hl), orAll_put1 s h hl]

theorem orAll_zero (X : List Nat) : orAll X (List.replicate X.length 0) = X := by
  unfold orAll
  apply List.ext_getElem
  · simp
  · intro i h1 h2
    simp

theorem order_union (s n : Nat) (a b : List Nat) : orAll (putAll s (List.replicate n 0) a) (putAll s (List.replicate n 0) b) = putAll s (putAll s (List.replicate n 0) a) b := by
  have hl : (List.replicate n 0).length = (putAll s (List.replicate n 0) a).length := by rw [putAll_length]
  rw [orAll_putAll s b hl]
  congr 1
  have := orAll_zero (putAll s (List.replicate n 0) a)
  rw [putAll_length, List.length_replicate] at this
  exact this

theorem rdf_two {w : World} {b : Nat} {x y : Fl} (h0 : w.cell? ⟨b, 0, none⟩ = some (.slice x.A x.ws.length x.cap)) (h1 : w.cell? ⟨b, 1, none⟩ = some (.int .i64 x.sh)) (h2 : w.cell? ⟨b, 2, none⟩ = some (.slice y.A y.ws.length y.cap)) (h3 : w.cell? ⟨b, 3, none⟩ = some (.int .i64 y.sh))
    (hx : Rd w x.A (u64s x.ws)) (hy : Rd w y.A (u64s y.ws)) : RdF w (some ⟨b, 0, none⟩) [x, y] := by
  intro i f hf
  match i, hf with
  | 0, hf => obtain rfl : x = f := by simpa using hf
             exact ⟨b, 0, rfl, h0, h1, hx⟩
  | 1, hf => obtain rfl : y = f := by simpa using hf
             exact ⟨b, 0, rfl, h2, h3, hy⟩
  | i + 2, hf => simp at hf

set_option maxHeartbeats 3200000 in
theorem order_walk (p q : Nat) (hp : p < 256) (hq : q < 256) (H : Option Addr) (hcap : Nat) (hs : List Nat) (K : Option Addr) (kcap : Nat) (ks : List Nat) (w : World)
    (hhs : ∀ x ∈ hs, x < 4294967296) (hlen : hs.length * 4 ≤ 140737488351232) (hH : Rd w H (u32s hs))
    (hks : ∀ x ∈ ks, x < 4294967296) (klen : ks.length * 4 ≤ 140737488351232) (hK : Rd w K (u32s ks)) :
    Calls Try.prog 10 #[.int .u8 p, .int .u8 q, .slice H hs.length hcap, .slice K ks.length kcap] w fun e w' => e = .returned (.bool true) ∧ Below w.heap.size w w' := by
  have hM := Lib.hid (show hs.length ≤ maxLen by unfold maxLen; omega)
  have kM := Lib.hid (show ks.length ≤ maxLen by unfold maxLen; omega)
  have hp7 : p % 7 < 7 := Nat.mod_lt _ (by omega)
  have hr : rightB ((2 ^ (p % 7) : Nat) : Int) ((1 + q % 31 : Nat) : Int) = true := by
    have hw : ∀ m : Nat, m < 7 → wordsB ((2 ^ m : Nat) : Int) = true := by decide
    unfold rightB
    rw [hw _ hp7]
    simp; omega
  have hn64 : 2 ^ (p % 7) ≤ 64 := by
    have : ∀ m : Nat, m < 7 → 2 ^ m ≤ 64 := by decide
    exact this _ hp7
  have hn1 : 1 ≤ 2 ^ (p % 7) := Nat.one_le_two_pow
  have ht1 : ((p : Nat) : Int).tmod 7 = ((p % 7 : Nat) : Int) := by rw [Int.tmod_eq_emod_of_nonneg (by omega)]; rfl
  have ht2 : ((q : Nat) : Int).tmod 31 = ((q % 31 : Nat) : Int) := by rw [Int.tmod_eq_emod_of_nonneg (by omega)]; rfl
  have hw2 : IntKind.i64.wrap ((2 : Int) ^ (p % 7)) = ((2 ^ (p % 7) : Nat) : Int) := by
    rw [show ((2 : Int) ^ (p % 7)) = ((2 ^ (p % 7) : Nat) : Int) by simp, IntWalk.i64_in _ (by omega)]
  have hq31 : q % 31 < 31 := Nat.mod_lt _ (by omega)
  have HR := Lib.hid hr
  have HH := Lib.hid hH
  have HHS := Lib.hid hhs
  have KH := Lib.hid hK
  have KHS := Lib.hid hks
  clear hr hH hhs hK hks
  generalize p % 7 = p7 at *
  generalize q % 31 = q31 at *
  go_enter Try.func10, Try.ntmps10
  go_wp2_with fail
  refine (awake_any _).mono ?_
  rintro e w1 ⟨rfl, hb1⟩
  have x1 : Ext w w1 := hb1
  clear hb1
  go_wp2_with fail
  rw [show ((2 : Int) ^ p7) = ((2 ^ p7 : Nat) : Int) by simp, show (1 + (q31 : Int)) = ((1 + q31 : Nat) : Int) by omega]
  generalize 2 ^ p7 = n at *
  generalize 1 + q31 = s at *
  clear ht1 ht2 hw2 hp7 hq31
  have PA := Lib.hid (putAll_length s hs (List.replicate n 0))
  have PB := Lib.hid (putAll_length s ks (List.replicate n 0))
  rw [List.length_replicate] at PA PB
  have LA := Lib.hid (putAll_lt s hs (List.replicate n 0) (fun x hx => by rw [List.eq_of_mem_replicate hx]; omega))
  have LB := Lib.hid (putAll_lt s ks (List.replicate n 0) (fun x hx => by rw [List.eq_of_mem_replicate hx]; omega))
  have HO := Lib.hid (order_union s n hs ks)
  have HC := Lib.hid (putAll_comm s hs ks (List.replicate n 0))
  have hbd := rightB_bd HR.out
  refine (make_yes n s H hcap hs _ HHS.out hM.out (x1.rd HH.out) HR.out).mono ?_
  rintro e w2 ⟨gx, cx, rfl, ox, hb2⟩
  have x2 : Ext w1 w2 := hb2
  have a2 := Ext.alloc w2 (.cells #[.slice (some ⟨gx, 0, none⟩) n cx, .int .i64 s] 26)
  have kx := Blk.new w2 26 #[.slice (some ⟨gx, 0, none⟩) n cx, .int .i64 s]
  replace ox := a2.own ox
  have xx := x1.trans (x2.trans a2)
  clear hb2 x1 x2 a2
  go_wp2_with fail
  generalize w2.alloc (.cells #[.slice (some ⟨gx, 0, none⟩) n cx, .int .i64 s] 26) = w3 at *
  refine (make_yes n s K kcap ks _ KHS.out kM.out (xx.rd KH.out) HR.out).mono ?_
  rintro e w4 ⟨gy, cy, rfl, oy, hb4⟩
  have x4 : Ext w3 w4 := hb4
  have a4 := Ext.alloc w4 (.cells #[.slice (some ⟨gy, 0, none⟩) n cy, .int .i64 s] 26)
  have ky := Blk.new w4 26 #[.slice (some ⟨gy, 0, none⟩) n cy, .int .i64 s]
  replace oy := a4.own oy
  replace ox := (x4.trans a4).own ox
  replace kx := (x4.trans a4).blk kx
  replace xx := xx.trans (x4.trans a4)
  have c0 : (w4.alloc (.cells #[.slice (some ⟨gy, 0, none⟩) n cy, .int .i64 s] 26)).cell? ⟨w2.heap.size, 0, none⟩ = some (.slice (some ⟨gx, 0, none⟩) n cx) := kx.cell 0 rfl
  have c1 : (w4.alloc (.cells #[.slice (some ⟨gy, 0, none⟩) n cy, .int .i64 s] 26)).cell? ⟨w2.heap.size, 1, none⟩ = some (.int .i64 s) := kx.cell 1 rfl
  have d0 : (w4.alloc (.cells #[.slice (some ⟨gy, 0, none⟩) n cy, .int .i64 s] 26)).cell? ⟨w4.heap.size, 0, none⟩ = some (.slice (some ⟨gy, 0, none⟩) n cy) := ky.cell 0 rfl
  have d1 : (w4.alloc (.cells #[.slice (some ⟨gy, 0, none⟩) n cy, .int .i64 s] 26)).cell? ⟨w4.heap.size, 1, none⟩ = some (.int .i64 s) := ky.cell 1 rfl
  clear hb4 x4 a4 kx ky
  go_wp2_with fail
  generalize w4.alloc (.cells #[.slice (some ⟨gy, 0, none⟩) n cy, .int .i64 s] 26) = w5 at *
  have AD := Lib.hid (add_yes (some ⟨gx, 0, none⟩) cx s _ K kcap ks w5 LA.out KHS.out kM.out (Rd.of_own ox) (xx.rd KH.out) (by rw [PA.out]; exact HR.out))
  rw [PA.out] at AD
  refine AD.out.mono ?_
  rintro e w6 ⟨gp, cp, rfl, op, hb6⟩
  have x6 : Ext w5 w6 := hb6
  have a6 := Ext.alloc w6 (.cells #[.slice (some ⟨gp, 0, none⟩) n cp, .int .i64 s] 26)
  have e0 := cnew w6 #[.slice (some ⟨gp, 0, none⟩) n cp, .int .i64 s] 26 0 rfl
  have e1 := cnew w6 #[.slice (some ⟨gp, 0, none⟩) n cp, .int .i64 s] 26 1 rfl
  replace op := a6.own op
  replace ox := (x6.trans a6).own ox
  replace oy := (x6.trans a6).own oy
  replace c0 := (x6.trans a6).cell c0
  replace c1 := (x6.trans a6).cell c1
  replace d0 := (x6.trans a6).cell d0
  replace d1 := (x6.trans a6).cell d1
  replace xx := xx.trans (x6.trans a6)
  clear hb6 x6 a6 AD
  go_wp2_with fail
  generalize w6.alloc (.cells #[.slice (some ⟨gp, 0, none⟩) n cp, .int .i64 s] 26) = w7 at *
  have AD := Lib.hid (add_yes (some ⟨gy, 0, none⟩) cy s _ H hcap hs w7 LB.out HHS.out hM.out (Rd.of_own oy) (xx.rd HH.out) (by rw [PB.out]; exact HR.out))
  rw [PB.out, ← HC.out] at AD
  refine AD.out.mono ?_
  rintro e w8 ⟨gq, cq, rfl, oq, hb8⟩
  have x8 : Ext w7 w8 := hb8
  have a8 := Ext.alloc w8 (.cells #[.slice (some ⟨gq, 0, none⟩) n cq, .int .i64 s] 26)
  have f0 := cnew w8 #[.slice (some ⟨gq, 0, none⟩) n cq, .int .i64 s] 26 0 rfl
  have f1 := cnew w8 #[.slice (some ⟨gq, 0, none⟩) n cq, .int .i64 s] 26 1 rfl
  replace oq := a8.own oq
  replace op := (x8.trans a8).own op
  replace ox := (x8.trans a8).own ox
  replace oy := (x8.trans a8).own oy
  replace c0 := (x8.trans a8).cell c0
  replace c1 := (x8.trans a8).cell c1
  replace d0 := (x8.trans a8).cell d0
  replace d1 := (x8.trans a8).cell d1
  have e0' : _ = some (Value.slice (some ⟨gp, 0, none⟩) n cp) := (x8.trans a8).cell e0
  have e1' : _ = some (Value.int .i64 s) := (x8.trans a8).cell e1
  replace xx := xx.trans (x8.trans a8)
  clear hb8 x8 a8 AD e0 e1
  go_wp2_with fail
  have k9 := Blk.new (w8.alloc (.cells #[.slice (some ⟨gq, 0, none⟩) n cq, .int .i64 s] 26)) 26 #[.slice (some ⟨gx, 0, none⟩) n cx, .int .i64 s, .slice (some ⟨gy, 0, none⟩) n cy, .int .i64 s]
  have z9 : (w8.alloc (.cells #[.slice (some ⟨gq, 0, none⟩) n cq, .int .i64 s] 26)).heap.size = w8.heap.size + 1 := by simp
  rw [z9] at k9
  have a9 := Ext.alloc (w8.alloc (.cells #[.slice (some ⟨gq, 0, none⟩) n cq, .int .i64 s] 26)) (.cells #[.slice (some ⟨gx, 0, none⟩) n cx, .int .i64 s, .slice (some ⟨gy, 0, none⟩) n cy, .int .i64 s] 26)
  replace oq := a9.own oq
  replace op := a9.own op
  replace ox := a9.own ox
  replace oy := a9.own oy
  replace e0' := a9.cell e0'
  replace e1' := a9.cell e1'
  have f0' : _ = some (Value.slice (some ⟨gq, 0, none⟩) n cq) := a9.cell f0
  have f1' : _ = some (Value.int .i64 s) := a9.cell f1
  replace xx := xx.trans a9
  clear a9 f0 f1 c0 c1 d0 d1 z9
  generalize (w8.alloc (.cells #[.slice (some ⟨gq, 0, none⟩) n cq, .int .i64 s] 26)).alloc (.cells #[.slice (some ⟨gx, 0, none⟩) n cx, .int .i64 s, .slice (some ⟨gy, 0, none⟩) n cy, .int .i64 s] 26) = w9 at *
  have hrd : RdF w9 (some ⟨w8.heap.size + 1, 0, none⟩) [⟨some ⟨gx, 0, none⟩, cx, putAll s (List.replicate n 0) hs, s⟩, ⟨some ⟨gy, 0, none⟩, cy, putAll s (List.replicate n 0) ks, s⟩] :=
    rdf_two (by rw [PA.out]; exact k9.cell 0 rfl) (k9.cell 1 rfl) (by rw [PB.out]; exact k9.cell 2 rfl) (k9.cell 3 rfl) (Rd.of_own ox) (Rd.of_own oy)
  have hun : unionS ([(⟨some ⟨gx, 0, none⟩, cx, putAll s (List.replicate n 0) hs, s⟩ : Fl), ⟨some ⟨gy, 0, none⟩, cy, putAll s (List.replicate n 0) ks, s⟩].map Fl.pair) = some (putAll s (putAll s (List.replicate n 0) hs) ks, (s : Int)) := by
    show (if rightB (putAll s (List.replicate n 0) hs).length s = true then Option.map (fun ws => (ws, (s : Int))) (unionR s (putAll s (List.replicate n 0) hs) [(putAll s (List.replicate n 0) ks, (s : Int))]) else none) = _
    rw [PA.out, if_pos HR.out]
    unfold unionR
    rw [if_pos ⟨by rw [PA.out, PB.out], rfl⟩, HO.out]
    rfl
  have HU := Lib.hid (union_any (some ⟨w8.heap.size + 1, 0, none⟩) 2 _ w9 hrd (fun g hg => by
    simp only [List.mem_cons, List.not_mem_nil, or_false] at hg
    rcases hg with rfl | rfl
    · exact ⟨LA.out, by simp only; rw [PA.out]; omega, by simp only; omega, by simp only; omega⟩
    · exact ⟨LB.out, by simp only; rw [PB.out]; omega, by simp only; omega, by simp only; omega⟩) (by simp) (by simp))
  rw [hun] at HU
  have HPL := Lib.hid (putAll_length s ks (putAll s (List.replicate n 0) hs))
  rw [PA.out] at HPL
  clear hrd hun k9
  refine HU.out.mono ?_
  rintro e w10 (⟨hn, _⟩ | ⟨ws, sh, hs', g10, c10, rfl, o10, hb10⟩)
  · cases hn
  · simp only [Option.some.injEq, Prod.mk.injEq] at hs'
    obtain ⟨rfl, rfl⟩ := hs'
    rw [HPL.out] at o10
    rw [HPL.out]
    have x10 : Ext w9 w10 := hb10
    have a10 := Ext.alloc w10 (.cells #[.slice (some ⟨g10, 0, none⟩) n c10, .int .i64 s] 26)
    have u0 := cnew w10 #[.slice (some ⟨g10, 0, none⟩) n c10, .int .i64 s] 26 0 rfl
    have u1 := cnew w10 #[.slice (some ⟨g10, 0, none⟩) n c10, .int .i64 s] 26 1 rfl
    replace o10 := a10.own o10
    replace oq := (x10.trans a10).own oq
    replace op := (x10.trans a10).own op
    replace e0' := (x10.trans a10).cell e0'
    replace e1' := (x10.trans a10).cell e1'
    replace f0' := (x10.trans a10).cell f0'
    replace f1' := (x10.trans a10).cell f1'
    replace xx := xx.trans (x10.trans a10)
    clear x10 a10 hb10 HU ox oy
    go_wp2_with fail
    generalize w10.alloc (.cells #[.slice (some ⟨g10, 0, none⟩) n c10, .int .i64 s] 26) = w11 at *
    have hm : n ≤ maxLen := by unfold maxLen; omega
    have S1 := Lib.hid (same_any (some ⟨gp, 0, none⟩) (some ⟨gq, 0, none⟩) cp cq _ _ s s w11 (Rd.of_own op) (Rd.of_own oq) (by rw [HPL.out]; exact hm) (by rw [HPL.out]; exact hm))
    rw [HPL.out] at S1
    have s1 : sameB (putAll s (putAll s (List.replicate n 0) hs) ks, ((s : Nat) : Int)) (putAll s (putAll s (List.replicate n 0) hs) ks, ((s : Nat) : Int)) = true := by unfold sameB; simp
    rw [s1] at S1
    refine S1.out.mono ?_
    rintro e w12 ⟨rfl, hb12⟩
    have x12 : Ext w11 w12 := hb12
    replace o10 := x12.own o10
    replace op := x12.own op
    replace e0' := x12.cell e0'
    replace e1' := x12.cell e1'
    have v0 : _ = some (Value.slice (some ⟨g10, 0, none⟩) n c10) := x12.cell u0
    have v1 : _ = some (Value.int .i64 s) := x12.cell u1
    replace xx := xx.trans x12
    clear x12 hb12 u0 u1 f0' f1' oq S1
    have S2 := Lib.hid (same_any (some ⟨gp, 0, none⟩) (some ⟨g10, 0, none⟩) cp c10 _ _ s s w12 (Rd.of_own op) (Rd.of_own o10) (by rw [HPL.out]; exact hm) (by rw [HPL.out]; exact hm))
    rw [HPL.out] at S2
    rw [s1] at S2
    clear s1
    go_wp2_with fail
    refine S2.out.mono ?_
    rintro e w13 ⟨rfl, hb13⟩
    have x13 : Ext w12 w13 := hb13
    go_wp2
    go_ret
    exact ⟨rfl, xx.trans x13⟩

theorem walk_SieveOrder (v0 v1 v2 v3 : Value) (x0 x1 : Nat) (x2 x3 : List Nat) (w : World) (h0 : InU8 w v0 x0) (h1 : InU8 w v1 x1) (h2 : InU32s w v2 x2) (h3 : InU32s w v3 x3) :
    Calls Try.prog 10 #[v0, v1, v2, v3] w fun e w' => e = .returned (.bool true) ∧ Below w.heap.size w w' := by
  obtain ⟨rfl, hx0⟩ := h0
  obtain ⟨rfl, hx1⟩ := h1
  obtain ⟨H, hcap, rfl, hR, hb, hm⟩ := h2
  obtain ⟨K, kcap, rfl, kR, kb, km⟩ := h3
  exact order_walk x0 x1 hx0 hx1 H hcap x2 K kcap x3 w hb hm hR kb km kR

set_option maxRecDepth 100000 in
theorem lifted_SieveOrder (os : Os) (started : os.Started) (H : Type) (enc : TypeId × Value → H) :
    ReturnsInHanded {} Try.checked os 10 .any (Rows.sieveOrderSpec.pre6 enc Try.prog Try.f10 Rows.sieveOrderRow.domain false) (Rows.sieveOrderSpec.post enc Try.prog Try.f10 false true false false) := by
  refine returnsInHanded_of_change_sized (C := Try.checked) own started (by kernel_rfl) Try.func10
    (ChangeSpec.witness6 (enc := enc) (C := Try.checked) false ⟨#[], #[.int .u8 0, .int .u8 0, .slice none 0 0, .slice none 0 0], []⟩ 8 (by kernel_rfl) (by kernel_rfl) (by kernel_rfl) (by kernel_rfl)) ?_
  intro W base args ds gs before hval0 hW hcnd hsz0 _
  have hsz : (DataW.weightsEach Try.prog (Try.f10.params.toList ++ Rows.sieveOrderSpec.plain.varTypes Try.prog) (ds ++ gs)).all (· ≤ reachBytes) = true := hsz0
  clear hsz0
  have hval : ∀ (j : Nat) t v, Try.f10.params[j]? = some t → args[j]? = some v → Value.okWide Try.prog W .any base t v := hval0
  have hW' := hW
  obtain ⟨p, q, hA0, hV, rfl, hfz, hnd⟩ := hW
  have hA : DataW.TrodAll enc Try.prog W 0 (fun _ => true) true Try.f10.params.toList args.toList ds p := hA0
  rw [Try.params10] at hA hval hsz
  obtain ⟨v0, vs0, d0, ds0, p0, q0, hargs, rfl, rfl, h0, r0⟩ := trodAll_cons hA
  obtain ⟨v1, vs1, d1, ds1, p1, q1, rfl, rfl, rfl, h1, r1⟩ := trodAll_cons r0
  obtain ⟨v2, vs2, d2, ds2, p2, q2, rfl, rfl, rfl, h2, r2⟩ := trodAll_cons r1
  obtain ⟨v3, vs3, d3, ds3, p3, q3, rfl, rfl, rfl, h3, r3⟩ := trodAll_cons r2
  obtain ⟨rfl, rfl, rfl⟩ := trodAll_nil r3
  obtain rfl : args = #[v0, v1, v2, v3] := by cases args; simp_all
  obtain ⟨rfl, rfl⟩ := trodVars_none hV
  have lt0 : ∀ x ∈ p0, x.block < W.heap.size := by obtain ⟨m, hm⟩ := h0; exact DataW.trod_lt m _ _ _ hm
  obtain ⟨x0, hx0⟩ := open_InU8 Try.underlying5 (hval 0 5 v0 rfl rfl) h0 (light_each (j := 0) hsz rfl rfl)
  have lt1 : ∀ x ∈ p1, x.block < W.heap.size := by obtain ⟨m, hm⟩ := h1; exact DataW.trod_lt m _ _ _ hm
  obtain ⟨x1, hx1⟩ := open_InU8 Try.underlying5 (hval 1 5 v1 rfl rfl) h1 (light_each (j := 1) hsz rfl rfl)
  have lt2 : ∀ x ∈ p2, x.block < W.heap.size := by obtain ⟨m, hm⟩ := h2; exact DataW.trod_lt m _ _ _ hm
  obtain ⟨x2, hx2⟩ := open_InU32s Try.underlying22 Try.underlying39 (by kernel_rfl) (by kernel_rfl) (hval 2 22 v2 rfl rfl) h2 (light_each (j := 2) hsz rfl rfl)
  have lt3 : ∀ x ∈ p3, x.block < W.heap.size := by obtain ⟨m, hm⟩ := h3; exact DataW.trod_lt m _ _ _ hm
  obtain ⟨x3, hx3⟩ := open_InU32s Try.underlying22 Try.underlying39 (by kernel_rfl) (by kernel_rfl) (hval 3 22 v3 rfl rfl) h3 (light_each (j := 3) hsz rfl rfl)
  clear hA0 hval0
  refine (walk_SieveOrder v0 v1 v2 v3 x0 x1 x2 x3 W hx0 hx1 hx2 hx3).mono fun e W' ⟨he, bel⟩ => ?_
  subst he
  exact ⟨_, rfl, _, _, _, [], _, [], hW', trodAll_mk1 (shut_bool Try.underlying4 _), (trodAll_cons_mk (Below.trod laidOut (by kernel_rfl) (of_decide_eq_true (by kernel_rfl)) h0 bel lt0) (trodAll_cons_mk (Below.trod laidOut (by kernel_rfl) (of_decide_eq_true (by kernel_rfl)) h1 bel lt1) (trodAll_cons_mk (Below.trod laidOut (by kernel_rfl) (of_decide_eq_true (by kernel_rfl)) h2 bel lt2) (trodAll_cons_mk (Below.trod laidOut (by kernel_rfl) (of_decide_eq_true (by kernel_rfl)) h3 bel lt3) trodAll_mk0)))), rfl, bel.frame _, fun h => by cases h⟩

theorem over_SieveOrder : Rows.sieveOrderRow.holds Try.pinned (OpenSpec.ofChange Rows.sieveOrderSpec) :=
  OpenClaim.holds_of_wide 10 Try.f10 rfl rfl rfl rfl rfl rfl rfl ⟨rfl, rfl, rfl, rfl, rfl⟩ rfl rfl rfl rfl rfl (by kernel_rfl) Try.func10 (by kernel_rfl)
    (of_decide_eq_true (by kernel_rfl)) (by unfold Func.isWrapper; first | (rw [if_pos (by decide +kernel)]; kernel_rfl) | (rw [if_neg (by decide +kernel)]; exact ⟨rfl, rfl⟩))
    (fun os started H enc _ => lifted_SieveOrder os started H enc)

/-- the statement -/
theorem holds_SieveOrder : Rows.SieveOrderSaid := over_SieveOrder
#print axioms holds_SieveOrder

end Go.Proofs.Ytmjkkmmgbndcoaa
