/- Single operations of the examples' region, in whatever frame. -/
import Derived.Test.YtcjmngonpijeiaaAw14
import Derived.Deep.QuietTactic
namespace Go.Proofs.Ytcjmngonpijeiaa
set_option maxRecDepth 100000
open Go Go.RowKit Pl
set_option linter.unusedVariables false

section
variable {Q : Exit → Act → World → Prop} {K : Act → World → Prop} {a : Act} {u : World} {d : Option Tmp} {ty : TypeId} {pos : String} {x y : Tmp} {af : Array Edge}

theorem op_load {b : Nat} {v0 v1 v2 v3 v4 v5 v6 v7 v8 : Value} (ha : a.tmps[x]?.getD undef = .pointer (some ⟨b, 0, none⟩)) (hb : Blk u b 25 #[v0, v1, v2, v3, v4, v5, v6, v7, v8]) (hK : K (a.put d (.agg #[v0, v1, v2, v3, v4, v5, v6, v7, v8])) u) :
    Oper.wp Try.prog { dst := d, op := .load 25 (.tmp x), type := ty, pos := pos, after := af, guard := none } a u K Q := by
  obtain ⟨h0, h1, h2, h3, h4, h5, h6, h7, h8⟩ := hb.nine
  clear hb
  go_simp
  exact hK

theorem op_build {n0 n1 : ByteArray} {k0 k1 k2 k3 : Int} {b0 b1 b2 : Bool} (ha : a.tmps[x]?.getD undef = .agg #[.string n0, .string n1, .bool b0, .int .i64 k0, .bool b1, .int .i64 k1, .bool b2, .int .i64 k2, .int .i64 k3])
    (hK : K (a.put d (.slice (some ⟨u.heap.size, 0, none⟩) 1 1)) (u.alloc (.cells #[.string n0, .string n1, .bool b0, .int .i64 k0, .bool b1, .int .i64 k1, .bool b2, .int .i64 k2, .int .i64 k3] 25))) :
    Oper.wp Try.prog { dst := d, op := .buildSlice 49 1 #[(0, .tmp x)], type := ty, pos := pos, after := af, guard := none } a u K Q := by
  go_simp
  exact hK

theorem op_made {v : Value} {R : Ending → World → Prop} (ha : a.tmps[x]?.getD undef = v) (hc : Calls Try.prog 28 #[v] u R) (hR : ∀ e w', R e w' → ∃ v', e = .returned v' ∧ K (a.put d v') w') :
    Oper.wp Try.prog { dst := d, op := .call { callee := .value (.func 28), args := #[.tmp x], argTypes := #[49] }, type := ty, pos := pos, after := af, guard := none } a u K Q := by
  go_simp
  refine hc.mono ?_
  intro e w' h
  obtain ⟨v', rfl, hK⟩ := hR e w' h
  exact hK

theorem op_alloc (hK : K (a.put d (.pointer (some ⟨u.heap.size, 0, none⟩))) (u.alloc (.cells #[.string ⟨#[]⟩, .int .i64 0, .slice none 0 0, .slice none 0 0, .slice none 0 0, .slice none 0 0, .slice none 0 0, .slice none 0 0, .int .i64 0, .slice none 0 0, .slice none 0 0, .slice none 0 0, .slice none 0 0, .slice none 0 0, .int .i64 0] 60))) :
    Oper.wp Try.prog { dst := d, op := .alloc 60, type := ty, pos := pos, after := af, guard := none } a u K Q := by
  go_simp
  exact hK

theorem op_store {b : Nat} {A : Option Addr} {c : Nat} {l : List Sym} {t : Tb} {u0 u1 u2 u3 u4 u5 u6 u7 u8 u9 u10 u11 u12 u13 u14 : Value} (ha : a.tmps[x]?.getD undef = .pointer (some ⟨b, 0, none⟩)) (hy : a.tmps[y]?.getD undef = .agg (imOf A c l t).vals.toArray)
    (hb : Blk u b 60 #[u0, u1, u2, u3, u4, u5, u6, u7, u8, u9, u10, u11, u12, u13, u14])
    (hK : ∀ u', Blk u' b 60 (imOf A c l t).vals.toArray → Chg (fun k => k = b) u u' → K (a.put none undef) u') :
    Oper.wp Try.prog { dst := none, op := .store 60 (.tmp x) (.tmp y), type := ty, pos := pos, after := af, guard := none } a u K Q := by
  have r0 := hb.cell 0 rfl
  have r1 := hb.cell 1 rfl
  have r2 := hb.cell 2 rfl
  have r3 := hb.cell 3 rfl
  have r4 := hb.cell 4 rfl
  have r5 := hb.cell 5 rfl
  have r6 := hb.cell 6 rfl
  have r7 := hb.cell 7 rfl
  have r8 := hb.cell 8 rfl
  have r9 := hb.cell 9 rfl
  have r10 := hb.cell 10 rfl
  have r11 := hb.cell 11 rfl
  have r12 := hb.cell 12 rfl
  have r13 := hb.cell 13 rfl
  have r14 := hb.cell 14 rfl
  have z0 := hb.frozen 0
  have z1 := hb.frozen 1
  have z2 := hb.frozen 2
  have z3 := hb.frozen 3
  have z4 := hb.frozen 4
  have z5 := hb.frozen 5
  have z6 := hb.frozen 6
  have z7 := hb.frozen 7
  have z8 := hb.frozen 8
  have z9 := hb.frozen 9
  have z10 := hb.frozen 10
  have z11 := hb.frozen 11
  have z12 := hb.frozen 12
  have z13 := hb.frozen 13
  have z14 := hb.frozen 14
  obtain ⟨BA, bc, bs, WA, wc, ws, sh⟩ := t
  simp only [imOf, Im.vals, sl0] at hy hK
  have h1 := blk15 hb (.string ⟨#[]⟩) (.int .i64 0) (.slice none 0 0) (.slice none 0 0) (.slice none 0 0) (.slice A l.length c) (.slice BA bs.length bc) (.slice WA ws.length wc) (.int .i64 sh) (.slice none 0 0) (.slice none 0 0) (.slice none 0 0) (.slice none 0 0) (.slice none 0 0) (.int .i64 0)
  have h2 := hK _ h1 (chg15 _ _ _ _ _ _ _ _ _ _ _ _ _ _ _ _ _)
  have HK := Lib.hid h2
  clear h1 h2 hK hb
  go_simp
  exact HK.out

end

end Go.Proofs.Ytcjmngonpijeiaa
