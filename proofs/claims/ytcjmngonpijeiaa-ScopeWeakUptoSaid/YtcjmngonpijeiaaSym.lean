/- Symbols: seen, a match, versions. -/
import Derived.Test.YtcjmngonpijeiaaHash
import Derived.Test.YtcjmngonpijeiaaSieve1
import Derived.Test.YtcjmngonpijeiaaStrT
namespace Go.Proofs.Ytcjmngonpijeiaa
set_option maxRecDepth 100000
open Go.RowKit Pl
set_option linter.unusedVariables false

theorem seen_any (s : Sym) (w : World) : Calls Try.prog 50 #[.agg s.vals.toArray] w fun e w' => e = .returned (.bool (seenB s)) ∧ Ext w w' := by
  obtain ⟨name, ver, old, kind, weak, vis, defd, val, size⟩ := s
  simp only [Sym.vals]
  cases defd
  · have HR : Hid (seenB ⟨name, ver, old, kind, weak, vis, false, val, size⟩ = false) := Lib.hid (by simp [seenB])
    go_enter Try.func50, Try.ntmps50
    go_wp2
    go_ret
    exact ⟨retv (by rw [HR.out]; rfl), Ext.alloc _ _⟩
  · have HR : Hid (seenB ⟨name, ver, old, kind, weak, vis, true, val, size⟩ = (vis != 2)) := Lib.hid (by simp [seenB])
    go_enter Try.func50, Try.ntmps50
    go_wp2
    go_ret
    exact ⟨retv (by rw [HR.out]; rfl), Ext.alloc _ _⟩

theorem rseen_any (s : Sym) (w : World) : Calls Try.prog 24 #[.agg s.vals.toArray] w fun e w' => e = .returned (.bool (seenB s)) ∧ Ext w w' := by
  obtain ⟨name, ver, old, kind, weak, vis, defd, val, size⟩ := s
  simp only [Sym.vals]
  cases defd
  · have HR : Hid (seenB ⟨name, ver, old, kind, weak, vis, false, val, size⟩ = false) := Lib.hid (by simp [seenB])
    go_enter Try.func24, Try.ntmps24
    go_wp2
    go_ret
    exact ⟨retv (by rw [HR.out]; rfl), Ext.alloc _ _⟩
  · have HR : Hid (seenB ⟨name, ver, old, kind, weak, vis, true, val, size⟩ = (vis != 2)) := Lib.hid (by simp [seenB])
    go_enter Try.func24, Try.ntmps24
    go_wp2
    go_ret
    exact ⟨retv (by rw [HR.out]; rfl), Ext.alloc _ _⟩


theorem box2 (w : World) (c1 c2 : Array Value) (t1 t2 : TypeId) : Blk ((w.alloc (.cells c1 t1)).alloc (.cells c2 t2)) w.heap.size t1 c1 ∧ Blk ((w.alloc (.cells c1 t1)).alloc (.cells c2 t2)) (w.heap.size + 1) t2 c2 ∧ Ext w ((w.alloc (.cells c1 t1)).alloc (.cells c2 t2)) :=
  ⟨(Blk.new _ _ _).alloc _, by simpa using Blk.new (w.alloc (.cells c1 t1)) t2 c2, (Ext.alloc _ _).trans (Ext.alloc _ _)⟩

set_option maxHeartbeats 1600000 in
theorem match_any (r d : Sym) (ver : Bool) (w : World) : Calls Try.prog 39 #[.agg r.vals.toArray, .agg d.vals.toArray, .bool ver] w fun e w' => e = .returned (.bool (matchB r d ver)) ∧ Ext w w' := by
  have HS := Lib.hid (seen_any d)
  obtain ⟨sb, hs⟩ : ∃ sb, seenB d = sb := ⟨_, rfl⟩
  rw [hs] at HS
  have hm : matchB r d ver = (sb && decide (r.name = d.name) && (if r.ver.size = 0 then !d.old else (decide (r.ver = d.ver) || !ver))) := by unfold matchB; rw [hs]
  clear hs
  obtain ⟨name, vr, old, kind, weak, vis, defd, val, size⟩ := d
  obtain ⟨rname, rver, rold, rkind, rweak, rvis, rdefd, rval, rsize⟩ := r
  simp only [Sym.vals] at HS hm ⊢
  have HM := Lib.hid hm
  clear hm
  cases sb
  · have HR : Hid (matchB ⟨rname, rver, rold, rkind, rweak, rvis, rdefd, rval, rsize⟩ ⟨name, vr, old, kind, weak, vis, defd, val, size⟩ ver = false) := Lib.hid (by rw [HM.out]; simp)
    go_enter Try.func39, Try.ntmps39
    go_wp2_with fail
    have hbx := box2 w #[.string rname, .string rver, .bool rold, .int .i64 rkind, .bool rweak, .int .i64 rvis, .bool rdefd, .int .i64 rval, .int .i64 rsize] #[.string name, .string vr, .bool old, .int .i64 kind, .bool weak, .int .i64 vis, .bool defd, .int .i64 val, .int .i64 size] 25 25
    obtain ⟨hb1, hb2, hxb⟩ := hbx
    generalize (w.alloc (.cells #[.string rname, .string rver, .bool rold, .int .i64 rkind, .bool rweak, .int .i64 rvis, .bool rdefd, .int .i64 rval, .int .i64 rsize] 25)).alloc (.cells #[.string name, .string vr, .bool old, .int .i64 kind, .bool weak, .int .i64 vis, .bool defd, .int .i64 val, .int .i64 size] 25) = wb at *
    refine (HS.out _).mono ?_
    rintro e w2 ⟨rfl, hx2⟩
    have n1 : w2.cell? ⟨w.heap.size, 0, none⟩ = some (.string rname) := hx2.cell (hb1.cell 0 rfl)
    have v1 : w2.cell? ⟨w.heap.size, 1, none⟩ = some (.string rver) := hx2.cell (hb1.cell 1 rfl)
    have n2 : w2.cell? ⟨w.heap.size + 1, 0, none⟩ = some (.string name) := hx2.cell (hb2.cell 0 rfl)
    have v2 : w2.cell? ⟨w.heap.size + 1, 1, none⟩ = some (.string vr) := hx2.cell (hb2.cell 1 rfl)
    have o2 : w2.cell? ⟨w.heap.size + 1, 2, none⟩ = some (.bool old) := hx2.cell (hb2.cell 2 rfl)
    have HX := Lib.hid (hxb.trans hx2)
    clear hb1 hb2 hxb hx2
    go_wp2
    go_ret
    exact ⟨retv (by rw [HR.out]; rfl), HX.out⟩
  by_cases hn : rname = name
  · subst hn
    by_cases hv : rver.size = 0
    · have HR : Hid (matchB ⟨rname, rver, rold, rkind, rweak, rvis, rdefd, rval, rsize⟩ ⟨rname, vr, old, kind, weak, vis, defd, val, size⟩ ver = !old) := Lib.hid (by rw [HM.out]; simp [hv])
      have hv1 : rver.toList = [] := (empty_iff _).2 hv
      clear hv
      go_enter Try.func39, Try.ntmps39
      go_wp2_with fail
      have hbx := box2 w #[.string rname, .string rver, .bool rold, .int .i64 rkind, .bool rweak, .int .i64 rvis, .bool rdefd, .int .i64 rval, .int .i64 rsize] #[.string rname, .string vr, .bool old, .int .i64 kind, .bool weak, .int .i64 vis, .bool defd, .int .i64 val, .int .i64 size] 25 25
      obtain ⟨hb1, hb2, hxb⟩ := hbx
      generalize (w.alloc (.cells #[.string rname, .string rver, .bool rold, .int .i64 rkind, .bool rweak, .int .i64 rvis, .bool rdefd, .int .i64 rval, .int .i64 rsize] 25)).alloc (.cells #[.string rname, .string vr, .bool old, .int .i64 kind, .bool weak, .int .i64 vis, .bool defd, .int .i64 val, .int .i64 size] 25) = wb at *
      refine (HS.out _).mono ?_
      rintro e w2 ⟨rfl, hx2⟩
      have n1 : w2.cell? ⟨w.heap.size, 0, none⟩ = some (.string rname) := hx2.cell (hb1.cell 0 rfl)
      have v1 : w2.cell? ⟨w.heap.size, 1, none⟩ = some (.string rver) := hx2.cell (hb1.cell 1 rfl)
      have n2 : w2.cell? ⟨w.heap.size + 1, 0, none⟩ = some (.string rname) := hx2.cell (hb2.cell 0 rfl)
      have v2 : w2.cell? ⟨w.heap.size + 1, 1, none⟩ = some (.string vr) := hx2.cell (hb2.cell 1 rfl)
      have o2 : w2.cell? ⟨w.heap.size + 1, 2, none⟩ = some (.bool old) := hx2.cell (hb2.cell 2 rfl)
      have HX := Lib.hid (hxb.trans hx2)
      clear hb1 hb2 hxb hx2
      go_wp2
      go_ret
      exact ⟨retv (by rw [HR.out]; rfl), HX.out⟩
    · have hv1 : rver.toList.isEmpty = false := by
        cases h : rver.toList with
        | nil => exact absurd ((empty_iff _).1 h) hv
        | cons a b => rfl
      by_cases he : rver = vr
      · subst he
        have HR : Hid (matchB ⟨rname, rver, rold, rkind, rweak, rvis, rdefd, rval, rsize⟩ ⟨rname, rver, old, kind, weak, vis, defd, val, size⟩ ver = true) := Lib.hid (by rw [HM.out]; simp [hv])
        clear hv
        go_enter Try.func39, Try.ntmps39
        go_wp2_with fail
        have hbx := box2 w #[.string rname, .string rver, .bool rold, .int .i64 rkind, .bool rweak, .int .i64 rvis, .bool rdefd, .int .i64 rval, .int .i64 rsize] #[.string rname, .string rver, .bool old, .int .i64 kind, .bool weak, .int .i64 vis, .bool defd, .int .i64 val, .int .i64 size] 25 25
        obtain ⟨hb1, hb2, hxb⟩ := hbx
        generalize (w.alloc (.cells #[.string rname, .string rver, .bool rold, .int .i64 rkind, .bool rweak, .int .i64 rvis, .bool rdefd, .int .i64 rval, .int .i64 rsize] 25)).alloc (.cells #[.string rname, .string rver, .bool old, .int .i64 kind, .bool weak, .int .i64 vis, .bool defd, .int .i64 val, .int .i64 size] 25) = wb at *
        refine (HS.out _).mono ?_
        rintro e w2 ⟨rfl, hx2⟩
        have n1 : w2.cell? ⟨w.heap.size, 0, none⟩ = some (.string rname) := hx2.cell (hb1.cell 0 rfl)
        have v1 : w2.cell? ⟨w.heap.size, 1, none⟩ = some (.string rver) := hx2.cell (hb1.cell 1 rfl)
        have n2 : w2.cell? ⟨w.heap.size + 1, 0, none⟩ = some (.string rname) := hx2.cell (hb2.cell 0 rfl)
        have v2 : w2.cell? ⟨w.heap.size + 1, 1, none⟩ = some (.string rver) := hx2.cell (hb2.cell 1 rfl)
        have o2 : w2.cell? ⟨w.heap.size + 1, 2, none⟩ = some (.bool old) := hx2.cell (hb2.cell 2 rfl)
        have HX := Lib.hid (hxb.trans hx2)
        clear hb1 hb2 hxb hx2
        go_wp2
        go_ret
        exact ⟨retv (by rw [HR.out]; rfl), HX.out⟩
      · have HR : Hid (matchB ⟨rname, rver, rold, rkind, rweak, rvis, rdefd, rval, rsize⟩ ⟨rname, vr, old, kind, weak, vis, defd, val, size⟩ ver = !ver) := Lib.hid (by rw [HM.out]; simp [hv, he])
        have he1 : (rver.toList == vr.toList) = false := by rw [toList_eq]; exact decide_eq_false he
        clear hv he
        go_enter Try.func39, Try.ntmps39
        go_wp2_with fail
        have hbx := box2 w #[.string rname, .string rver, .bool rold, .int .i64 rkind, .bool rweak, .int .i64 rvis, .bool rdefd, .int .i64 rval, .int .i64 rsize] #[.string rname, .string vr, .bool old, .int .i64 kind, .bool weak, .int .i64 vis, .bool defd, .int .i64 val, .int .i64 size] 25 25
        obtain ⟨hb1, hb2, hxb⟩ := hbx
        generalize (w.alloc (.cells #[.string rname, .string rver, .bool rold, .int .i64 rkind, .bool rweak, .int .i64 rvis, .bool rdefd, .int .i64 rval, .int .i64 rsize] 25)).alloc (.cells #[.string rname, .string vr, .bool old, .int .i64 kind, .bool weak, .int .i64 vis, .bool defd, .int .i64 val, .int .i64 size] 25) = wb at *
        refine (HS.out _).mono ?_
        rintro e w2 ⟨rfl, hx2⟩
        have n1 : w2.cell? ⟨w.heap.size, 0, none⟩ = some (.string rname) := hx2.cell (hb1.cell 0 rfl)
        have v1 : w2.cell? ⟨w.heap.size, 1, none⟩ = some (.string rver) := hx2.cell (hb1.cell 1 rfl)
        have n2 : w2.cell? ⟨w.heap.size + 1, 0, none⟩ = some (.string rname) := hx2.cell (hb2.cell 0 rfl)
        have v2 : w2.cell? ⟨w.heap.size + 1, 1, none⟩ = some (.string vr) := hx2.cell (hb2.cell 1 rfl)
        have o2 : w2.cell? ⟨w.heap.size + 1, 2, none⟩ = some (.bool old) := hx2.cell (hb2.cell 2 rfl)
        have HX := Lib.hid (hxb.trans hx2)
        clear hb1 hb2 hxb hx2
        go_wp2
        go_ret
        exact ⟨retv (by rw [HR.out]; rfl), HX.out⟩
  · have HR : Hid (matchB ⟨rname, rver, rold, rkind, rweak, rvis, rdefd, rval, rsize⟩ ⟨name, vr, old, kind, weak, vis, defd, val, size⟩ ver = false) := Lib.hid (by rw [HM.out]; simp [hn])
    have hn1 : (rname.toList == name.toList) = false := by rw [toList_eq]; exact decide_eq_false hn
    clear hn
    go_enter Try.func39, Try.ntmps39
    go_wp2_with fail
    have hbx := box2 w #[.string rname, .string rver, .bool rold, .int .i64 rkind, .bool rweak, .int .i64 rvis, .bool rdefd, .int .i64 rval, .int .i64 rsize] #[.string name, .string vr, .bool old, .int .i64 kind, .bool weak, .int .i64 vis, .bool defd, .int .i64 val, .int .i64 size] 25 25
    obtain ⟨hb1, hb2, hxb⟩ := hbx
    generalize (w.alloc (.cells #[.string rname, .string rver, .bool rold, .int .i64 rkind, .bool rweak, .int .i64 rvis, .bool rdefd, .int .i64 rval, .int .i64 rsize] 25)).alloc (.cells #[.string name, .string vr, .bool old, .int .i64 kind, .bool weak, .int .i64 vis, .bool defd, .int .i64 val, .int .i64 size] 25) = wb at *
    refine (HS.out _).mono ?_
    rintro e w2 ⟨rfl, hx2⟩
    have n1 : w2.cell? ⟨w.heap.size, 0, none⟩ = some (.string rname) := hx2.cell (hb1.cell 0 rfl)
    have v1 : w2.cell? ⟨w.heap.size, 1, none⟩ = some (.string rver) := hx2.cell (hb1.cell 1 rfl)
    have n2 : w2.cell? ⟨w.heap.size + 1, 0, none⟩ = some (.string name) := hx2.cell (hb2.cell 0 rfl)
    have v2 : w2.cell? ⟨w.heap.size + 1, 1, none⟩ = some (.string vr) := hx2.cell (hb2.cell 1 rfl)
    have o2 : w2.cell? ⟨w.heap.size + 1, 2, none⟩ = some (.bool old) := hx2.cell (hb2.cell 2 rfl)
    have HX := Lib.hid (hxb.trans hx2)
    clear hb1 hb2 hxb hx2
    go_wp2
    go_ret
    exact ⟨retv (by rw [HR.out]; rfl), HX.out⟩

set_option maxHeartbeats 1600000 in
theorem rmatch_any (r d : Sym) (ver : Bool) (w : World) : Calls Try.prog 32 #[.agg r.vals.toArray, .agg d.vals.toArray, .bool ver] w fun e w' => e = .returned (.bool (matchB r d ver)) ∧ Ext w w' := by
  have HS := Lib.hid (rseen_any d)
  obtain ⟨sb, hs⟩ : ∃ sb, seenB d = sb := ⟨_, rfl⟩
  rw [hs] at HS
  have hm : matchB r d ver = (sb && decide (r.name = d.name) && (if r.ver.size = 0 then !d.old else (decide (r.ver = d.ver) || !ver))) := by unfold matchB; rw [hs]
  clear hs
  obtain ⟨name, vr, old, kind, weak, vis, defd, val, size⟩ := d
  obtain ⟨rname, rver, rold, rkind, rweak, rvis, rdefd, rval, rsize⟩ := r
  simp only [Sym.vals] at HS hm ⊢
  have HM := Lib.hid hm
  clear hm
  cases sb
  · have HR : Hid (matchB ⟨rname, rver, rold, rkind, rweak, rvis, rdefd, rval, rsize⟩ ⟨name, vr, old, kind, weak, vis, defd, val, size⟩ ver = false) := Lib.hid (by rw [HM.out]; simp)
    go_enter Try.func32, Try.ntmps32
    go_wp2_with fail
    have hbx := box2 w #[.string rname, .string rver, .bool rold, .int .i64 rkind, .bool rweak, .int .i64 rvis, .bool rdefd, .int .i64 rval, .int .i64 rsize] #[.string name, .string vr, .bool old, .int .i64 kind, .bool weak, .int .i64 vis, .bool defd, .int .i64 val, .int .i64 size] 25 25
    obtain ⟨hb1, hb2, hxb⟩ := hbx
    generalize (w.alloc (.cells #[.string rname, .string rver, .bool rold, .int .i64 rkind, .bool rweak, .int .i64 rvis, .bool rdefd, .int .i64 rval, .int .i64 rsize] 25)).alloc (.cells #[.string name, .string vr, .bool old, .int .i64 kind, .bool weak, .int .i64 vis, .bool defd, .int .i64 val, .int .i64 size] 25) = wb at *
    refine (HS.out _).mono ?_
    rintro e w2 ⟨rfl, hx2⟩
    have n1 : w2.cell? ⟨w.heap.size, 0, none⟩ = some (.string rname) := hx2.cell (hb1.cell 0 rfl)
    have v1 : w2.cell? ⟨w.heap.size, 1, none⟩ = some (.string rver) := hx2.cell (hb1.cell 1 rfl)
    have n2 : w2.cell? ⟨w.heap.size + 1, 0, none⟩ = some (.string name) := hx2.cell (hb2.cell 0 rfl)
    have v2 : w2.cell? ⟨w.heap.size + 1, 1, none⟩ = some (.string vr) := hx2.cell (hb2.cell 1 rfl)
    have o2 : w2.cell? ⟨w.heap.size + 1, 2, none⟩ = some (.bool old) := hx2.cell (hb2.cell 2 rfl)
    have HX := Lib.hid (hxb.trans hx2)
    clear hb1 hb2 hxb hx2
    go_wp2
    go_ret
    exact ⟨retv (by rw [HR.out]; rfl), HX.out⟩
  by_cases hn : rname = name
  · subst hn
    by_cases hv : rver.size = 0
    · have HR : Hid (matchB ⟨rname, rver, rold, rkind, rweak, rvis, rdefd, rval, rsize⟩ ⟨rname, vr, old, kind, weak, vis, defd, val, size⟩ ver = !old) := Lib.hid (by rw [HM.out]; simp [hv])
      have hv1 : rver.toList = [] := (empty_iff _).2 hv
      clear hv
      go_enter Try.func32, Try.ntmps32
      go_wp2_with fail
      have hbx := box2 w #[.string rname, .string rver, .bool rold, .int .i64 rkind, .bool rweak, .int .i64 rvis, .bool rdefd, .int .i64 rval, .int .i64 rsize] #[.string rname, .string vr, .bool old, .int .i64 kind, .bool weak, .int .i64 vis, .bool defd, .int .i64 val, .int .i64 size] 25 25
      obtain ⟨hb1, hb2, hxb⟩ := hbx
      generalize (w.alloc (.cells #[.string rname, .string rver, .bool rold, .int .i64 rkind, .bool rweak, .int .i64 rvis, .bool rdefd, .int .i64 rval, .int .i64 rsize] 25)).alloc (.cells #[.string rname, .string vr, .bool old, .int .i64 kind, .bool weak, .int .i64 vis, .bool defd, .int .i64 val, .int .i64 size] 25) = wb at *
      refine (HS.out _).mono ?_
      rintro e w2 ⟨rfl, hx2⟩
      have n1 : w2.cell? ⟨w.heap.size, 0, none⟩ = some (.string rname) := hx2.cell (hb1.cell 0 rfl)
      have v1 : w2.cell? ⟨w.heap.size, 1, none⟩ = some (.string rver) := hx2.cell (hb1.cell 1 rfl)
      have n2 : w2.cell? ⟨w.heap.size + 1, 0, none⟩ = some (.string rname) := hx2.cell (hb2.cell 0 rfl)
      have v2 : w2.cell? ⟨w.heap.size + 1, 1, none⟩ = some (.string vr) := hx2.cell (hb2.cell 1 rfl)
      have o2 : w2.cell? ⟨w.heap.size + 1, 2, none⟩ = some (.bool old) := hx2.cell (hb2.cell 2 rfl)
      have HX := Lib.hid (hxb.trans hx2)
      clear hb1 hb2 hxb hx2
      go_wp2
      go_ret
      exact ⟨retv (by rw [HR.out]; rfl), HX.out⟩
    · have hv1 : rver.toList.isEmpty = false := by
        cases h : rver.toList with
        | nil => exact absurd ((empty_iff _).1 h) hv
        | cons a b => rfl
      by_cases he : rver = vr
      · subst he
        have HR : Hid (matchB ⟨rname, rver, rold, rkind, rweak, rvis, rdefd, rval, rsize⟩ ⟨rname, rver, old, kind, weak, vis, defd, val, size⟩ ver = true) := Lib.hid (by rw [HM.out]; simp [hv])
        clear hv
        cases ver
        all_goals
          go_enter Try.func32, Try.ntmps32
          go_wp2_with fail
          have hbx := box2 w #[.string rname, .string rver, .bool rold, .int .i64 rkind, .bool rweak, .int .i64 rvis, .bool rdefd, .int .i64 rval, .int .i64 rsize] #[.string rname, .string rver, .bool old, .int .i64 kind, .bool weak, .int .i64 vis, .bool defd, .int .i64 val, .int .i64 size] 25 25
          obtain ⟨hb1, hb2, hxb⟩ := hbx
          generalize (w.alloc (.cells #[.string rname, .string rver, .bool rold, .int .i64 rkind, .bool rweak, .int .i64 rvis, .bool rdefd, .int .i64 rval, .int .i64 rsize] 25)).alloc (.cells #[.string rname, .string rver, .bool old, .int .i64 kind, .bool weak, .int .i64 vis, .bool defd, .int .i64 val, .int .i64 size] 25) = wb at *
          refine (HS.out _).mono ?_
          rintro e w2 ⟨rfl, hx2⟩
          have n1 : w2.cell? ⟨w.heap.size, 0, none⟩ = some (.string rname) := hx2.cell (hb1.cell 0 rfl)
          have v1 : w2.cell? ⟨w.heap.size, 1, none⟩ = some (.string rver) := hx2.cell (hb1.cell 1 rfl)
          have n2 : w2.cell? ⟨w.heap.size + 1, 0, none⟩ = some (.string rname) := hx2.cell (hb2.cell 0 rfl)
          have v2 : w2.cell? ⟨w.heap.size + 1, 1, none⟩ = some (.string rver) := hx2.cell (hb2.cell 1 rfl)
          have o2 : w2.cell? ⟨w.heap.size + 1, 2, none⟩ = some (.bool old) := hx2.cell (hb2.cell 2 rfl)
          have HX := Lib.hid (hxb.trans hx2)
          clear hb1 hb2 hxb hx2
          go_wp2
          go_ret
          exact ⟨retv (by rw [HR.out]; rfl), HX.out⟩
      · have HR : Hid (matchB ⟨rname, rver, rold, rkind, rweak, rvis, rdefd, rval, rsize⟩ ⟨rname, vr, old, kind, weak, vis, defd, val, size⟩ ver = !ver) := Lib.hid (by rw [HM.out]; simp [hv, he])
        have he1 : (rver.toList == vr.toList) = false := by rw [toList_eq]; exact decide_eq_false he
        clear hv he
        cases ver
        all_goals
          go_enter Try.func32, Try.ntmps32
          go_wp2_with fail
          have hbx := box2 w #[.string rname, .string rver, .bool rold, .int .i64 rkind, .bool rweak, .int .i64 rvis, .bool rdefd, .int .i64 rval, .int .i64 rsize] #[.string rname, .string vr, .bool old, .int .i64 kind, .bool weak, .int .i64 vis, .bool defd, .int .i64 val, .int .i64 size] 25 25
          obtain ⟨hb1, hb2, hxb⟩ := hbx
          generalize (w.alloc (.cells #[.string rname, .string rver, .bool rold, .int .i64 rkind, .bool rweak, .int .i64 rvis, .bool rdefd, .int .i64 rval, .int .i64 rsize] 25)).alloc (.cells #[.string rname, .string vr, .bool old, .int .i64 kind, .bool weak, .int .i64 vis, .bool defd, .int .i64 val, .int .i64 size] 25) = wb at *
          refine (HS.out _).mono ?_
          rintro e w2 ⟨rfl, hx2⟩
          have n1 : w2.cell? ⟨w.heap.size, 0, none⟩ = some (.string rname) := hx2.cell (hb1.cell 0 rfl)
          have v1 : w2.cell? ⟨w.heap.size, 1, none⟩ = some (.string rver) := hx2.cell (hb1.cell 1 rfl)
          have n2 : w2.cell? ⟨w.heap.size + 1, 0, none⟩ = some (.string rname) := hx2.cell (hb2.cell 0 rfl)
          have v2 : w2.cell? ⟨w.heap.size + 1, 1, none⟩ = some (.string vr) := hx2.cell (hb2.cell 1 rfl)
          have o2 : w2.cell? ⟨w.heap.size + 1, 2, none⟩ = some (.bool old) := hx2.cell (hb2.cell 2 rfl)
          have HX := Lib.hid (hxb.trans hx2)
          clear hb1 hb2 hxb hx2
          go_wp2
          go_ret
          exact ⟨retv (by rw [HR.out]; rfl), HX.out⟩
  · have HR : Hid (matchB ⟨rname, rver, rold, rkind, rweak, rvis, rdefd, rval, rsize⟩ ⟨name, vr, old, kind, weak, vis, defd, val, size⟩ ver = false) := Lib.hid (by rw [HM.out]; simp [hn])
    have hn1 : (rname.toList == name.toList) = false := by rw [toList_eq]; exact decide_eq_false hn
    clear hn
    go_enter Try.func32, Try.ntmps32
    go_wp2_with fail
    have hbx := box2 w #[.string rname, .string rver, .bool rold, .int .i64 rkind, .bool rweak, .int .i64 rvis, .bool rdefd, .int .i64 rval, .int .i64 rsize] #[.string name, .string vr, .bool old, .int .i64 kind, .bool weak, .int .i64 vis, .bool defd, .int .i64 val, .int .i64 size] 25 25
    obtain ⟨hb1, hb2, hxb⟩ := hbx
    generalize (w.alloc (.cells #[.string rname, .string rver, .bool rold, .int .i64 rkind, .bool rweak, .int .i64 rvis, .bool rdefd, .int .i64 rval, .int .i64 rsize] 25)).alloc (.cells #[.string name, .string vr, .bool old, .int .i64 kind, .bool weak, .int .i64 vis, .bool defd, .int .i64 val, .int .i64 size] 25) = wb at *
    refine (HS.out _).mono ?_
    rintro e w2 ⟨rfl, hx2⟩
    have n1 : w2.cell? ⟨w.heap.size, 0, none⟩ = some (.string rname) := hx2.cell (hb1.cell 0 rfl)
    have v1 : w2.cell? ⟨w.heap.size, 1, none⟩ = some (.string rver) := hx2.cell (hb1.cell 1 rfl)
    have n2 : w2.cell? ⟨w.heap.size + 1, 0, none⟩ = some (.string name) := hx2.cell (hb2.cell 0 rfl)
    have v2 : w2.cell? ⟨w.heap.size + 1, 1, none⟩ = some (.string vr) := hx2.cell (hb2.cell 1 rfl)
    have o2 : w2.cell? ⟨w.heap.size + 1, 2, none⟩ = some (.bool old) := hx2.cell (hb2.cell 2 rfl)
    have HX := Lib.hid (hxb.trans hx2)
    clear hb1 hb2 hxb hx2
    go_wp2
    go_ret
    exact ⟨retv (by rw [HR.out]; rfl), HX.out⟩

end Go.Proofs.Ytcjmngonpijeiaa
