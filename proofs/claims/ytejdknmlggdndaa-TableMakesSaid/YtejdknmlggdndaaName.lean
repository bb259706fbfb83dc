/- clevisref07.Name, clevisref07.Right: some answer; one that is right and old has a version. -/
import Derived.Test.YtejdknmlggdndaaAw8
import Derived.Test.YtejdknmlggdndaaLawLook
namespace Go.Proofs.Ytejdknmlggdndaa
open Go.RowKit Pl
set_option linter.unusedVariables false

/-- some answer, true or false -/
def AnyB (e : Ending) : Prop := ∃ b, e = .returned (.bool b)
theorem anyb {e : Ending} (b : Bool) (h : e = .returned (.bool b)) : AnyB e := ⟨b, h⟩

set_option maxHeartbeats 1600000 in
theorem rname_any (s : ByteArray) (w : World) (hs : s.size ≤ maxLen) : Calls Try.prog 48 #[.string s] w fun e w' => AnyB e ∧ w = w' := by
  have hsz : s.data.size = s.size := rfl
  by_cases hlo : s.size < 1
  · go_enter Try.func48, Try.ntmps48
    go_wp2
    go_ret
    exact ⟨anyb _ rfl, rfl⟩
  by_cases hhi : 64 < s.size
  · go_enter Try.func48, Try.ntmps48
    go_wp2
    go_ret
    exact ⟨anyb _ rfl, rfl⟩
  go_enter Try.func48, Try.ntmps48
  go_wp2_with fail
  go_loopw [3] (fun i wr => ∃ k : Nat, k ≤ s.size ∧ i = .int .i64 k ∧ w = wr) (fun i _ => s.size - (intOf i).toNat)
  case atStart => exact ⟨0, Nat.zero_le _, rfl, rfl⟩
  case round =>
    obtain ⟨k, hk, rfl, rfl⟩ := hrel
    by_cases hlt : k < s.size
    · go_wp2_with fail
      all_goals first
        | (go_ret; exact ⟨anyb _ rfl, rfl⟩)
        | exact ⟨⟨k + 1, by omega, by go_num, trivial⟩, by simp [intOf]; omega⟩
    · go_wp2
      go_ret
      exact ⟨anyb _ rfl, rfl⟩

/-- some answer; where it is yes, what is old has a version -/
def RtB (x : Sym) (e : Ending) : Prop := ∃ b, e = .returned (.bool b) ∧ (b = true → x.ver.size = 0 → x.old = false)
theorem rtb {x : Sym} {e : Ending} (b : Bool) (h : e = .returned (.bool b)) (h2 : b = true → x.ver.size = 0 → x.old = false) : RtB x e := ⟨b, h, h2⟩

set_option maxRecDepth 100000 in
set_option maxHeartbeats 6400000 in
theorem rrsym_any (x : Sym) (w : World) (hx : x.Fit) : Calls Try.prog 25 #[.agg x.vals.toArray] w fun e w' => RtB x e ∧ Ext w w' := by
  have hs1 : x.name.size ≤ maxLen := by have := hx.name; unfold maxLen; omega
  have hs2 : x.ver.size ≤ maxLen := by have := hx.ver; unfold maxLen; omega
  clear hx
  obtain ⟨name, ver, old, kind, weak, vis, defd, val, size⟩ := x
  simp only at hs1 hs2
  simp only [Sym.vals]
  have HN1 := Lib.hid (fun w' => rname_any name w' hs1)
  have HN2 := Lib.hid (fun w' => rname_any ver w' hs2)
  clear hs1 hs2
  by_cases hv : ver.size = 0
  · have hv1 : ver.toList = [] := (empty_iff _).2 hv
    clear hv HN2
    cases old
    · go_enter Try.func25, Try.ntmps25
      go_wp2_with fail
      have hrb := (Blk.new w 43 #[.string name, .string ver, .bool false, .int .i64 kind, .bool weak, .int .i64 vis, .bool defd, .int .i64 val, .int .i64 size]).nine
      have HX := Lib.hid (Ext.alloc w (.cells #[.string name, .string ver, .bool false, .int .i64 kind, .bool weak, .int .i64 vis, .bool defd, .int .i64 val, .int .i64 size] 43))
      generalize w.alloc (.cells #[.string name, .string ver, .bool false, .int .i64 kind, .bool weak, .int .i64 vis, .bool defd, .int .i64 val, .int .i64 size] 43) = w0 at *
      obtain ⟨c0, c1, c2, c3, c4, c5, c6, c7, c8⟩ := hrb
      go_wp2_with fail
      refine (HN1.out _).mono ?_
      rintro e w2 ⟨⟨b, rfl⟩, rfl⟩
      cases b
      · go_wp2
        go_ret
        exact ⟨rtb false rfl (fun h => by cases h), HX.out⟩
      go_wp2_with fail
      all_goals (go_ret; exact ⟨rtb _ rfl (fun _ _ => rfl), HX.out⟩)
    · go_enter Try.func25, Try.ntmps25
      go_wp2_with fail
      have hrb := (Blk.new w 43 #[.string name, .string ver, .bool true, .int .i64 kind, .bool weak, .int .i64 vis, .bool defd, .int .i64 val, .int .i64 size]).nine
      have HX := Lib.hid (Ext.alloc w (.cells #[.string name, .string ver, .bool true, .int .i64 kind, .bool weak, .int .i64 vis, .bool defd, .int .i64 val, .int .i64 size] 43))
      generalize w.alloc (.cells #[.string name, .string ver, .bool true, .int .i64 kind, .bool weak, .int .i64 vis, .bool defd, .int .i64 val, .int .i64 size] 43) = w0 at *
      obtain ⟨c0, c1, c2, c3, c4, c5, c6, c7, c8⟩ := hrb
      go_wp2_with fail
      refine (HN1.out _).mono ?_
      rintro e w2 ⟨⟨b, rfl⟩, rfl⟩
      cases b
      · go_wp2
        go_ret
        exact ⟨rtb false rfl (fun h => by cases h), HX.out⟩
      go_wp2_with fail
      all_goals (go_ret; exact ⟨rtb false rfl (fun h => by cases h), HX.out⟩)
  · have HV := Lib.hid hv
    have hv1 : ver.toList.isEmpty = false := by
      cases h : ver.toList with
      | nil => exact absurd ((empty_iff _).1 h) hv
      | cons a b => rfl
    clear hv
    go_enter Try.func25, Try.ntmps25
    go_wp2_with fail
    have hrb := (Blk.new w 43 #[.string name, .string ver, .bool old, .int .i64 kind, .bool weak, .int .i64 vis, .bool defd, .int .i64 val, .int .i64 size]).nine
    have HX := Lib.hid (Ext.alloc w (.cells #[.string name, .string ver, .bool old, .int .i64 kind, .bool weak, .int .i64 vis, .bool defd, .int .i64 val, .int .i64 size] 43))
    generalize w.alloc (.cells #[.string name, .string ver, .bool old, .int .i64 kind, .bool weak, .int .i64 vis, .bool defd, .int .i64 val, .int .i64 size] 43) = w0 at *
    obtain ⟨c0, c1, c2, c3, c4, c5, c6, c7, c8⟩ := hrb
    go_wp2_with fail
    refine (HN1.out _).mono ?_
    rintro e w2 ⟨⟨b, rfl⟩, rfl⟩
    cases b
    · go_wp2
      go_ret
      exact ⟨rtb false rfl (fun h => by cases h), HX.out⟩
    go_wp2_with fail
    refine (HN2.out _).mono ?_
    rintro e w3 ⟨⟨b, rfl⟩, rfl⟩
    cases b
    · go_wp2
      go_ret
      exact ⟨rtb false rfl (fun h => by cases h), HX.out⟩
    go_wp2_with fail
    all_goals (go_ret; exact ⟨rtb _ rfl (fun _ h => absurd h HV.out), HX.out⟩)

end Go.Proofs.Ytejdknmlggdndaa
