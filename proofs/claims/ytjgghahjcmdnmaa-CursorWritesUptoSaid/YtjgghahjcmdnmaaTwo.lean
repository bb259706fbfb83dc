/- Two writers at once. -/
import Derived.Test.YtjgghahjcmdnmaaAwk
import Derived.Test.YtjgghahjcmdnmaaOpB
import Derived.Deep.CondSized
import Derived.JoinedCond
import Derived.Deep.QuietTactic
import Derived.BigQuiet
namespace Go.Proofs.Ytjgghahjcmdnmaa
open Go.RowKit Pl
set_option linter.unusedVariables false

structure W2 (w0 w : World) (p : Nat) (s : WS) (v : Value) (q : Nat) (t : WS) (u : Value) : Prop where
  a : WF w0 w p s v
  b : WF w0 w q t u
  dj : ∀ k, ftp p v k → ¬ ftp q u k

theorem W2.new {w0 w w' : World} {p : Nat} {s : WS} {v : Value} (h : WF w0 w p s v) (h1 : Wst w' w.heap.size (0, []) (.slice none 0 0)) (hx : Ext w w') : W2 w0 w' p s v w.heap.size (0, []) (.slice none 0 0) :=
  ⟨h.ex hx, WF.new h.ext h1 hx, fun k hk => by
    rintro (rfl | h2)
    · have := h.st.lt _ hk; omega
    · simp [Value.ownBlock] at h2⟩

theorem W2.toA {w0 w w' : World} {p q : Nat} {s s' t : WS} {v v' u : Value} (h : W2 w0 w p s v q t u) (k : Wto p w v w' s' v') : W2 w0 w' p s' v' q t u := by
  have ha := h.a.to k
  refine ⟨ha, ⟨h.b.st.keep k.chg (fun i hi hS => h.dj i hS hi), h.b.foot, ha.ext⟩, ?_⟩
  rintro i (rfl | hi) hu
  · exact h.dj _ (.inl rfl) hu
  · rcases k.foot i hi with h1 | h1
    · exact h.dj _ (.inr h1) hu
    · have := h.b.st.lt i hu; omega

theorem W2.toB {w0 w w' : World} {p q : Nat} {s t t' : WS} {v u u' : Value} (h : W2 w0 w p s v q t u) (k : Wto q w u w' t' u') : W2 w0 w' p s v q t' u' := by
  have hb := h.b.to k
  refine ⟨⟨h.a.st.keep k.chg (fun i hi hS => h.dj i hi hS), h.a.foot, hb.ext⟩, hb, ?_⟩
  rintro i hv (rfl | hi)
  · exact h.dj _ hv (.inl rfl)
  · rcases k.foot i hi with h1 | h1
    · exact h.dj _ hv (.inr h1)
    · have := h.a.st.lt i hv; omega

theorem W2.ex {w0 w w' : World} {p q : Nat} {s t : WS} {v u : Value} (h : W2 w0 w p s v q t u) (hx : Ext w w') : W2 w0 w' p s v q t u := ⟨h.a.ex hx, h.b.ex hx, h.dj⟩

theorem wnum_one_more (size : Int) (st : WS) (ns : List Int) (n : Int) : wnum size (wnum size st ns) [n] = wnum size st (ns ++ [n]) := by
  cases hs : sizedB size
  · rw [wnum_unsized _ _ _ hs, wnum_unsized _ _ _ hs, wnum_unsized _ _ _ hs]
    unfold wfail
    split <;> simp [*]
  · simp [wnum, hs]

theorem wnum_len_any (size : Int) (ns : List Int) (st : WS) : (wnum size st ns).2.length ≤ st.2.length + 8 * ns.length := by
  cases hs : sizedB size
  · rw [wnum_unsized _ _ _ hs, wfail_len]; omega
  · exact wnum_len size hs ns st

theorem wtext_one_more (st : WS) (ss : List ByteArray) {k : Nat} (h : k < ss.length) : wtext (wtext st ((ss.map txt).take k)) [txt (ss.getD k default)] = wtext st ((ss.map txt).take (k + 1)) := by
  rw [wtext_snoc st ss h]; rfl

theorem wtext_len_all (ss : List (List UInt8)) (st : WS) : (wtext st ss).2.length ≤ st.2.length + 4098 * ss.length := by
  have := wtext_len ss ss.length st
  rwa [List.take_length] at this

theorem letters_len : ∀ ss : List ByteArray, ss.length ≤ letters ss
  | [] => by simp
  | s :: r => by
    have := letters_len r
    have e : letters (s :: r) = s.size + 1 + letters r := by simp [letters]
    rw [e, List.length_cons]; omega

/-- what a writer has -/
def wgot (st : WS) : List UInt8 := if st.1 = 0 then st.2 else []

theorem wgot_len (st : WS) : (wgot st).length ≤ st.2.length := by unfold wgot; split <;> simp

def Got (w : World) (st : WS) (r : Ending) (w' : World) : Prop :=
  ∃ A c, r = .returned (.tuple #[.slice A (wgot st).length c, .int .i64 st.1]) ∧ Ext w w' ∧ w'.ownsRow w.heap.size 5 1 (.slice A (wgot st).length c) (wgot st).length (u8s (wgot st))

theorem bytes_got (p : Nat) (st : WS) (v : Value) (w : World) (h : Wst w p st v) (hlen : st.2.length ≤ 140737488355328) :
    Calls Try.prog 15 #[.pointer (some ⟨p, 0, none⟩)] w fun r w' => Got w st r w' := by
  refine (bytes_any p st v w h hlen).mono ?_
  rintro r w' ⟨v', rfl, hx, ho⟩
  have e1 : (if st.1 = 0 then st.2.length else 0) = (wgot st).length := by unfold wgot; split <;> rfl
  have e2 : (if st.1 = 0 then st.2 else []) = wgot st := rfl
  rw [e1, e2] at ho
  obtain ⟨A, c, rfl⟩ := own_slice ho
  exact ⟨A, c, rfl, hx, ho⟩

end Go.Proofs.Ytjgghahjcmdnmaa
