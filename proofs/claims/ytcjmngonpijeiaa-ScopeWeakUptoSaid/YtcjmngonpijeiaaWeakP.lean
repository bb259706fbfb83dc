/- A symbol's weakness changes nothing of what is found, in plain Lean. -/
import Derived.Test.YtcjmngonpijeiaaBind
namespace Go.Proofs.Ytcjmngonpijeiaa
set_option maxRecDepth 100000
open Go.RowKit Pl
set_option linter.unusedVariables false

/-- a symbol whose weakness is turned -/
def tw (s : Sym) : Sym := ⟨s.name, s.ver, s.old, s.kind, !s.weak, s.vis, s.defd, s.val, s.size⟩
theorem seenB_tw (s : Sym) : seenB (tw s) = seenB s := rfl
theorem matchB_tw (r s : Sym) (v : Bool) : matchB r (tw s) v = matchB r s v := rfl
theorem getD_tw (l : List Sym) (k : Nat) (x : Nat) : (l.set k (tw (l.getD k sym0))).getD x sym0 = if x = k ∧ k < l.length then tw (l.getD k sym0) else l.getD x sym0 := by
  by_cases hk : k < l.length
  · by_cases e : x = k
    · subst e
      rw [if_pos ⟨rfl, hk⟩, List.getD_eq_getElem?_getD, List.getElem?_set_self hk]
      rfl
    · rw [if_neg (fun h => e h.1), List.getD_eq_getElem?_getD, List.getElem?_set_ne (fun h => e h.symm), ← List.getD_eq_getElem?_getD]
  · rw [if_neg (fun h => hk h.2), List.set_eq_of_length_le (by omega)]
theorem match_tw (r : Sym) (l : List Sym) (k x : Nat) (v : Bool) : matchB r ((l.set k (tw (l.getD k sym0))).getD x sym0) v = matchB r (l.getD x sym0) v := by
  rw [getD_tw]
  split
  · next h => rw [h.1]; rfl
  · rfl
theorem verB_tw (l : List Sym) (k : Nat) : verB (l.set k (tw (l.getD k sym0))) = verB l := by
  unfold verB
  rw [Bool.eq_iff_iff, List.any_eq_true, List.any_eq_true]
  constructor
  · rintro ⟨s, hs, hv⟩
    obtain ⟨x, hx, rfl⟩ := List.mem_iff_getElem.1 hs
    have hx' : x < l.length := by simpa using hx
    by_cases e : x = k
    · subst e
      refine ⟨l[x], List.getElem_mem hx', ?_⟩
      rw [List.getElem_set_self, List.getD_eq_getElem?_getD, List.getElem?_eq_getElem hx'] at hv
      exact hv
    · rw [List.getElem_set_ne (fun h => e h.symm)] at hv
      exact ⟨_, List.getElem_mem hx', hv⟩
  · rintro ⟨s, hs, hv⟩
    obtain ⟨x, hx, rfl⟩ := List.mem_iff_getElem.1 hs
    have hx' : x < (l.set k (tw (l.getD k sym0))).length := by simpa using hx
    refine ⟨_, List.getElem_mem hx', ?_⟩
    by_cases e : x = k
    · subst e
      rw [List.getElem_set_self, List.getD_eq_getElem?_getD, List.getElem?_eq_getElem hx]
      exact hv
    · rw [List.getElem_set_ne (fun h => e h.symm)]
      exact hv
theorem findL_tw (r : Sym) (l : List Sym) (k : Nat) (v : Bool) : ∀ (xs : List Int) (n : Nat), findL r (l.set k (tw (l.getD k sym0))) v xs n = findL r l v xs n
  | [], n => rfl
  | i :: xs, n => by
    simp only [findL, List.length_set, match_tw]
    rw [findL_tw r l k v xs n, findL_tw r l k v xs (n + 1)]
theorem findP_tw (t : Tb) (r : Sym) (l : List Sym) (k : Nat) : findP t r (l.set k (tw (l.getD k sym0))) = findP t r l := by
  unfold findP
  rw [verB_tw, findL_tw]

/-- an image whose symbol k has its weakness turned, its symbols elsewhere -/
def twI (m : Im) (k : Nat) (A : Option Addr) (c : Nat) : Im := ⟨m.c0, m.c1, m.c2, m.c3, m.c4, A, c, m.l.set k (tw (m.l.getD k sym0)), m.t, m.c9, m.c10, m.c11, m.c12, m.c13, m.c14⟩
theorem findI_tw (r : Sym) (ims : List Im) (i k : Nat) (A : Option Addr) (c : Nat) (x : Nat) : findI r (ims.set i (twI (ims.getD i im0) k A c)) x = findI r ims x := by
  unfold findI
  by_cases hi : i < ims.length
  · by_cases e : x = i
    · subst e
      rw [List.getD_eq_getElem?_getD, List.getElem?_set_self hi]
      exact findP_tw _ _ _ _
    · rw [List.getD_eq_getElem?_getD, List.getElem?_set_ne (fun h => e h.symm), ← List.getD_eq_getElem?_getD]
  · rw [List.set_eq_of_length_le (by omega)]
theorem lookF_tw (r : Sym) (skip : Int) (ims : List Im) (i k : Nat) (A : Option Addr) (c : Nat) : lookF r skip (ims.set i (twI (ims.getD i im0) k A c)) = lookF r skip ims := by
  have hh : hitB r skip (ims.set i (twI (ims.getD i im0) k A c)) = hitB r skip ims := by
    funext x
    unfold hitB
    rw [findI_tw]
  unfold lookF lookI
  rw [hh, List.length_set]
  split
  · rw [findI_tw]
  · rfl

/-- what a symbol means: but that it may mean nothing -/
theorem bind_tw (i k : Nat) (copied : Bool) (ims : List Im) (A : Option Addr) (c : Nat) (hi : i < ims.length) (hk : k < (ims.getD i im0).l.length) :
    (bindP i k copied (ims.set i (twI (ims.getD i im0) k A c))).1 = (bindP i k copied ims).1 ∧
    (((bindP i k copied ims).1.2.2 = true ∧ (bindP i k copied ims).2 = 0 ∧ (bindP i k copied (ims.set i (twI (ims.getD i im0) k A c))).2 = 0) ∨
     ((bindP i k copied ims).1.2.2 = false ∧ (((bindP i k copied ims).2 = 0 ∧ (bindP i k copied (ims.set i (twI (ims.getD i im0) k A c))).2 = 141) ∨ ((bindP i k copied ims).2 = 141 ∧ (bindP i k copied (ims.set i (twI (ims.getD i im0) k A c))).2 = 0)))) := by
  have hg : (ims.set i (twI (ims.getD i im0) k A c)).getD i im0 = twI (ims.getD i im0) k A c := by
    rw [List.getD_eq_getElem?_getD, List.getElem?_set_self hi]; rfl
  have hs : (twI (ims.getD i im0) k A c).l.getD k sym0 = tw ((ims.getD i im0).l.getD k sym0) := by
    show ((ims.getD i im0).l.set k (tw ((ims.getD i im0).l.getD k sym0))).getD k sym0 = _
    rw [getD_tw, if_pos ⟨rfl, hk⟩]
  have e1 : bindP i k copied ims = bindS ((ims.getD i im0).l.getD k sym0) i k copied ims := by
    unfold bindP
    rw [Int.toNat_natCast, Int.toNat_natCast, if_neg (by omega)]
  have e2 : bindP i k copied (ims.set i (twI (ims.getD i im0) k A c)) = bindS (tw ((ims.getD i im0).l.getD k sym0)) i k copied (ims.set i (twI (ims.getD i im0) k A c)) := by
    unfold bindP
    rw [Int.toNat_natCast, Int.toNat_natCast, hg, hs, List.length_set, if_neg (by
      have : (twI (ims.getD i im0) k A c).l.length = (ims.getD i im0).l.length := by simp [twI]
      rw [this]; omega)]
  rw [e1, e2]
  generalize (ims.getD i im0).l.getD k sym0 = s
  unfold bindS
  rw [lookF_tw, show refS (tw s) = refS s from rfl, show ownB (tw s) = ownB s from rfl]
  by_cases ho : (ownB s && !copied) = true
  · rw [if_pos ho, if_pos ho]
    exact ⟨rfl, .inl ⟨rfl, rfl, rfl⟩⟩
  · rw [if_neg ho, if_neg ho]
    by_cases hf : (lookF (refS s) (if copied = true then (i : Int) else -1) ims).2.2 = true
    · rw [if_pos hf, if_pos hf]
      exact ⟨rfl, .inl ⟨hf, rfl, rfl⟩⟩
    · rw [if_neg hf, if_neg hf]
      obtain ⟨n, v, o, kd, wk, vs, df, va, sz⟩ := s
      cases wk
      · exact ⟨rfl, .inr ⟨rfl, .inr ⟨rfl, rfl⟩⟩⟩
      · exact ⟨rfl, .inr ⟨rfl, .inl ⟨rfl, rfl⟩⟩⟩

end Go.Proofs.Ytcjmngonpijeiaa
