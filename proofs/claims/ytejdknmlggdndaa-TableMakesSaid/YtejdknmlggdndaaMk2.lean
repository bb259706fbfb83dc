/- table.hashes: the places of those that are seen, and their names' hashes. -/
import Derived.Test.YtejdknmlggdndaaMk1
import Derived.Test.YtejdknmlggdndaaChg
namespace Go.Proofs.Ytejdknmlggdndaa
open Go.RowKit Pl
set_option linter.unusedVariables false

theorem info_int : (Try.prog.info? 3).map (fun i => (i.zero, i.size, i.bytes)) = some (some (.int .i64 0), 1, 8) := by kernel_rfl
theorem info_u32 : (Try.prog.info? 55).map (fun i => (i.zero, i.size, i.bytes)) = some (some (.int .u32 0), 1, 4) := by kernel_rfl

/-- two rows of the call's own: places and hashes -/
structure St2 (w0 w : World) (v : Value) (n : Nat) (xs : List Value) (u : Value) (m : Nat) (ys : List Value) : Prop where
  i : w.ownsRow w0.heap.size 3 1 v n xs
  h : w.ownsRow w0.heap.size 55 1 u m ys
  x : Ext w0 w

theorem St2.ex {w0 w w' : World} {v u : Value} {n m : Nat} {xs ys : List Value} (s : St2 w0 w v n xs u m ys) (hx : Ext w w') : St2 w0 w' v n xs u m ys := ⟨hx.own s.i, hx.own s.h, s.x.trans hx⟩
theorem St2.appI {w0 w w' : World} {v u v' : Value} {n m n' : Nat} {xs ys xs' : List Value} (s : St2 w0 w v n xs u m ys) (o1 : w'.ownsRow w0.heap.size 3 1 v' n' xs') (o2 : w.grownBy w' v.ownBlock) : St2 w0 w' v' n' xs' u m ys :=
  ⟨o1, s.h.kept o2 (own_ne_ty s.h s.i (by decide)), (Chg.grown o2).ext s.x (fun k hk => (s.i.lt k hk.symm).1)⟩
theorem St2.appH {w0 w w' : World} {v u u' : Value} {n m m' : Nat} {xs ys ys' : List Value} (s : St2 w0 w v n xs u m ys) (o1 : w'.ownsRow w0.heap.size 55 1 u' m' ys') (o2 : w.grownBy w' u.ownBlock) : St2 w0 w' v n xs u' m' ys' :=
  ⟨s.i.kept o2 (own_ne_ty s.i s.h (by decide)), o1, (Chg.grown o2).ext s.x (fun k hk => (s.h.lt k hk.symm).1)⟩

theorem Blk.rd {w : World} {g : Nat} {e : TypeId} {xs : List Value} (h : Blk w g e xs.toArray) : Rd w (some ⟨g, 0, none⟩) xs := by
  intro i hi
  exact ⟨g, 0, rfl, by rw [Nat.zero_add]; exact h.cell i (by simp [hi])⟩

/-- two rows, and a symbol's block -/
structure St3 (w0 w : World) (v : Value) (n : Nat) (xs : List Value) (u : Value) (m : Nat) (ys : List Value) (b : Nat) (cs : Array Value) : Prop where
  s : St2 w0 w v n xs u m ys
  b : Blk w b 43 cs

theorem own_neS {w : World} {base n : Nat} {e : TypeId} {v : Value} {xs : List Value} {b : Nat} {cs : Array Value} (h : w.ownsRow base e 1 v n xs) (k : Blk w b 43 cs) (hne : e ≠ 43) : some b ≠ v.ownBlock := by
  rcases h.2 with ⟨rfl, _⟩ | ⟨g, cap, cur, rfl, _⟩
  · simp [Value.ownBlock]
  · have := own_ne h k hne
    simpa [Value.ownBlock] using this
theorem St3.ex {w0 w w' : World} {v u : Value} {n m b : Nat} {xs ys : List Value} {cs : Array Value} (s : St3 w0 w v n xs u m ys b cs) (hx : Ext w w') : St3 w0 w' v n xs u m ys b cs := ⟨s.s.ex hx, hx.blk s.b⟩
theorem St3.appI {w0 w w' : World} {v u v' : Value} {n m n' b : Nat} {xs ys xs' : List Value} {cs : Array Value} (s : St3 w0 w v n xs u m ys b cs) (o1 : w'.ownsRow w0.heap.size 3 1 v' n' xs') (o2 : w.grownBy w' v.ownBlock) : St3 w0 w' v' n' xs' u m ys b cs :=
  ⟨s.s.appI o1 o2, s.b.grown o2 (own_neS s.s.i s.b (by decide))⟩
theorem St3.appH {w0 w w' : World} {v u u' : Value} {n m m' b : Nat} {xs ys ys' : List Value} {cs : Array Value} (s : St3 w0 w v n xs u m ys b cs) (o1 : w'.ownsRow w0.heap.size 55 1 u' m' ys') (o2 : w.grownBy w' u.ownBlock) : St3 w0 w' v n xs u' m' ys' b cs :=
  ⟨s.s.appH o1 o2, s.b.grown o2 (own_neS s.s.h s.b (by decide))⟩

/-- what hashes answers -/
def Hs (w : World) (l : List Sym) (r : Ending) (w' : World) : Prop :=
  ∃ A c B d, r = .returned (.tuple #[.slice A (seenI l).length c, .slice B (seenI l).length d]) ∧ St2 w w' (.slice A (seenI l).length c) (seenI l).length (ints (natI (seenI l))) (.slice B (seenI l).length d) (seenI l).length (u32s (hashL l (seenI l)))

set_option maxRecDepth 100000 in
set_option maxHeartbeats 3200000 in
theorem hashes_any (A : Option Addr) (c : Nat) (l : List Sym) (w : World) (hA : RdY w A l) (hf : ∀ s ∈ l, s.Fit) (hl : l.length ≤ 512) :
    Calls Try.prog 29 #[.slice A l.length c] w fun r w' => Hs w l r w' := by
  obtain ⟨i0, hi0, hz0, hz1, hz2⟩ := info_parts info_int
  obtain ⟨i1, hj0, hj1, hj2, hj3⟩ := info_parts info_u32
  have HA := Lib.hid hA
  have HF := Lib.hid hf
  clear hA hf
  go_enter Try.func29, Try.ntmps29
  go_wp2_with fail
  go_loopw [4, 5, 10] (fun a h i wr => ∃ (k : Nat) (v u : Value), k ≤ l.length ∧ v = a ∧ u = h ∧ i = .int .i64 k ∧ St2 w wr v (seenK l k).length (ints (natI (seenK l k))) u (seenK l k).length (u32s (hashL l (seenK l k)))) (fun _ _ i _ => l.length - (intOf i).toNat)
  case atStart => exact ⟨0, _, _, Nat.zero_le _, rfl, rfl, rfl, ⟨World.ownsRow_nil _ _ _ _, World.ownsRow_nil _ _ _ _, Ext.refl _⟩⟩
  case round =>
    obtain ⟨k, v, u, hk, rfl, rfl, rfl, hst⟩ := hrel
    have HST := Lib.hid hst
    clear hst
    by_cases hlt : k < l.length
    · obtain ⟨yb, yo, rfl, hyb, hy⟩ := HA.out.nine hlt
      have hfit := HF.out _ (List.getElem_mem hlt)
      have hgd : l.getD k sym0 = l[k] := by rw [List.getD_eq_getElem?_getD, List.getElem?_eq_getElem hlt]; rfl
      have HSK := Lib.hid (seenK_succ l k)
      have hkl := seenK_len l k
      have HHA := Lib.hid (hashL_append l (seenK l k) [k])
      have HH1 : Hid (hashL l [k] = [hashN l[k].name]) := Lib.hid (by simp only [hashL, List.map_cons, List.map_nil, hgd])
      rw [hgd] at HSK
      clear hgd
      generalize seenK l k = sk at *
      generalize l[k] = d at *
      obtain ⟨h0, h1, h2, h3, h4, h5, h6, h7, h8⟩ := hy.ext HST.out.x
      have HS := Lib.hid (seen_any d)
      have hns : d.name.size ≤ maxLen := by have := hfit.name; unfold maxLen; omega
      obtain ⟨name, ver, old, kind, weak, vis, defd, val, size⟩ := d
      simp only at h0 h1 h2 h3 h4 h5 h6 h7 h8 hns
      simp only [Sym.vals] at HS
      have HHC : Hid (∀ w', Calls Try.prog 41 #[.string name] w' fun e w2 => e = .returned (.int .u32 (hashN name : Nat)) ∧ w' = w2) := Lib.hid (fun w' => (hash_any name w' hns).mono fun e w2 h => ⟨by rw [(hash_lt name).1]; exact h.1, h.2⟩)
      clear hy
      go_wp2_with fail
      have hbx : Blk (wr.alloc (.cells #[.string name, .string ver, .bool old, .int .i64 kind, .bool weak, .int .i64 vis, .bool defd, .int .i64 val, .int .i64 size] 43)) wr.heap.size 43 #[.string name, .string ver, .bool old, .int .i64 kind, .bool weak, .int .i64 vis, .bool defd, .int .i64 val, .int .i64 size] := Blk.new _ _ _
      have hxb := Ext.alloc wr (.cells #[.string name, .string ver, .bool old, .int .i64 kind, .bool weak, .int .i64 vis, .bool defd, .int .i64 val, .int .i64 size] 43)
      generalize wr.alloc (.cells #[.string name, .string ver, .bool old, .int .i64 kind, .bool weak, .int .i64 vis, .bool defd, .int .i64 val, .int .i64 size] 43) = wb at *
      refine (HS.out _).mono ?_
      rintro e w2 ⟨rfl, hx2⟩
      have n0 : w2.cell? ⟨wr.heap.size, 0, none⟩ = some (.string name) := hx2.cell (hbx.cell 0 rfl)
      have hs2 := HST.out.ex (hxb.trans hx2)
      have hbk2 := hx2.blk hbx
      clear h0 h1 h2 h3 h4 h5 h6 h7 h8 hbx hxb hx2 HS
      cases hsb : seenB ⟨name, ver, old, kind, weak, vis, defd, val, size⟩
      · rw [hsb] at HSK
        have HSK1 : Hid (seenK l (k + 1) = sk) := Lib.hid (by rw [HSK.out]; simp)
        have HS2 := Lib.hid hs2
        clear hsb HSK hs2 HST hbk2 n0
        go_wp2
        go_roundw
        case rel => exact ⟨k + 1, v, u, by omega, rfl, rfl, by go_num, by rw [HSK1.out]; exact HS2.out⟩
        case measure => simp [intOf]; omega
      · rw [hsb] at HSK
        have HSK1 : Hid (seenK l (k + 1) = sk ++ [k]) := Lib.hid (by rw [HSK.out]; simp)
        have HFIN : Hid (∀ v' u' w' b cs, St3 w w' v' (sk.length + 1) (ints (natI sk) ++ [.int .i64 (k : Int)]) u' (sk.length + 1) (u32s (hashL l sk) ++ [.int .u32 (hashN name : Nat)]) b cs →
            St2 w w' v' (seenK l (k + 1)).length (ints (natI (seenK l (k + 1)))) u' (seenK l (k + 1)).length (u32s (hashL l (seenK l (k + 1))))) := Lib.hid (by
          intro v' u' w' b cs h
          rw [HSK1.out, HHA.out, HH1.out, natI_append, ints_append, List.length_append]
          have e : u32s (hashL l sk ++ [hashN name]) = u32s (hashL l sk) ++ [.int .u32 (hashN name : Nat)] := by simp [u32s]
          rw [e]
          exact h.s)
        clear hsb HSK HST
        have hs3 : St3 w w2 v sk.length (ints (natI sk)) u sk.length (u32s (hashL l sk)) wr.heap.size #[.string name, .string ver, .bool old, .int .i64 kind, .bool weak, .int .i64 vis, .bool defd, .int .i64 val, .int .i64 size] := ⟨hs2, hbk2⟩
        have hlw := hbk2.lt
        clear hs2 hbk2
        go_wp2_with fail
        go_region_law (first
          | (go_simp; go_at_call 41; refine (HHC.out _).mono ?_; rintro e w5 ⟨rfl, rfl⟩)
          | (refine step_app_rd2 rfl _ _ 58 rfl w.heap.size 3 i0 (.int .i64 0) 8 Try.underlying58 hi0 hz0 hz1 hz2 rfl v sk.length (ints (natI sk)) rfl (St2.i (St3.s (by first | assumption | exact St3.ex (by assumption) (Ext.alloc _ _) | exact St3.ex (by assumption) (Ext.drew _) | exact St3.ex (by assumption) ((Ext.alloc _ _).trans (Ext.drew _)) | exact St3.ex (by assumption) ((Ext.alloc _ _).trans (Ext.alloc _ _)) | exact St3.ex (by assumption) (((Ext.alloc _ _).trans (Ext.alloc _ _)).trans (Ext.drew _))))) _ _ [.int .i64 k] 1 rfl rfl (Blk.rd (Blk.new _ _ _)) (fun x hx => by rw [List.mem_singleton.1 hx]; rfl) (by simp only [maxLen]; omega) (by omega) (Ext.size (St2.x (St3.s (by first | assumption | exact St3.ex (by assumption) (Ext.alloc _ _) | exact St3.ex (by assumption) (Ext.drew _) | exact St3.ex (by assumption) ((Ext.alloc _ _).trans (Ext.drew _)) | exact St3.ex (by assumption) ((Ext.alloc _ _).trans (Ext.alloc _ _)) | exact St3.ex (by assumption) (((Ext.alloc _ _).trans (Ext.alloc _ _)).trans (Ext.drew _)))))) ?_; intro v7 w7 o1 o2 o3; have ht := St3.appI (by first | assumption | exact St3.ex (by assumption) (Ext.alloc _ _) | exact St3.ex (by assumption) (Ext.drew _) | exact St3.ex (by assumption) ((Ext.alloc _ _).trans (Ext.drew _)) | exact St3.ex (by assumption) ((Ext.alloc _ _).trans (Ext.alloc _ _)) | exact St3.ex (by assumption) (((Ext.alloc _ _).trans (Ext.alloc _ _)).trans (Ext.drew _))) o1 o2; have n7 := Blk.cell (St3.b ht) 0 rfl; clear o1 o2 o3)
          | (refine step_app_rd2 rfl _ _ 60 rfl w.heap.size 55 i1 (.int .u32 0) 4 Try.underlying60 hj0 hj1 hj2 hj3 rfl u sk.length (u32s (hashL l sk)) rfl (St2.h (St3.s (by first | assumption | exact St3.ex (by assumption) (Ext.alloc _ _) | exact St3.ex (by assumption) (Ext.drew _) | exact St3.ex (by assumption) ((Ext.alloc _ _).trans (Ext.drew _)) | exact St3.ex (by assumption) ((Ext.alloc _ _).trans (Ext.alloc _ _)) | exact St3.ex (by assumption) (((Ext.alloc _ _).trans (Ext.alloc _ _)).trans (Ext.drew _))))) _ _ [.int .u32 (hashN name : Nat)] 1 rfl rfl (Blk.rd (Blk.new _ _ _)) (fun x hx => by rw [List.mem_singleton.1 hx]; rfl) (by simp only [maxLen]; omega) (by omega) (Ext.size (St2.x (St3.s (by first | assumption | exact St3.ex (by assumption) (Ext.alloc _ _) | exact St3.ex (by assumption) (Ext.drew _) | exact St3.ex (by assumption) ((Ext.alloc _ _).trans (Ext.drew _)) | exact St3.ex (by assumption) ((Ext.alloc _ _).trans (Ext.alloc _ _)) | exact St3.ex (by assumption) (((Ext.alloc _ _).trans (Ext.alloc _ _)).trans (Ext.drew _)))))) ?_; intro u7 w8 o1 o2 o3; have ht := St3.appH (by first | assumption | exact St3.ex (by assumption) (Ext.alloc _ _) | exact St3.ex (by assumption) (Ext.drew _) | exact St3.ex (by assumption) ((Ext.alloc _ _).trans (Ext.drew _)) | exact St3.ex (by assumption) ((Ext.alloc _ _).trans (Ext.alloc _ _)) | exact St3.ex (by assumption) (((Ext.alloc _ _).trans (Ext.alloc _ _)).trans (Ext.drew _))) o1 o2; have n7 := Blk.cell (St3.b ht) 0 rfl; clear o1 o2 o3))
        all_goals
          go_wp2
          go_roundw
          case rel => exact ⟨k + 1, _, _, by omega, rfl, rfl, by go_num, HFIN.out _ _ _ _ _ (by assumption)⟩
          case measure => simp [intOf]; omega
    · have hkn : k = l.length := by omega
      subst hkn
      obtain ⟨A1, c1, rfl⟩ := own_slice HST.out.i
      obtain ⟨A2, c2, rfl⟩ := own_slice HST.out.h
      go_wp2
      exact bodyPost_ret (v := .tuple #[.slice A1 (seenK l l.length).length c1, .slice A2 (seenK l l.length).length c2]) (by simp [results, Try.results29, go_sem]) rfl ⟨A1, c1, A2, c2, rfl, HST.out⟩

end Go.Proofs.Ytejdknmlggdndaa
