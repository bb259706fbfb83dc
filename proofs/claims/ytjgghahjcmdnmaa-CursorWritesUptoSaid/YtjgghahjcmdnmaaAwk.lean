/- The laws' first row: the document's examples. -/
import Derived.Test.YtjgghahjcmdnmaaRdr3
namespace Go.Proofs.Ytjgghahjcmdnmaa
open Go.RowKit Pl
set_option linter.unusedVariables false

/-- Text of one text that was laid down for it -/
theorem text_one (p : Nat) (st : WS) (v : Value) (s : ByteArray) (w : World) (h : Wst w p st v) (hs : s.size ≤ 140737488351232)
    (hlen : st.2.length + 4200 ≤ 140737488355328) :
    Calls Try.prog 14 #[.pointer (some ⟨p, 0, none⟩), .slice (some ⟨w.heap.size, 0, none⟩) 1 1] (w.alloc (.cells #[.string s] 9)) fun r w' => r = .returned (.tuple #[]) ∧ ∃ v', Wto p w v w' (wtext st [txt s]) v' := by
  have hx := Ext.alloc w (.cells #[.string s] 9)
  refine (text_any p st v (some ⟨w.heap.size, 0, none⟩) 1 [s] _ (h.ext hx) ?_ ?_ (by simpa using hlen) (fun t ht => by rw [List.mem_singleton.1 ht]; exact hs)).mono ?_
  · intro i hi
    have : i = 0 := by simpa [strs] using hi
    subst this
    exact ⟨w.heap.size, 0, rfl, cnew w #[.string s] _ 0 rfl⟩
  · intro b o hb _ hS
    simp only [Option.some.injEq, Addr.mk.injEq] at hb
    have := h.lt b hS
    omega
  · rintro r w' ⟨hr, v', ht⟩
    exact ⟨hr, v', ((Wto.refl h).ext hx).trans ht⟩

/-- a writer of the call's own -/
structure WF (w0 w : World) (p : Nat) (st : WS) (v : Value) : Prop where
  st : Wst w p st v
  foot : ∀ k, ftp p v k → w0.heap.size ≤ k
  ext : Ext w0 w

theorem WF.new {w0 w w' : World} (hx : Ext w0 w) (h : Wst w' w.heap.size (0, []) (.slice none 0 0)) (k : Ext w w') : WF w0 w' w.heap.size (0, []) (.slice none 0 0) :=
  ⟨h, by rintro k (rfl | hk); exact hx.size; simp [Value.ownBlock] at hk, hx.trans k⟩
theorem WF.to {w0 w w' : World} {p : Nat} {st st' : WS} {v v' : Value} (h : WF w0 w p st v) (t : Wto p w v w' st' v') : WF w0 w' p st' v' := by
  refine ⟨t.st, ?_, t.chg.ext h.ext h.foot⟩
  rintro k (rfl | hk)
  · exact h.foot _ (.inl rfl)
  · rcases t.foot k hk with h1 | h1
    · exact h.foot k (.inr h1)
    · exact Nat.le_trans h.ext.size h1
theorem WF.ex {w0 w w' : World} {p : Nat} {st : WS} {v : Value} (h : WF w0 w p st v) (hx : Ext w w') : WF w0 w' p st v := ⟨h.st.ext hx, h.foot, h.ext.trans hx⟩

/-- a reader of the call's own -/
structure RF (w0 w : World) (p : Nat) (st : WS) (A : Option Addr) (cap : Nat) : Prop where
  st : Rst w p st A cap
  base : w0.heap.size ≤ p
  foot : ∀ k, inB A k → w0.heap.size ≤ k
  ext : Ext w0 w

theorem RF.new {w0 w w' : World} {p cap : Nat} {bs : List UInt8} {A : Option Addr} (hx : Ext w0 w) (h : Rst w' p (0, bs) A cap) (hp : w.heap.size ≤ p) (hf : ∀ k, inB A k → w.heap.size ≤ k) (k : Ext w w') : RF w0 w' p (0, bs) A cap :=
  ⟨h, Nat.le_trans hx.size hp, fun k hk => Nat.le_trans hx.size (hf k hk), hx.trans k⟩
theorem RF.to {w0 w w' : World} {p : Nat} {st st' : WS} {A A' : Option Addr} {cap cap' : Nat} (h : RF w0 w p st A cap) (t : Rto p w A w' st' A' cap') : RF w0 w' p st' A' cap' :=
  ⟨t.st, h.base, fun k hk => h.foot k (t.foot k hk), t.chg.ext h.ext (fun k hk => by rw [hk]; exact h.base)⟩
theorem RF.ex {w0 w w' : World} {p cap : Nat} {st : WS} {A : Option Addr} (h : RF w0 w p st A cap) (hx : Ext w w') : RF w0 w' p st A cap := ⟨h.st.ext hx, h.base, h.foot, h.ext.trans hx⟩

set_option maxHeartbeats 1600000 in
theorem awake_any (w : World) : Calls Try.prog 11 #[] w fun e w' => e = .returned (.bool true) ∧ Ext w w' := by
  have HB1 : Hid (wnum 2 (0, []) [258] = (0, [2, 1])) := Lib.hid (by decide)
  have HB2 : Hid (wtext (0, [2, 1]) [txt ⟨#[97]⟩] = (0, [2, 1, 1, 0, 97])) := Lib.hid (by decide)
  have HC1 : Hid (rnum 2 (0, [2, 1, 1, 0, 97]) = (258, (0, [1, 0, 97]))) := Lib.hid (by decide)
  have HC2 : Hid (rpart 2 4096 (0, [1, 0, 97]) = ([97], (0, []))) := Lib.hid (by decide)
  have HC3 : Hid (rnum 1 (0, []) = (0, (11, []))) := Lib.hid (by decide)
  go_enter Try.func11, Try.ntmps11
  go_wp2_with fail
  refine (newWriter_any w).mono ?_
  rintro e w1 ⟨rfl, h1, hx1⟩
  have H1 := Lib.hid (WF.new (Ext.refl w) h1 hx1)
  clear h1 hx1
  go_wp2_with fail
  refine (num_one w.heap.size _ _ 2 258 w1 H1.out.st (by omega) (by omega) (by simp)).mono ?_
  rintro e w2 ⟨rfl, v2, h2⟩
  rw [HB1.out] at h2
  have H2 := Lib.hid (H1.out.to h2)
  clear h2 H1
  go_wp2_with fail
  refine (text_one w.heap.size _ _ ⟨#[97]⟩ w2 H2.out.st (by decide) (by simp)).mono ?_
  rintro e w3 ⟨rfl, v3, h3⟩
  rw [HB2.out] at h3
  have H3 := Lib.hid (H2.out.to h3)
  clear h3 H2
  go_wp2_with fail
  refine (bytes_any w.heap.size _ _ w3 H3.out.st (by simp)).mono ?_
  rintro e w4 ⟨v4, rfl, hx4, ho4⟩
  rw [if_pos rfl, if_pos rfl] at ho4
  obtain ⟨A4, c4, rfl⟩ := own_slice ho4
  have HX4 := Lib.hid (H3.out.ext.trans hx4)
  have HO4 := Lib.hid ho4
  clear hx4 ho4 H3
  go_wp2_with fail
  refine (newReader_any A4 c4 _ w4 (Rd.of_own HO4.out) (by simp)).mono ?_
  rintro e w5 ⟨p5, A5, c5, rfl, hp5, h5, hf5, hx5⟩
  have H5 := Lib.hid (RF.new HX4.out h5 hp5 hf5 hx5)
  have hcv : (convert 29 9 (.slice A4 5 c4)).run Try.prog w5 = .ok (.string ⟨#[2, 1, 1, 0, 97]⟩) w5 := conv_bytes w5 A4 c4 [2, 1, 1, 0, 97] (hx5.rd (Rd.of_own HO4.out))
  clear HX4 hp5 h5 hf5 hx5 HO4
  go_wp2_with fail
  refine (rnum_any p5 _ A5 c5 2 w5 H5.out.st (by omega)).mono ?_
  rintro e w6 ⟨rfl, A6, c6, h6⟩
  rw [HC1.out] at h6 ⊢
  have H6 := Lib.hid (H5.out.to h6)
  clear H5 h6 hcv
  go_wp2_with fail
  refine (rtext_any p5 _ A6 c6 w6 H6.out.st).mono ?_
  rintro e w7 ⟨rfl, A7, c7, h7⟩
  rw [HC2.out] at h7 ⊢
  have H7 := Lib.hid (H6.out.to h7)
  clear H6 h7
  go_wp2_with fail
  refine (rnum_any p5 _ A7 c7 1 w7 H7.out.st (by omega)).mono ?_
  rintro e w8 ⟨rfl, A8, c8, h8⟩
  rw [HC3.out] at h8 ⊢
  have H8 := Lib.hid (H7.out.to h8)
  clear H7 h8
  go_wp2_with fail
  refine (fault_any p5 _ A8 c8 w8 H8.out.st).mono ?_
  rintro e w9 ⟨rfl, rfl⟩
  go_wp2
  go_ret
  exact ⟨rfl, H8.out.ext⟩

end Go.Proofs.Ytjgghahjcmdnmaa
