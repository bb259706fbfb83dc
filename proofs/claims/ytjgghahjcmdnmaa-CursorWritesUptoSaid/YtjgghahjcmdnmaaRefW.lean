/- The document's writer: in memory, and what its methods put. -/
import Derived.Test.YtjgghahjcmdnmaaTake
import Derived.Lib.AppendStr
namespace Go.Proofs.Ytjgghahjcmdnmaa
open Go.RowKit Pl
set_option linter.unusedVariables false

/-- the document's writer at block p: its first error, its bytes; v: the slice that holds them -/
structure Vst (w : World) (p : Nat) (st : WS) (v : Value) : Prop where
  blk : Blk w p 42 #[v, .int .i64 st.1]
  own : w.ownsRow 0 5 1 v st.2.length (u8s st.2)

theorem Vst.form {w : World} {p : Nat} {st : WS} {v : Value} (h : Vst w p st v) : ∃ A c, v = .slice A st.2.length c := by
  rcases h.own.2 with ⟨rfl, h0⟩ | ⟨g, cap, cur, rfl, _⟩
  · exact ⟨_, _, by rw [h0]⟩
  · exact ⟨_, _, rfl⟩

theorem Vst.keep {S : Nat → Prop} {w w' : World} {p : Nat} {st : WS} {v : Value} (h : Vst w p st v) (hc : Chg S w w') (hn : ∀ k, ftp p v k → ¬ S k) : Vst w' p st v :=
  ⟨hc.blk h.blk (hn p (.inl rfl)), hc.own h.own (fun k hk => hn k (.inr hk))⟩

theorem Vst.ext {w w' : World} {p : Nat} {st : WS} {v : Value} (h : Vst w p st v) (hx : Ext w w') : Vst w' p st v := ⟨hx.blk h.blk, hx.own h.own⟩

theorem Vst.ne {w : World} {p : Nat} {st : WS} {v : Value} (h : Vst w p st v) : v.ownBlock ≠ some p := by
  rcases h.own.2 with ⟨rfl, _⟩ | ⟨g, cap, cur, rfl, _, hh, _⟩
  · simp [Value.ownBlock]
  · simp only [Value.ownBlock, ne_eq, Option.some.injEq]
    rintro rfl
    have := h.blk
    unfold Blk at this
    rw [hh] at this
    injection this with this
    injection this with _ ht
    exact absurd ht (by decide)

theorem Vst.lt {w : World} {p : Nat} {st : WS} {v : Value} (h : Vst w p st v) : ∀ k, ftp p v k → k < w.heap.size := by
  rintro k (rfl | hk)
  · exact h.blk.lt
  · exact (h.own.lt k hk).2

/-- from one writer's state to another: a call's whole effect -/
structure Vto (p : Nat) (w : World) (v : Value) (w' : World) (st' : WS) (v' : Value) : Prop where
  st : Vst w' p st' v'
  foot : ∀ k, v'.ownBlock = some k → v.ownBlock = some k ∨ w.heap.size ≤ k
  chg : Chg (ftp p v) w w'

theorem Vto.refl {p : Nat} {w : World} {v : Value} {st : WS} (h : Vst w p st v) : Vto p w v w st v := ⟨h, fun _ h => .inl h, Chg.refl _ _⟩

theorem Vto.trans {p : Nat} {a b c : World} {va vb vc : Value} {s1 s2 : WS} (h : Vto p a va b s1 vb) (k : Vto p b vb c s2 vc) : Vto p a va c s2 vc := by
  refine ⟨k.st, fun i hi => ?_, h.chg.trans k.chg (fun i hi => ?_)⟩
  · rcases k.foot i hi with h1 | h1
    · exact h.foot i h1
    · exact .inr (Nat.le_trans h.chg.size h1)
  · rcases hi with rfl | hi
    · exact .inl (.inl rfl)
    · rcases h.foot i hi with h1 | h1
      · exact .inl (.inr h1)
      · exact .inr h1

/-- new blocks beside it -/
theorem Vto.ext {p : Nat} {a b c : World} {va vb : Value} {s1 : WS} (h : Vto p a va b s1 vb) (hx : Ext b c) : Vto p a va c s1 vb :=
  h.trans ⟨h.st.ext hx, fun _ h => .inl h, Chg.of_ext hx⟩

/-- bytes appended, and the field stored -/
theorem Vst.app {p : Nat} {w w1 w2 : World} {E : Int} {T X : List UInt8} {v v' : Value} (h : Vst w p (E, T) v) (hx : Ext w w1) (n : Nat) (hn : n = T.length + X.length)
    (ho : w2.ownsRow 0 5 1 v' n (u8s T ++ u8s X)) (hg : w1.grownBy w2 v.ownBlock) (ha : v'.ownBlock = v.ownBlock ∨ v'.ownBlock = some w1.heap.size) :
    Vto p w v (w2.setCell ⟨p, 0, none⟩ v') (E, T ++ X) v' := by
  subst hn
  have b2 : Blk w2 p 42 #[v, .int .i64 E] := (hx.blk h.blk).grown hg (fun e => h.ne e.symm)
  refine ⟨⟨b2.set 0 v', ?_⟩, fun k hk => ?_, ?_⟩
  · have := own_farB ho b2 (by decide) (i := 0) v'
    simpa [u8s_append] using this
  · rcases ha with ha | ha
    · exact .inl (ha ▸ hk)
    · rw [ha] at hk
      injection hk with hk
      subst hk
      exact .inr hx.size
  · refine (Chg.of_ext hx).trans (((Chg.grown hg).mono (S' := ftp p v) (fun k hk => .inr hk.symm)).trans ((Chg.set w2 p 0 v').mono (S' := ftp p v) (fun k hk => .inl hk)) (fun i hi => .inl hi)) (fun i hi => .inl hi)

/-- the writer's field, over an append -/
theorem Vst.field {p : Nat} {w w1 w2 : World} {st : WS} {v : Value} (h : Vst w p st v) (hx : Ext w w1) (hg : w1.grownBy w2 v.ownBlock) : w2.cell? ⟨p, 0, none⟩ = some v ∧ w2.frozen? ⟨p, 0, none⟩ = false := by
  have b2 : Blk w2 p 42 #[v, .int .i64 st.1] := (hx.blk h.blk).grown hg (fun e => h.ne e.symm)
  exact ⟨b2.cell 0 rfl, b2.frozen 0⟩


/-- the first error stored -/
theorem Vst.fault {w : World} {p : Nat} {st : WS} {v : Value} (h : Vst w p st v) (e : Int) : Vto p w v (w.setCell ⟨p, 1, none⟩ (.int .i64 e)) (e, st.2) v := by
  refine ⟨⟨h.blk.set 1 _, own_farB h.own h.blk (by decide) _⟩, fun _ h => .inl h, (Chg.set w p 1 _).mono (fun k hk => .inl hk)⟩

theorem strCells_u8s (s : ByteArray) : Lib.strCells s = u8s (txt s) := by
  unfold Lib.strCells u8s txt
  rfl

/-- a text appended: and where the new row lies -/
theorem run_app_str {P : Program} (w : World) (t u ty e : TypeId) (i : TypeInfo) (ht : P.underlying t = some (.slice e)) (hu : P.underlying u = some .string) (hi : P.info? e = some i) (hz : i.zero = some (.int .u8 0))
    (hsize : i.size = 1) (hby : i.bytes = 1) (v : Value) (n : Nat) (xs : List Value) (hown : w.ownsRow 0 e 1 v n xs) (s : ByteArray) (hbytes : n + s.size ≤ 140737488355328) :
    ∃ v' w', (Builtin.append_ #[t, u] ty #[v, .string s]).run P w = .ok v' w' ∧ w'.ownsRow 0 e 1 v' (n + s.size) (xs ++ u8s (txt s)) ∧ w.grownBy w' v.ownBlock ∧ (v'.ownBlock = v.ownBlock ∨ v'.ownBlock = some w.heap.size) := by
  obtain ⟨v', w', hrun, h2, h3, h4⟩ := Lib.run_append_own_string (P := P) w 0 t u ty e i ht hu hi hz hsize hby v n xs hown s (by unfold maxLen; omega) hbytes (Nat.zero_le _)
  rw [strCells_u8s] at h2
  refine ⟨v', w', hrun, h2, h3, ?_⟩
  have hxl : xs.length = n := by simpa using hown.1
  rcases hown.2 with ⟨rfl, rfl⟩ | ⟨g, cap, cur, rfl, hbg, hg, hnc, hcm, hcs, htake⟩
  · by_cases hm : s.size = 0
    · left; rw [h4.2 ⟨rfl, hm⟩]
    · right
      have hr := run_append_nil_string (P := P) w t u ty e i (.int .u8 0) ht hu hi hz s (by omega) (by omega) (by rw [hby]; omega)
      rw [hr] at hrun
      injection hrun with e1 e2
      rw [← e1]; rfl
  · by_cases hroom : n + s.size ≤ cap
    · left
      have hr := Lib.run_append_room_string (P := P) w t u ty e i ht hu hi hsize g n cap cur hg s hroom (by have hq : cur.size = cap := (by simpa using hcs); omega)
      rw [hr] at hrun
      injection hrun with e1 e2
      rw [← e1]; rfl
    · right
      have holds : ∀ j u, xs[j]? = some u → w.cell? ((⟨g, 0, none⟩ : Addr).add j) = some u := hown.cells (g := g) rfl
      have hr := Lib.run_append_grow_string (P := P) w t u ty e i (.int .u8 0) ht hu hi hz ⟨g, 0, none⟩ n cap xs (by rw [hsize]; simpa using hxl) holds s (by omega) (by omega) (by rw [hby]; exact growslice_fits (by omega) (by omega))
      rw [hr] at hrun
      injection hrun with e1 e2
      rw [← e1]; rfl

theorem step_app_str {P : Program} {w : World} {ops : Array Oper} {o : Oper} {a : Act} {K : Act → World → Prop} {Q : Exit → Act → World → Prop} {E : Prop} (hgd : o.guard = none) (sl x : Operand) (t u : TypeId)
    (ho : o.op = .call { callee := .builtin .append, args := #[sl, x], argTypes := #[t, u] })
    (e : TypeId) (i : TypeInfo) (ht : P.underlying t = some (.slice e)) (hu : P.underlying u = some .string) (hi : P.info? e = some i) (hz : i.zero = some (.int .u8 0))
    (hsize : i.size = 1) (hby : i.bytes = 1) (v : Value) (n : Nat) (xs : List Value) (hs : a.eval sl = v) (hown : w.ownsRow 0 e 1 v n xs) (s : ByteArray) (hx : a.eval x = .string s) (hbytes : n + s.size ≤ 140737488355328)
    (h : ∀ v' w', w'.ownsRow 0 e 1 v' (n + s.size) (xs ++ u8s (txt s)) → w.grownBy w' v.ownBlock → (v'.ownBlock = v.ownBlock ∨ v'.ownBlock = some w.heap.size) → K (a.put o.dst v') w') :
    if Region.wanted o (yielded ops a.tmps) = true then Oper.wp P o a w K Q else E := by
  have hw : Region.wanted o (yielded ops a.tmps) = true := by simp [Region.wanted, hgd]
  rw [if_pos hw]
  obtain ⟨v', w', hr, h2, h3, h4⟩ := run_app_str (P := P) w t u o.type e i ht hu hi hz hsize hby v n xs hown s hbytes
  unfold Oper.wp execOp
  simp only [ho, resolve, invoke, builtin, Sem.run_bind, Sem.run_pure, Result.andThen_ok, List.map_toArray, List.map_cons, List.map_nil, hs, hx, hr]
  exact h v' w' h2 h3 h4

theorem fits_gr (size n : Int) (h8 : size ≠ 8) (hs : sizedB size = true) : fitsB n size = (decide (0 ≤ n) && decide (n ≤ gr size)) := by
  rcases sizedB_cases hs with rfl | rfl | rfl | rfl
  · simp only [fitsB, gr]; rw [Bool.eq_iff_iff]; simp; omega
  · simp only [fitsB, gr]; rw [Bool.eq_iff_iff]; simp; omega
  · simp only [fitsB, gr]; rw [Bool.eq_iff_iff]; simp; omega
  · exact absurd rfl h8

theorem rfits_any (size n : Int) (hs : sizedB size = true) (w : World) : Calls Try.prog 51 #[.int .i64 size, .int .i64 n] w fun e w' => e = .returned (.bool (fitsB n size)) ∧ w = w' := by
  by_cases h8 : size = 8
  · subst h8
    go_enter Try.func51, Try.ntmps51
    go_wp2
    go_ret
    exact ⟨retv (by simp [fitsB]), rfl⟩
  · have e8 : (size == 8) = false := by simp [h8]
    have HF := Lib.hid (fits_gr size n h8 hs)
    clear h8 hs
    by_cases h0 : 0 ≤ n
    · have HF2 : Hid (fitsB n size = decide (n ≤ gr size)) := Lib.hid (by rw [HF.out]; simp [h0])
      go_enter Try.func51, Try.ntmps51
      go_wp2_with fail
      refine (greatest_any size _).mono ?_
      rintro e w2 ⟨rfl, rfl⟩
      go_wp2
      go_ret
      exact ⟨retv (by rw [HF2.out]; rfl), rfl⟩
    · have HF2 : Hid (fitsB n size = false) := Lib.hid (by rw [HF.out]; simp [h0])
      go_enter Try.func51, Try.ntmps51
      go_wp2
      go_ret
      exact ⟨retv (by rw [HF2.out]; rfl), rfl⟩

theorem dig_mod (n : Int) (i : Nat) (hi : i ≤ 7) : (n % 18446744073709551616 / 2 ^ (8 * i)) % 256 = ((dig n i).toNat : Int) := by
  have h0 : 0 ≤ n / 2 ^ (8 * i) % 256 := Int.emod_nonneg _ (by omega)
  have h1 : n / 2 ^ (8 * i) % 256 < 256 := Int.emod_lt_of_pos _ (by omega)
  have h2 : ((dig n i).toNat : Int) = n / 2 ^ (8 * i) % 256 := by
    unfold dig
    rw [UInt8.toNat_ofNat', Nat.mod_eq_of_lt (by omega)]
    omega
  rw [h2]
  match i, hi with
  | 0, _ => rw [show (2 : Int) ^ (8 * 0) = 1 from rfl]; omega
  | 1, _ => rw [show (2 : Int) ^ (8 * 1) = 256 from rfl]; omega
  | 2, _ => rw [show (2 : Int) ^ (8 * 2) = 65536 from rfl]; omega
  | 3, _ => rw [show (2 : Int) ^ (8 * 3) = 16777216 from rfl]; omega
  | 4, _ => rw [show (2 : Int) ^ (8 * 4) = 4294967296 from rfl]; omega
  | 5, _ => rw [show (2 : Int) ^ (8 * 5) = 1099511627776 from rfl]; omega
  | 6, _ => rw [show (2 : Int) ^ (8 * 6) = 281474976710656 from rfl]; omega
  | 7, _ => rw [show (2 : Int) ^ (8 * 7) = 72057594037927936 from rfl]; omega

/-- the digits come out in a row of their own -/
def Digs (w : World) (D : List UInt8) (r : Ending) (w' : World) : Prop :=
  ∃ A c, r = .returned (.slice A D.length c) ∧ Ext w w' ∧ w'.ownsRow w.heap.size 5 1 (.slice A D.length c) D.length (u8s D)

theorem quo_step (n : Int) (i : Nat) : n % 18446744073709551616 / 2 ^ (8 * i) / 256 = n % 18446744073709551616 / 2 ^ (8 * (i + 1)) := by
  rw [show (2 : Int) ^ (8 * (i + 1)) = 2 ^ (8 * i) * 256 from by rw [Nat.mul_succ, Int.pow_add]; rfl, Int.ediv_ediv_of_nonneg (Int.le_of_lt (Int.pow_pos (by omega)))]

set_option maxHeartbeats 800000 in
theorem digits_any (z : Nat) (n : Int) (w : World) (hz : z ≤ 8) (hn : -9223372036854775808 ≤ n ∧ n ≤ 9223372036854775807) :
    Calls Try.prog 52 #[.int .i64 z, .int .i64 n] w fun r w' => Digs w (digs z n) r w' := by
  obtain ⟨i0, hi0, hz0, hz1, hz2⟩ := info_parts info_u8
  go_enter Try.func52, Try.ntmps52
  have HW0 : Hid (IntKind.u64.wrap n = n % 18446744073709551616 / 2 ^ (8 * 0)) := Lib.hid (by rw [IntKind.wrap_u64, Nat.mul_zero, show (2 : Int) ^ 0 = 1 from rfl, Int.ediv_one])
  go_wp2_with fail
  go_loopw [5, 6, 7] (fun o u i wr => ∃ (j : Nat) (v : Value), j ≤ z ∧ v = o ∧ i = .int .i64 j ∧ u = .int .u64 (n % 18446744073709551616 / 2 ^ (8 * j)) ∧ wr.ownsRow w.heap.size 5 1 v j (u8s (digs j n)) ∧ Ext w wr) (fun _ _ i _ => z - (intOf i).toNat)
  case atStart => exact ⟨0, _, Nat.zero_le _, rfl, rfl, by rw [HW0.out], World.ownsRow_nil _ _ _ _, Ext.refl _⟩
  case round =>
    obtain ⟨j, v, hj, rfl, rfl, rfl, ho, hx⟩ := hrel
    by_cases hlt : j < z
    · have hd := dig_mod n j (by omega)
      have hq := quo_step n j
      have hU0 : 0 ≤ n % 18446744073709551616 / 2 ^ (8 * j) := Int.ediv_nonneg (Int.emod_nonneg _ (by omega)) (Int.le_of_lt (Int.pow_pos (by omega)))
      have hU1 : n % 18446744073709551616 / 2 ^ (8 * j) ≤ 18446744073709551615 := by
        have h1 : n % 18446744073709551616 / 2 ^ (8 * j) ≤ n % 18446744073709551616 := Int.ediv_le_self _ (Int.emod_nonneg _ (by omega))
        have h2 := Int.emod_lt_of_pos n (show (0 : Int) < 18446744073709551616 by omega)
        omega
      generalize n % 18446744073709551616 / 2 ^ (8 * j) = U at *
      have HD := Lib.hid hd
      have HQ := Lib.hid hq
      have HO := Lib.hid ho
      have HX := Lib.hid hx
      have HA : Hid (Ext wr (wr.alloc (.cells #[.int .u8 (U % 256)] 5))) := Lib.hid (Ext.alloc _ _)
      have HN : Hid (Rd (wr.alloc (.cells #[.int .u8 (U % 256)] 5)) (some ⟨wr.heap.size, 0, none⟩) [.int .u8 (U % 256)]) := Lib.hid (Blk.rd (Blk.new _ _ _))
      have hws : w.heap.size ≤ (wr.alloc (.cells #[.int .u8 (U % 256)] 5)).heap.size := by simp; have := hx.size; omega
      have HWS := Lib.hid hws
      clear hd hq ho hx HW0 hws
      go_wp2_with (at_builtin; refine wpList_app_rd2 rfl _ _ 29 rfl w.heap.size 5 i0 (.int .u8 0) 1 Try.underlying29 hi0 hz0 hz1 hz2 rfl v j (u8s (digs j n)) rfl (HA.out.own HO.out) (some ⟨wr.heap.size, 0, none⟩) 1 [.int .u8 (U % 256)] 1 rfl rfl HN.out (fun u hu => by rw [List.mem_singleton.1 hu]; rfl) ?c1 ?c2 HWS.out ?_)
      case c1 => simp only [maxLen]; omega
      case c2 => omega
      intro v3 w3 o1 o2 o3
      have hx3 : Ext w w3 := Chg.ext (Chg.grown o2) (HX.out.trans HA.out) (fun k hk => ((HA.out.own HO.out).lt k hk.symm).1)
      rw [HD.out, show u8s (digs j n) ++ [Value.int .u8 ((dig n j).toNat : Int)] = u8s (digs (j + 1) n) by rw [digs_succ, u8s_append]; rfl] at o1
      have O1 := Lib.hid o1
      have HX3 := Lib.hid hx3
      clear o1 o2 o3 hx3 HA HN HWS HO HX
      go_wp2
      go_roundw
      case rel => exact ⟨j + 1, v3, by omega, rfl, by go_num, by rw [← HQ.out], O1.out, HX3.out⟩
      case measure => simp [intOf]; omega
    · obtain rfl : j = z := by omega
      obtain ⟨A, c, rfl⟩ := own_slice ho
      have HO := Lib.hid ho
      have HX := Lib.hid hx
      clear ho hx
      go_wp2
      go_ret
      refine ⟨A, c, retv ?_, HX.out, ?_⟩
      · show Value.slice A j c = _; rw [digs_length]
      · rw [digs_length]; exact HO.out

end Go.Proofs.Ytjgghahjcmdnmaa
