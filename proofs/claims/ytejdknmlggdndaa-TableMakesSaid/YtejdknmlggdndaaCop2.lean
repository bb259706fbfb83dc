/- clevisref08.Copied: the walk. -/
import Derived.Test.YtejdknmlggdndaaCop
import Derived.Test.YtejdknmlggdndaaMake
namespace Go.Proofs.Ytejdknmlggdndaa
open Go.RowKit Pl
set_option linter.unusedVariables false

theorem ints_one (is : List Int) : ∀ u ∈ ints is, u.oneCell' = true := by
  intro u hu
  obtain ⟨x, _, rfl⟩ := List.mem_map.1 hu
  rfl

theorem take_is (bs : List Bk) {k : Nat} (h : k < bs.length) : (bs.take (k + 1)).map Bk.is = (bs.take k).map Bk.is ++ [(bs.getD k bk0).is] := by
  rw [List.take_succ_eq_append_getElem h, List.map_append, List.getD_eq_getElem?_getD, List.getElem?_eq_getElem h]
  rfl

set_option maxRecDepth 100000 in
set_option maxHeartbeats 3200000 in
theorem copied_any (t : Tb) (w : World) (ht : t.In w) : Calls Try.prog 17 #[.agg t.vals.toArray] w (CpP t w) := by
  obtain ⟨i0, hi0, hz0, hz1, hz2⟩ := info_parts info_int
  obtain ⟨i1, hj0, hj1, hj2, hj3⟩ := info_parts info_ints
  have HT := Lib.hid ht
  have hwl := ht.wlen
  have hbl := ht.blen
  have HRA := Lib.hid (fun w' hx => refAdd_any t.WA t.wc t.sh t.ws none 0 [] w' ht.wfit (fun x h => by cases h) (by unfold maxLen; simp) ht.wlen ((show Ext w w' from hx).rd ht.wrd) (Rd.nil _ _) (.inl rfl))
  clear ht
  obtain ⟨BA, bc, bs, WA, wc, ws, sh⟩ := t
  simp only at HRA hwl hbl
  have HPA : Hid (putAll sh.toNat ws [] = ws) := Lib.hid rfl
  simp only [Tb.vals]
  go_enter Try.func17, Try.ntmps17
  go_wp2_with fail
  have hbx := box2 w #[.slice BA bs.length bc, .slice WA ws.length wc, .int .i64 sh] #[.slice none 0 0, .slice none 0 0, .int .i64 0] 29 29
  obtain ⟨hb1, hb2, hxb⟩ := hbx
  generalize (w.alloc (.cells #[.slice BA bs.length bc, .slice WA ws.length wc, .int .i64 sh] 29)).alloc (.cells #[.slice none 0 0, .slice none 0 0, .int .i64 0] 29) = wb at *
  have hta : w.heap.size ≤ w.heap.size + 1 := Nat.le_succ _
  generalize hra : w.heap.size + 1 = ra at *
  have hlt1 := hb2.lt
  refine (HRA.out wb hxb).mono ?_
  rintro e w2 ⟨FA, fc, rfl, hfo, hx2⟩
  rw [HPA.out] at hfo
  have hx2' : Ext wb w2 := hx2
  have hz2s := hx2'.size
  go_wp2_with fail
  have hxa := Ext.alloc w2 (.cells #[.slice none 0 0, .slice FA ws.length fc, .int .i64 sh] 29)
  have hs0 : CpS w (w2.alloc (.cells #[.slice none 0 0, .slice FA ws.length fc, .int .i64 sh] 29)) (.slice none 0 0) [] (.slice FA ws.length fc) ws sh w.heap.size ra w2.heap.size #[.slice BA bs.length bc, .slice WA ws.length wc, .int .i64 sh] :=
    ⟨World.ownsRow_nil _ _ _ _, (fun k hk => absurd hk List.not_mem_nil), hxa.own (own_mono hfo hxb.size), hxa.blk (hx2'.blk hb1), hxa.blk (hx2'.blk hb2), ⟨FA, fc, rfl, Blk.new _ _ _⟩, hta, by omega, by omega, by omega, hxb.trans (hx2'.trans hxa)⟩
  generalize w2.alloc (.cells #[.slice none 0 0, .slice FA ws.length fc, .int .i64 sh] 29) = w3 at *
  generalize w2.heap.size = oa at *
  have HS0 := Lib.hid hs0
  clear hb1 hb2 hxb hx2 hx2' hfo hxa hs0 hlt1 hz2s hta HRA
  go_loopw [4] (fun i wr => ∃ (k : Nat) (v : Value) (cs : List Bk), k ≤ bs.length ∧ i = .int .i64 k ∧ cs.length = k ∧ cs.map Bk.is = (bs.take k).map Bk.is ∧ CpS w wr v cs (.slice FA ws.length fc) ws sh w.heap.size ra oa #[.slice BA bs.length bc, .slice WA ws.length wc, .int .i64 sh]) (fun i _ => bs.length - (intOf i).toNat)
  case atStart => exact ⟨0, .slice none 0 0, [], Nat.zero_le _, rfl, rfl, rfl, HS0.out⟩
  case round =>
    obtain ⟨k, v, cs, hk, rfl, hcl, hci, hs⟩ := hrel
    have HS := Lib.hid hs
    have HCI := Lib.hid hci
    obtain ⟨VA, vc, rfl⟩ := own_slice hs.row
    have t0 : wr.cell? ⟨w.heap.size, 0, none⟩ = some (.slice BA bs.length bc) := hs.ka.cell 0 rfl
    clear hs hci
    rw [hcl] at HS
    by_cases hlt : k < bs.length
    · obtain ⟨bb, bo, hBA, hbc, hbk⟩ := HT.out.bucket (i := k) hlt
      simp only at hBA hbc hbk
      subst hBA
      have HTI := Lib.hid (take_is bs hlt)
      replace hbc := HS.out.x.cell hbc
      generalize bs.getD k bk0 = bk at *
      have HBK := Lib.hid hbk
      have hkl := hbk.len
      obtain ⟨KA, kc, is⟩ := bk
      simp only [Bk.cell] at hbc
      simp only at hkl HTI
      clear hbk
      go_wp2_with (at_builtin; refine wpList_app_rd2 rfl _ _ 58 rfl w.heap.size 3 i0 (.int .i64 0) 8 Try.underlying58 hi0 hz0 hz1 hz2 rfl (.slice none 0 0) 0 [] rfl (World.ownsRow_nil _ _ _ _) KA kc (ints is) is.length rfl (ints_len is) (HS.out.x.rd HBK.out.rd) (ints_one is) ?c3 ?c4 ?c5 ?_)
      case c3 => unfold maxLen; omega
      case c4 => omega
      case c5 => exact HS.out.x.size
      intro v1 w1 o1 g1 o3
      obtain ⟨A1, c1, rfl⟩ := own_slice o1
      have g1' : wr.grownBy w1 none := g1
      have s1 := HS.out.ex (ext_none g1')
      have HS1 := Lib.hid s1
      have hrow := s1.row
      rw [hcl] at hrow
      have HROW := Lib.hid hrow
      clear hrow
      have HO1 := Lib.hid o1
      have HG1 := Lib.hid g1'
      obtain ⟨_, _, hW, hko⟩ := s1.ko
      simp only [Value.slice.injEq, true_and] at hW
      obtain ⟨rfl, rfl⟩ := hW
      have o0 : w1.cell? ⟨oa, 0, none⟩ = some (.slice VA k vc) := hko.cell 0 rfl
      clear s1 hko g1 g1' o1 o3 t0 hbc
      go_wp2_with (at_builtin; go_loud (refine wpList_app_rd2 rfl _ _ 24 rfl w.heap.size 58 i1 (.slice none 0 0) 24 Try.underlying24 hj0 hj1 hj2 hj3 rfl (.slice VA k vc) k (cs.map Bk.cell) rfl ((Ext.alloc _ _).own HROW.out) (some ⟨w1.heap.size, 0, none⟩) 1 [.slice A1 is.length c1] 1 rfl rfl (Blk.rd (Blk.new _ _ _)) (fun x hx => by rw [List.mem_singleton.1 hx]; rfl) ?d3 ?d4 ?d5 ?_))
      case d3 => unfold maxLen; omega
      case d4 => omega
      case d5 => exact Nat.le_trans HS1.out.x.size (Ext.alloc _ _).size
      intro v3 w3' p1 q1 q3
      obtain ⟨V3, c3, rfl⟩ := own_slice p1
      have hsn := CpS.snoc HS.out (⟨A1, c1, is⟩ : Bk) HO1.out HG1.out (Ext.alloc w1 _) (by rw [hcl]; exact p1) q1
      obtain ⟨f3, d3, sn⟩ := hsn
      have HSN := Lib.hid sn
      clear sn p1 q1 q3
      go_wp2
      go_roundw
      case rel => exact ⟨k + 1, _, cs ++ [⟨A1, c1, is⟩], by omega, by go_num, by simp [hcl], by rw [List.map_append, HCI.out, HTI.out]; rfl, HSN.out⟩
      case measure => simp [intOf]; omega
    · have hke : k = bs.length := by omega
      rw [hke, List.take_length] at HCI
      clear hke
      have hs := HS.out
      obtain ⟨_, _, hW, hko⟩ := hs.ko
      simp only [Value.slice.injEq, true_and] at hW
      obtain ⟨rfl, rfl⟩ := hW
      have o0 : wr.cell? ⟨oa, 0, none⟩ = some (.slice VA k vc) := hko.cell 0 rfl
      have o1 : wr.cell? ⟨oa, 1, none⟩ = some (.slice FA ws.length fc) := hko.cell 1 rfl
      have o2 : wr.cell? ⟨oa, 2, none⟩ = some (.int .i64 sh) := hko.cell 2 rfl
      have r0 : wr.cell? ⟨ra, 0, none⟩ = some (.slice none 0 0) := hs.kr.cell 0 rfl
      have r1 : wr.cell? ⟨ra, 1, none⟩ = some (.slice none 0 0) := hs.kr.cell 1 rfl
      have r2 : wr.cell? ⟨ra, 2, none⟩ = some (.int .i64 0) := hs.kr.cell 2 rfl
      have q0 := hs.kr.frozen 0
      have q1 := hs.kr.frozen 1
      have q2 := hs.kr.frozen 2
      have HW : Hid (CpP ⟨BA, bc, bs, WA, wc, ws, sh⟩ w (.returned (.agg #[.slice VA k vc, .slice FA ws.length fc, .int .i64 sh])) (((wr.setCell ⟨ra, 0, none⟩ (.slice VA k vc)).setCell ⟨ra, 1, none⟩ (.slice FA ws.length fc)).setCell ⟨ra, 2, none⟩ (.int .i64 sh))) := Lib.hid (by
        have far : ∀ {e : TypeId} {n : Nat} {v : Value} {xs : List Value}, wr.ownsRow w.heap.size e 1 v n xs → e ≠ 29 → (((wr.setCell ⟨ra, 0, none⟩ (.slice VA k vc)).setCell ⟨ra, 1, none⟩ (.slice FA ws.length fc)).setCell ⟨ra, 2, none⟩ (.int .i64 sh)).ownsRow w.heap.size e 1 v n xs := fun h hne =>
          own_farB (own_farB (own_farB h hs.kr hne _) (hs.kr.set 0 _) hne _) ((hs.kr.set 0 _).set 1 _) hne _
        refine ⟨⟨VA, vc, cs, FA, fc, ws, sh⟩, by simp only [Tb.vals, hcl], HCI.out.symm, rfl, rfl, ?_, ?_⟩
        · refine ⟨?_, ?_, by show cs.length * 24 ≤ _; omega, Rd.of_own (far hs.f (by decide)), HT.out.wfit, HT.out.wlen, HT.out.sfit⟩
          · have hrow := hs.row
            rw [hcl] at hrow
            exact Rd.of_own (far hrow (by decide))
          · intro q hq
            have hqi : q.is ∈ bs.map Bk.is := by rw [← HCI.out]; exact List.mem_map_of_mem hq
            obtain ⟨q2, hq2, hqe⟩ := List.mem_map.1 hqi
            have hin := HT.out.bin q2 hq2
            exact ⟨Rd.of_own (far (hs.each q hq) (by decide)), fun i hi => hin.fit i (by rw [hqe]; exact hi), by rw [← hqe]; exact hin.len⟩
        · exact Ext.of (((hs.x.below.setCell hs.hr _).setCell hs.hr _).setCell hs.hr _))
      clear hs hko
      go_wp2
      exact bodyPost_ret (v := .agg #[.slice VA k vc, .slice FA ws.length fc, .int .i64 sh]) (by simp [results, Try.results17, go_sem, r0, r1, r2]) rfl HW.out

end Go.Proofs.Ytejdknmlggdndaa
