/- table.Right: whether a table is right. -/
import Derived.Test.YtejdknmlggdndaaFind
import Derived.Test.YtejdknmlggdndaaMk2
import Derived.Test.YtejdknmlggdndaaExtR
namespace Go.Proofs.Ytejdknmlggdndaa
open Go.RowKit Pl
set_option linter.unusedVariables false

/-- may a place stand in a bucket, behind another one -/
def okI (n : Nat) (ws : List Nat) (sh : Int) (l : List Sym) (b : Nat) (last i : Int) : Bool :=
  decide (last < i) && decide (i < l.length) && seenB (l.getD i.toNat sym0) && decide (hashN (l.getD i.toNat sym0).name % n = b) && !lackT ws sh (hashN (l.getD i.toNat sym0).name)
def chainB (n : Nat) (ws : List Nat) (sh : Int) (l : List Sym) (b : Nat) : Int → List Int → Bool
  | _, [] => true
  | last, i :: r => okI n ws sh l b last i && chainB n ws sh l b i r
def allB (n : Nat) (ws : List Nat) (sh : Int) (l : List Sym) : Nat → List Bk → Bool
  | _, [] => true
  | b, k :: r => chainB n ws sh l b (-1) k.is && allB n ws sh l (b + 1) r
def total (bs : List Bk) : Nat := (bs.map fun k => k.is.length).sum
/-- is a table right for symbols -/
def rightT (t : Tb) (l : List Sym) : Bool :=
  decide (l.length ≤ 512) && decide (1 ≤ t.bs.length) && decide (t.bs.length ≤ 512) && rightB t.ws.length t.sh && allB t.bs.length t.ws t.sh l 0 t.bs && decide (total t.bs = (seenI l).length)

theorem total_take (bs : List Bk) {b : Nat} (h : b < bs.length) : total (bs.take (b + 1)) = total (bs.take b) + (bs.getD b bk0).is.length := by
  unfold total
  rw [List.take_succ_eq_append_getElem h, List.map_append, List.sum_append, List.getD_eq_getElem?_getD, List.getElem?_eq_getElem h]
  simp
theorem total_le (bs : List Bk) (h : ∀ k ∈ bs, k.is.length ≤ 17592186044416) (b : Nat) : total (bs.take b) ≤ b * 17592186044416 := by
  induction b with
  | zero => simp [total]
  | succ b ih =>
    rcases Nat.lt_or_ge b bs.length with hb | hb
    · rw [total_take bs hb, Nat.succ_mul]
      have e : bs.getD b bk0 = bs[b] := by rw [List.getD_eq_getElem?_getD, List.getElem?_eq_getElem hb]; rfl
      have := h _ (List.getElem_mem hb)
      rw [← e] at this
      exact Nat.add_le_add ih this
    · rw [List.take_of_length_le (by omega)]
      rw [List.take_of_length_le hb] at ih
      exact Nat.le_trans ih (Nat.mul_le_mul_right _ (Nat.le_succ b))

theorem dropB (bs : List Bk) {b : Nat} (h : b < bs.length) : bs.drop b = bs.getD b bk0 :: bs.drop (b + 1) := by
  rw [List.getD_eq_getElem?_getD, List.getElem?_eq_getElem h]
  exact List.drop_eq_getElem_cons h

theorem chain_step (n : Nat) (ws : List Nat) (sh : Int) (l : List Sym) (b : Nat) (la x : Int) (is : List Int) (k : Nat) (q : Bool) (h : q = chainB n ws sh l b la (is.drop k)) (hd : is.drop k = x :: is.drop (k + 1)) :
    (okI n ws sh l b la x = false → q = false) ∧ (okI n ws sh l b la x = true → q = chainB n ws sh l b x (is.drop (k + 1))) := by
  rw [h, hd]
  constructor
  · intro e; simp only [chainB]; rw [e]; rfl
  · intro e; simp only [chainB]; rw [e]; rfl

/-- what a region keeps: a table's three cells, a symbol's nine, and all that was there -/
theorem twelve_next {W0 w w' : World} {a b o : Nat} {u0 u1 u2 : Value} {s : Sym} (h : Hid (Ext W0 w) ∧ w.cell? ⟨a, 0, none⟩ = some u0 ∧ w.cell? ⟨a, 1, none⟩ = some u1 ∧ w.cell? ⟨a, 2, none⟩ = some u2 ∧
      w.cell? ⟨b, o, none⟩ = some (.string s.name) ∧ w.cell? ⟨b, o + 1, none⟩ = some (.string s.ver) ∧ w.cell? ⟨b, o + 2, none⟩ = some (.bool s.old) ∧ w.cell? ⟨b, o + 3, none⟩ = some (.int .i64 s.kind) ∧
      w.cell? ⟨b, o + 4, none⟩ = some (.bool s.weak) ∧ w.cell? ⟨b, o + 5, none⟩ = some (.int .i64 s.vis) ∧ w.cell? ⟨b, o + 6, none⟩ = some (.bool s.defd) ∧ w.cell? ⟨b, o + 7, none⟩ = some (.int .i64 s.val) ∧ w.cell? ⟨b, o + 8, none⟩ = some (.int .i64 s.size)) (hb : Ext w w') :
    Hid (Ext W0 w') ∧ w'.cell? ⟨a, 0, none⟩ = some u0 ∧ w'.cell? ⟨a, 1, none⟩ = some u1 ∧ w'.cell? ⟨a, 2, none⟩ = some u2 ∧
      w'.cell? ⟨b, o, none⟩ = some (.string s.name) ∧ w'.cell? ⟨b, o + 1, none⟩ = some (.string s.ver) ∧ w'.cell? ⟨b, o + 2, none⟩ = some (.bool s.old) ∧ w'.cell? ⟨b, o + 3, none⟩ = some (.int .i64 s.kind) ∧
      w'.cell? ⟨b, o + 4, none⟩ = some (.bool s.weak) ∧ w'.cell? ⟨b, o + 5, none⟩ = some (.int .i64 s.vis) ∧ w'.cell? ⟨b, o + 6, none⟩ = some (.bool s.defd) ∧ w'.cell? ⟨b, o + 7, none⟩ = some (.int .i64 s.val) ∧ w'.cell? ⟨b, o + 8, none⟩ = some (.int .i64 s.size) := by
  obtain ⟨h0, h1, h2, h3, h4, h5, h6, h7, h8, h9, h10, h11, h12⟩ := h
  exact ⟨Lib.hid (h0.out.trans hb), hb.cell h1, hb.cell h2, hb.cell h3, hb.cell h4, hb.cell h5, hb.cell h6, hb.cell h7, hb.cell h8, hb.cell h9, hb.cell h10, hb.cell h11, hb.cell h12⟩

/-- Right's answer -/
def RtP (t : Tb) (l : List Sym) (w : World) (e : Ending) (w' : World) : Prop := e = .returned (.int .i64 (if rightT t l then 0 else 80)) ∧ Ext w w'

theorem RtP.no {t : Tb} {l : List Sym} {w w' : World} (h : rightT t l = false) (hx : Ext w w') : RtP t l w (.returned (.int .i64 80)) w' := ⟨by rw [h]; rfl, hx⟩

set_option maxRecDepth 100000 in
set_option maxHeartbeats 6400000 in
theorem right_any (t : Tb) (A : Option Addr) (c : Nat) (l : List Sym) (w : World) (ht : t.In w) (hA : RdY w A l) (hf : ∀ s ∈ l, s.Fit) (hl : l.length ≤ 140737488351232) :
    Calls Try.prog 16 #[.agg t.vals.toArray, .slice A l.length c] w (RtP t l w) := by
  have HT := Lib.hid ht
  have HA := Lib.hid hA
  have HF := Lib.hid hf
  have hbl24 := ht.blen
  have hwl8 := ht.wlen
  obtain ⟨BA, bc, bs, WA, wc, ws, sh⟩ := t
  simp only at hbl24 hwl8
  simp only [Tb.vals]
  have HR : Hid (rightT ⟨BA, bc, bs, WA, wc, ws, sh⟩ l = (decide (l.length ≤ 512) && decide (1 ≤ bs.length) && decide (bs.length ≤ 512) && rightB ws.length sh && allB bs.length ws sh l 0 bs && decide (total bs = (seenI l).length))) := Lib.hid rfl
  clear ht hA hf
  go_enter Try.func16, Try.ntmps16
  by_cases h512 : 512 < l.length
  · have HN : Hid (rightT ⟨BA, bc, bs, WA, wc, ws, sh⟩ l = false) := Lib.hid (by rw [HR.out, decide_eq_false (by omega : ¬ l.length ≤ 512)]; simp)
    go_wp2
    go_ret
    exact RtP.no HN.out (Ext.alloc _ _)
  by_cases hb1 : bs.length < 1
  · have HN : Hid (rightT ⟨BA, bc, bs, WA, wc, ws, sh⟩ l = false) := Lib.hid (by rw [HR.out, decide_eq_false (by omega : ¬ 1 ≤ bs.length)]; simp)
    go_wp2
    go_ret
    exact RtP.no HN.out (Ext.alloc _ _)
  by_cases hb5 : 512 < bs.length
  · have HN : Hid (rightT ⟨BA, bc, bs, WA, wc, ws, sh⟩ l = false) := Lib.hid (by rw [HR.out, decide_eq_false (by omega : ¬ bs.length ≤ 512)]; simp)
    go_wp2
    go_ret
    exact RtP.no HN.out (Ext.alloc _ _)
  have hb2 : bs.length ≤ 512 := by omega
  go_wp2_with fail
  have hbx : Blk (w.alloc (.cells #[.slice BA bs.length bc, .slice WA ws.length wc, .int .i64 sh] 29)) w.heap.size 29 #[.slice BA bs.length bc, .slice WA ws.length wc, .int .i64 sh] := Blk.new _ _ _
  have hxb := Ext.alloc w (.cells #[.slice BA bs.length bc, .slice WA ws.length wc, .int .i64 sh] 29)
  generalize w.alloc (.cells #[.slice BA bs.length bc, .slice WA ws.length wc, .int .i64 sh] 29) = wb at *
  generalize w.heap.size = tb at *
  cases hrt : rightB ws.length sh
  · have HN : Hid (rightT ⟨BA, bc, bs, WA, wc, ws, sh⟩ l = false) := Lib.hid (by rw [HR.out, hrt]; simp)
    refine (right_no WA ws.length wc sh wb (by unfold maxLen; omega) hrt).mono ?_
    rintro e w2 ⟨rfl, hx2⟩
    have HX2 := Lib.hid (hxb.trans (show Ext wb w2 from hx2))
    clear hbx hxb hx2
    go_wp2
    go_ret
    exact RtP.no HN.out HX2.out
  · refine (right_yes WA ws.length wc sh wb hrt).mono ?_
    rintro e w2 ⟨rfl, hx2⟩
    have hx2' : Ext wb w2 := hx2
    have hbk2 := hx2'.blk hbx
    have HB2 := Lib.hid hbk2
    have HX2 := Lib.hid (hxb.trans hx2')
    have HRT := Lib.hid hrt
    have t0 : w2.cell? ⟨tb, 0, none⟩ = some (.slice BA bs.length bc) := hbk2.cell 0 rfl
    have htl := total_le bs (fun k hk => by have := (HT.out.bin k hk).len; omega)
    have HTL := Lib.hid htl
    clear hbx hxb hx2 hx2' hbk2 hrt htl
    go_wp2_with fail
    go_loopw [5, 37] (fun n i wr => ∃ b : Nat, b ≤ bs.length ∧ i = .int .i64 b ∧ n = .int .i64 (total (bs.take b) : Nat) ∧ allB bs.length ws sh l 0 bs = allB bs.length ws sh l b (bs.drop b) ∧ Ext w2 wr) (fun _ i _ => bs.length - (intOf i).toNat)
    case atStart => exact ⟨0, Nat.zero_le _, rfl, rfl, rfl, Ext.refl _⟩
    case round =>
      obtain ⟨b, hb, rfl, rfl, hall, hx⟩ := hrel
      have HALL := Lib.hid hall
      have HX := Lib.hid hx
      have htb := HTL.out b
      clear hall hx
      obtain ⟨wo, rfl⟩ : ∃ wo, wo = wr := ⟨wr, rfl⟩
      by_cases hlt : b < bs.length
      · obtain ⟨bb, bo, hBA, hbc, hbk⟩ := HT.out.bucket (i := b) hlt
        simp only at hBA hbc hbk
        subst hBA
        replace hbc := (HX2.out.trans HX.out).cell hbc
        have HDB := Lib.hid (dropB bs hlt)
        have HTT := Lib.hid (total_take bs hlt)
        have hkl := hbk.len
        generalize bs.getD b bk0 = bk at *
        generalize total (bs.take b) = tn at *
        have HBK := Lib.hid hbk
        obtain ⟨KA, kc, is⟩ := bk
        simp only [Bk.cell] at hbc
        simp only at hkl HDB
        clear hbk
        go_wp2_with fail
        go_loopw [5, 8, 44] (fun n last i wr => ∃ (k : Nat) (la : Int), k ≤ is.length ∧ i = .int .i64 k ∧ n = .int .i64 (tn + k : Nat) ∧ last = .int .i64 la ∧ -1 ≤ la ∧ la ≤ 9223372036854775807 ∧ chainB bs.length ws sh l b (-1) is = chainB bs.length ws sh l b la (is.drop k) ∧ Ext wo wr) (fun _ _ i _ => is.length - (intOf i).toNat)
        case atStart => exact ⟨0, -1, Nat.zero_le _, rfl, rfl, rfl, by omega, by omega, rfl, Ext.refl _⟩
        case round =>
          obtain ⟨k, la, hk, rfl, rfl, rfl, hla1, hla2, hch, hx⟩ := hrel
          have HCH := Lib.hid hch
          have HXI := Lib.hid hx
          clear hch hx
          have HX0 : Hid (Ext w wr) := Lib.hid (HX2.out.trans (HX.out.trans HXI.out))
          by_cases hkl2 : k < is.length
          · obtain ⟨ib, io, hKA, hib, hic⟩ := HBK.out.rd.int hkl2
            simp only at hKA
            subst hKA
            replace hic := HX0.out.cell hic
            have hfit := HBK.out.fit _ (getD_mem (d := 0) hkl2)
            obtain ⟨q1, q2⟩ := chain_step bs.length ws sh l b la (is.getD k 0) is k _ HCH.out (dropI is hkl2)
            generalize is.getD k 0 = x at *
            have HFAIL : Hid (okI bs.length ws sh l b la x = false → rightT ⟨some ⟨bb, bo, none⟩, bc, bs, WA, wc, ws, sh⟩ l = false) := Lib.hid (fun h => by
              rw [HR.out, HALL.out, HDB.out]
              simp only [allB]
              rw [q1 h]
              simp)
            have HOK := Lib.hid q2
            clear q1 q2
            have ht3 := (HX.out.trans HXI.out).blk HB2.out
            have s0 : wr.cell? ⟨tb, 0, none⟩ = some (.slice (some ⟨bb, bo, none⟩) bs.length bc) := ht3.cell 0 rfl
            have s1 : wr.cell? ⟨tb, 1, none⟩ = some (.slice WA ws.length wc) := ht3.cell 1 rfl
            have s2 : wr.cell? ⟨tb, 2, none⟩ = some (.int .i64 sh) := ht3.cell 2 rfl
            clear ht3
            by_cases hle : x ≤ la
            · have HN : Hid (rightT ⟨some ⟨bb, bo, none⟩, bc, bs, WA, wc, ws, sh⟩ l = false) := Lib.hid (HFAIL.out (by unfold okI; rw [decide_eq_false (by omega : ¬ la < x)]; simp))
              have hd1 : decide (x ≤ la) = true := decide_eq_true hle
              clear s0 s1 s2
              go_wp2_with fail
              go_quiet (fail)
              go_wp2
              go_ret
              exact RtP.no HN.out (HX0.out.trans (Ext.drewN _ _))
            by_cases hge : (l.length : Int) ≤ x
            · have HN : Hid (rightT ⟨some ⟨bb, bo, none⟩, bc, bs, WA, wc, ws, sh⟩ l = false) := Lib.hid (HFAIL.out (by unfold okI; rw [decide_eq_false (by omega : ¬ x < (l.length : Int))]; simp))
              have hd1 : decide (x ≤ la) = false := decide_eq_false hle
              have hd2 : decide ((l.length : Int) ≤ x) = true := decide_eq_true hge
              clear s0 s1 s2
              go_wp2_with fail
              go_quiet (fail)
              go_wp2
              go_ret
              exact RtP.no HN.out (HX0.out.trans (Ext.drewN _ _))
            · obtain ⟨j, rfl⟩ := Int.eq_ofNat_of_zero_le (by omega : 0 ≤ x)
              have hjl : j < l.length := by omega
              have hd1 : decide ((j : Int) ≤ la) = false := decide_eq_false hle
              have hd2 : decide (l.length ≤ j) = false := decide_eq_false (by omega)
              obtain ⟨yb, yo, rfl, hyb, hy⟩ := HA.out.nine hjl
              have hgd : l.getD j sym0 = l[j] := by rw [List.getD_eq_getElem?_getD, List.getElem?_eq_getElem hjl]; rfl
              have hft := HF.out _ (List.getElem_mem hjl)
              have hoki : okI bs.length ws sh l b la j = (seenB l[j] && decide (hashN l[j].name % bs.length = b) && !lackT ws sh (hashN l[j].name)) := by
                unfold okI
                rw [Int.toNat_natCast, hgd, decide_eq_true (by omega : la < (j : Int)), decide_eq_true (by omega : (j : Int) < (l.length : Int))]
                simp
              clear hgd
              generalize l[j] = d at *
              have HS := Lib.hid (seen_any d)
              have hns : d.name.size ≤ maxLen := by have := hft.name; unfold maxLen; omega
              have hhl := hash_lt d.name
              obtain ⟨h0, h1, h2, h3, h4, h5, h6, h7, h8⟩ := hy.ext HX0.out
              obtain ⟨name, ver, old, kind, weak, vis, defd, val, size⟩ := d
              simp only at h0 h1 h2 h3 h4 h5 h6 h7 h8 hns hhl hoki
              simp only [Sym.vals] at HS
              have e0 : ∀ u : EW wr, u.w.cell? ⟨tb, 0, none⟩ = some (.slice (some ⟨bb, bo, none⟩) bs.length bc) := fun u => u.cell s0
              have e1 : ∀ u : EW wr, u.w.cell? ⟨tb, 1, none⟩ = some (.slice WA ws.length wc) := fun u => u.cell s1
              have e2 : ∀ u : EW wr, u.w.cell? ⟨tb, 2, none⟩ = some (.int .i64 sh) := fun u => u.cell s2
              have g0 : ∀ u : EW wr, u.w.cell? ⟨yb, yo + j * 9, none⟩ = some (.string name) := fun u => u.cell h0
              have g1 : ∀ u : EW wr, u.w.cell? ⟨yb, yo + j * 9 + 1, none⟩ = some (.string ver) := fun u => u.cell h1
              have g2 : ∀ u : EW wr, u.w.cell? ⟨yb, yo + j * 9 + 2, none⟩ = some (.bool old) := fun u => u.cell h2
              have g3 : ∀ u : EW wr, u.w.cell? ⟨yb, yo + j * 9 + 3, none⟩ = some (.int .i64 kind) := fun u => u.cell h3
              have g4 : ∀ u : EW wr, u.w.cell? ⟨yb, yo + j * 9 + 4, none⟩ = some (.bool weak) := fun u => u.cell h4
              have g5 : ∀ u : EW wr, u.w.cell? ⟨yb, yo + j * 9 + 5, none⟩ = some (.int .i64 vis) := fun u => u.cell h5
              have g6 : ∀ u : EW wr, u.w.cell? ⟨yb, yo + j * 9 + 6, none⟩ = some (.bool defd) := fun u => u.cell h6
              have g7 : ∀ u : EW wr, u.w.cell? ⟨yb, yo + j * 9 + 7, none⟩ = some (.int .i64 val) := fun u => u.cell h7
              have g8 : ∀ u : EW wr, u.w.cell? ⟨yb, yo + j * 9 + 8, none⟩ = some (.int .i64 size) := fun u => u.cell h8
              have HBU : Hid (∀ w', Calls Try.prog 32 #[.agg #[.slice (some ⟨bb, bo, none⟩) bs.length bc, .slice WA ws.length wc, .int .i64 sh], .string name] w' fun e w2 => e = .returned (.int .i64 (hashN name % bs.length : Nat)) ∧ Ext w' w2) :=
                Lib.hid (fun w' => bucket_any _ bs.length bc _ _ name w' (by omega) (by omega) hns)
              have HHC : Hid (∀ w', Calls Try.prog 41 #[.string name] w' fun e w2 => e = .returned (.int .u32 (hashN name : Nat)) ∧ w' = w2) := Lib.hid (fun w' => (hash_any name w' hns).mono fun e w2 h => ⟨by rw [hhl.1]; exact h.1, h.2⟩)
              have HLK : Hid (∀ w', Ext wr w' → Calls Try.prog 40 #[.agg #[.slice WA ws.length wc, .int .i64 sh], .int .u32 (hashN name : Nat)] w' fun e w2 => e = .returned (.bool (lackT ws sh (hashN name))) ∧ Ext w' w2) :=
                Lib.hid (fun w' hx => lacks_any WA wc sh ws (hashN name) w' hhl.2 HT.out.wfit HT.out.wlen ((HX0.out.trans hx).rd HT.out.wrd))
              clear hy hft s0 s1 s2 h0 h1 h2 h3 h4 h5 h6 h7 h8 hhl
              cases hsb : seenB ⟨name, ver, old, kind, weak, vis, defd, val, size⟩
              · rw [hsb] at HS
                have HN : Hid (rightT ⟨some ⟨bb, bo, none⟩, bc, bs, WA, wc, ws, sh⟩ l = false) := Lib.hid (HFAIL.out (by rw [hoki, hsb]; simp))
                clear hsb hoki
                go_wp2_with fail
                refine wp_region_ext (by kernel_rfl) (by kernel_rfl) ?_
                repeat (go_big_quiet_step ((first | (go_at_call 39; exact ext_call (HS.out _)) | (go_at_call 32; exact ext_call (HBU.out _)) | (go_at_call 41; exact ext_same (HHC.out _)) | (go_at_call 40; exact ext_call (HLK.out _ (EW.ext _))))))
                refine wpQuiet_nil ?_
                rintro w9 ⟨u9, rfl⟩
                go_wp2
                go_ret
                exact RtP.no HN.out (HX0.out.trans u9.ext)
              rw [hsb] at HS
              generalize hqd : hashN name % bs.length = q at *
              by_cases hbk : q = b
              · subst hbk
                cases hlk : lackT ws sh (hashN name)
                · rw [hlk] at HLK
                  have HO2 := Lib.hid (HOK.out (by rw [hoki, hsb, hlk]; simp))
                  clear hsb hlk hoki hqd
                  go_wp2_with fail
                  refine wp_region_ext (by kernel_rfl) (by kernel_rfl) ?_
                  repeat (go_big_quiet_step ((first | (go_at_call 39; exact ext_call (HS.out _)) | (go_at_call 32; exact ext_call (HBU.out _)) | (go_at_call 41; exact ext_same (HHC.out _)) | (go_at_call 40; exact ext_call (HLK.out _ (EW.ext _))))))
                  refine wpQuiet_nil ?_
                  rintro w9 ⟨u9, rfl⟩
                  go_wp2_with fail
                  go_roundw
                  case rel => exact ⟨k + 1, j, by omega, by go_num, by go_num, rfl, by omega, by omega, HO2.out, HXI.out.trans u9.ext⟩
                  case measure => simp [intOf]; omega
                · rw [hlk] at HLK
                  have HN : Hid (rightT ⟨some ⟨bb, bo, none⟩, bc, bs, WA, wc, ws, sh⟩ l = false) := Lib.hid (HFAIL.out (by rw [hoki, hlk]; simp))
                  clear hsb hlk hoki hqd
                  go_wp2_with fail
                  refine wp_region_ext (by kernel_rfl) (by kernel_rfl) ?_
                  repeat (go_big_quiet_step ((first | (go_at_call 39; exact ext_call (HS.out _)) | (go_at_call 32; exact ext_call (HBU.out _)) | (go_at_call 41; exact ext_same (HHC.out _)) | (go_at_call 40; exact ext_call (HLK.out _ (EW.ext _))))))
                  refine wpQuiet_nil ?_
                  rintro w9 ⟨u9, rfl⟩
                  go_wp2
                  go_ret
                  exact RtP.no HN.out (HX0.out.trans u9.ext)
              · have HN : Hid (rightT ⟨some ⟨bb, bo, none⟩, bc, bs, WA, wc, ws, sh⟩ l = false) := Lib.hid (HFAIL.out (by rw [hoki, decide_eq_false hbk]; simp))
                have hbk2 : ((q : Int) != (b : Int)) = true := bne_iff_ne.mpr (by omega)
                clear hsb hoki hqd
                go_wp2_with fail
                refine wp_region_ext (by kernel_rfl) (by kernel_rfl) ?_
                repeat (go_big_quiet_step ((first | (go_at_call 39; exact ext_call (HS.out _)) | (go_at_call 32; exact ext_call (HBU.out _)) | (go_at_call 41; exact ext_same (HHC.out _)) | (go_at_call 40; exact ext_call (HLK.out _ (EW.ext _))))))
                refine wpQuiet_nil ?_
                rintro w9 ⟨u9, rfl⟩
                go_wp2
                go_ret
                exact RtP.no HN.out (HX0.out.trans u9.ext)
          · have hke : k = is.length := by omega
            subst hke
            go_wp2_with fail
            go_roundw
            case rel => exact ⟨b + 1, by omega, by go_num, by rw [HTT.out], by
              rw [HALL.out, HDB.out]
              simp only [allB]
              rw [HCH.out, List.drop_length]
              rfl, HX.out.trans HXI.out⟩
            case measure => simp [intOf]; omega
      · have hbe : b = bs.length := by omega
        subst hbe
        have HTA : Hid (total (bs.take bs.length) = total bs) := Lib.hid (by rw [List.take_length])
        have hAL : allB bs.length ws sh l 0 bs = true := by rw [HALL.out, List.drop_length]; rfl
        have HRE : Hid (rightT ⟨BA, bc, bs, WA, wc, ws, sh⟩ l = decide (total bs = (seenI l).length)) := Lib.hid (by
          rw [HR.out, hAL, HRT.out, decide_eq_true (by omega : l.length ≤ 512), decide_eq_true (by omega : 1 ≤ bs.length), decide_eq_true hb2]
          simp)
        rw [HTA.out] at *
        clear hAL
        generalize total bs = tn at *
        go_wp2_with fail
        refine (hashes_any A c l wo ((HX2.out.trans HX.out).rdy HA.out) HF.out (by omega)).mono ?_
        rintro e w3 ⟨IA, ic, HAA, hc, rfl, hst⟩
        have HX3 := Lib.hid (HX2.out.trans (HX.out.trans hst.x))
        clear hst
        by_cases heq : tn = (seenI l).length
        · have HY : Hid (rightT ⟨BA, bc, bs, WA, wc, ws, sh⟩ l = true) := Lib.hid (by rw [HRE.out, decide_eq_true heq])
          have hbk2 : ((tn : Int) != ((seenI l).length : Int)) = false := by rw [heq]; simp
          clear heq
          go_wp2
          go_ret
          exact ⟨by rw [HY.out]; rfl, HX3.out⟩
        · have HN : Hid (rightT ⟨BA, bc, bs, WA, wc, ws, sh⟩ l = false) := Lib.hid (by rw [HRE.out, decide_eq_false heq])
          have hbk2 : ((tn : Int) != ((seenI l).length : Int)) = true := bne_iff_ne.mpr (by omega)
          go_wp2
          go_ret
          exact RtP.no HN.out HX3.out

end Go.Proofs.Ytejdknmlggdndaa
