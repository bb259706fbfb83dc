/- Plain facts of the sieve: what was put is held; the order does not matter. -/
import Derived.Test.YtcjmngonpijeiaaSieveP
namespace Go.Proofs.Ytcjmngonpijeiaa.Pl
set_option maxRecDepth 100000

/-- a filter holds a hash -/
def Cov (sh : Nat) (ws : List Nat) (h : Nat) : Prop := ws.getD (h / 64 % ws.length) 0 &&& mbits sh h = mbits sh h

theorem or_of_and {x m : Nat} (h : x &&& m = m) : x ||| m = x := by
  apply Nat.eq_of_testBit_eq
  intro i
  have := congrArg (fun y => Nat.testBit y i) h
  simp only [Nat.testBit_and] at this
  rw [Nat.testBit_or]
  cases hx : x.testBit i <;> cases hm : m.testBit i <;> simp_all

theorem and_or_left {x m k : Nat} (h : x &&& m = m) : (x ||| k) &&& m = m := by
  apply Nat.eq_of_testBit_eq
  intro i
  have := congrArg (fun y => Nat.testBit y i) h
  simp only [Nat.testBit_and] at this
  rw [Nat.testBit_and, Nat.testBit_or]
  cases hx : x.testBit i <;> cases hm : m.testBit i <;> simp_all

theorem or_and_self (x m : Nat) : (x ||| m) &&& m = m := by
  apply Nat.eq_of_testBit_eq
  intro i
  rw [Nat.testBit_and, Nat.testBit_or]
  cases hx : x.testBit i <;> cases hm : m.testBit i <;> rfl

theorem getD_set {l : List Nat} {i j x : Nat} (hi : i < l.length) : (l.set i x).getD j 0 = if j = i then x else l.getD j 0 := by
  rw [List.getD_eq_getElem?_getD, List.getElem?_set, List.getD_eq_getElem?_getD]
  by_cases h : i = j
  · subst h; simp [hi]
  · simp [h, Ne.symm h]

theorem Cov.self {sh h : Nat} {ws : List Nat} (hn : 0 < ws.length) : Cov sh (put1 sh ws h) h := by
  have hk : h / 64 % ws.length < ws.length := Nat.mod_lt _ hn
  unfold Cov
  rw [put1_length]
  unfold put1
  rw [getD_set hk, if_pos rfl]
  exact or_and_self _ _

theorem Cov.put {sh h h' : Nat} {ws : List Nat} (hn : 0 < ws.length) (hc : Cov sh ws h) : Cov sh (put1 sh ws h') h := by
  have hk : h' / 64 % ws.length < ws.length := Nat.mod_lt _ hn
  unfold Cov at hc ⊢
  rw [put1_length]
  unfold put1
  rw [getD_set hk]
  split
  · rename_i he
    rw [← he]
    exact and_or_left hc
  · exact hc

theorem Cov.all {sh h : Nat} (hs : List Nat) : ∀ {ws : List Nat}, 0 < ws.length → Cov sh ws h → Cov sh (putAll sh ws hs) h := by
  unfold putAll
  induction hs with
  | nil => intro ws _ hc; exact hc
  | cons a hs ih =>
    intro ws hn hc
    rw [List.foldl_cons]
    exact ih (by rw [put1_length]; exact hn) (hc.put hn)

theorem Cov.mem {sh h : Nat} (hs : List Nat) : ∀ {ws : List Nat}, 0 < ws.length → h ∈ hs → Cov sh (putAll sh ws hs) h := by
  unfold putAll
  induction hs with
  | nil => intro ws _ hm; cases hm
  | cons a hs ih =>
    intro ws hn hm
    rw [List.foldl_cons]
    rcases List.mem_cons.1 hm with rfl | hm
    · exact Cov.all hs (by rw [put1_length]; exact hn) (Cov.self hn)
    · exact ih (by rw [put1_length]; exact hn) hm

theorem Cov.lacks {sh h : Nat} {ws : List Nat} (hc : Cov sh ws h) : lacksB sh ws h = false := by
  unfold Cov at hc
  unfold lacksB
  rw [hc]
  simp

theorem Cov.put_same {sh h : Nat} {ws : List Nat} (hn : 0 < ws.length) (hc : Cov sh ws h) : put1 sh ws h = ws := by
  have hk : h / 64 % ws.length < ws.length := Nat.mod_lt _ hn
  unfold Cov at hc
  unfold put1
  rw [or_of_and hc, List.getD_eq_getElem?_getD, List.getElem?_eq_getElem hk]
  simp

theorem put1_at (sh : Nat) (ws : List Nat) (h : Nat) {n : Nat} (hn : ws.length = n) : put1 sh ws h = ws.set (h / 64 % n) (ws.getD (h / 64 % n) 0 ||| mbits sh h) := by
  subst hn; rfl

theorem put1_comm (sh a b : Nat) (ws : List Nat) : put1 sh (put1 sh ws a) b = put1 sh (put1 sh ws b) a := by
  rcases Nat.eq_zero_or_pos ws.length with h0 | hn
  · have : ws = [] := List.eq_nil_of_length_eq_zero h0
    subst this
    simp [put1]
  · have ha : a / 64 % ws.length < ws.length := Nat.mod_lt _ hn
    have hb : b / 64 % ws.length < ws.length := Nat.mod_lt _ hn
    have e1 := put1_at sh (put1 sh ws a) b (put1_length sh ws a)
    have e2 := put1_at sh (put1 sh ws b) a (put1_length sh ws b)
    rw [e1, e2]
    unfold put1
    rw [getD_set ha, getD_set hb]
    by_cases hab : b / 64 % ws.length = a / 64 % ws.length
    · rw [hab, if_pos rfl, if_pos rfl, List.set_set, List.set_set, Nat.or_assoc, Nat.or_assoc, Nat.or_comm (mbits sh a)]
    · rw [if_neg hab, if_neg (Ne.symm hab), List.set_comm _ _ (Ne.symm hab)]

theorem put1_putAll (sh a : Nat) (hs : List Nat) : ∀ ws : List Nat, putAll sh (put1 sh ws a) hs = put1 sh (putAll sh ws hs) a := by
  unfold putAll
  induction hs with
  | nil => intro ws; rfl
  | cons b hs ih =>
    intro ws
    rw [List.foldl_cons, List.foldl_cons, put1_comm, ih]

theorem putAll_comm (sh : Nat) (a : List Nat) : ∀ (b : List Nat) (ws : List Nat), putAll sh (putAll sh ws a) b = putAll sh (putAll sh ws b) a := by
  induction a with
  | nil => intro b ws; rfl
  | cons x a ih =>
    intro b ws
    show putAll sh (putAll sh (put1 sh ws x) a) b = putAll sh (put1 sh (putAll sh ws b) x) a
    rw [ih, put1_putAll]

end Go.Proofs.Ytcjmngonpijeiaa.Pl
