/-
  Plain facts on stems: vowels, measure, endings; no program in sight.
-/
import Derived.PlainAid
namespace Go.Proofs.YtmoahflgcojfcaaDoor.StemPlain
open Go.PlainAid

/-- a, e, i, o or u. -/
def av (x : Int) : Bool := x == 97 || x == 101 || x == 105 || x == 111 || x == 117

/-- Is the letter at place i a vowel? -/
def vow (s : ByteArray) : Nat → Bool
  | 0 => av (bt s 0)
  | i + 1 => av (bt s (i + 1)) || (bt s (i + 1) == 121 && !vow s i)

/-- How many of the places 1 .. k are consonants right behind a vowel. -/
def msTo (s : ByteArray) : Nat → Nat
  | 0 => 0
  | k + 1 => msTo s k + (if vow s k && !vow s (k + 1) then 1 else 0)
def meas (s : ByteArray) : Nat := msTo s (s.size - 1)

def hasTo (s : ByteArray) : Nat → Bool
  | 0 => false
  | k + 1 => hasTo s k || vow s k
def hasV (s : ByteArray) : Bool := hasTo s s.size

def dbl (s : ByteArray) : Bool := decide (2 ≤ s.size) && (bt s (s.size - 1) == bt s (s.size - 2) && !vow s (s.size - 1))

def wxy (x : Int) : Bool := x == 119 || x == 120 || x == 121
def lsz (x : Int) : Bool := x == 108 || x == 115 || x == 122

def shrt (s : ByteArray) : Bool :=
  decide (3 ≤ s.size) && !wxy (bt s (s.size - 1)) && (!vow s (s.size - 3) && vow s (s.size - 2) && !vow s (s.size - 1))

/-- Does s end with e? -/
def sfx (s e : ByteArray) : Bool := decide (e.size ≤ s.size) && (s.extract (s.size - e.size) s.size).data.toList == e.data.toList

/-- Which pair's ending is the longest that s has, of the first k. -/
def bst (s : ByteArray) (L : List (ByteArray × ByteArray)) : Nat → Option Nat
  | 0 => none
  | k + 1 =>
    match L[k]? with
    | none => bst s L k
    | some p =>
      if sfx s p.1 then
        match bst s L k with
        | none => some k
        | some j => match L[j]? with
          | none => some j
          | some q => if q.1.size < p.1.size then some k else some j
      else bst s L k

theorem bst_lt (s : ByteArray) (L : List (ByteArray × ByteArray)) : ∀ (k j : Nat), bst s L k = some j → j < k ∧ ∃ p, L[j]? = some p ∧ sfx s p.1 = true := by
  intro k
  induction k with
  | zero => intro j h; simp [bst] at h
  | succ k ih =>
    intro j h
    unfold bst at h
    cases hk : L[k]? with
    | none => rw [hk] at h; simp only at h; have := ih j h; exact ⟨by omega, this.2⟩
    | some p =>
      rw [hk] at h
      simp only at h
      by_cases hs : sfx s p.1 = true
      · rw [if_pos hs] at h
        cases hb : bst s L k with
        | none => rw [hb] at h; simp at h; subst h; exact ⟨by omega, p, hk, hs⟩
        | some j' =>
          rw [hb] at h
          simp only at h
          have h' := ih j' hb
          cases hj : L[j']? with
          | none => rw [hj] at h; simp at h; subst h; exact ⟨by omega, h'.2⟩
          | some q =>
            rw [hj] at h
            simp only at h
            by_cases hq : q.1.size < p.1.size
            · rw [if_pos hq] at h; simp at h; subst h; exact ⟨by omega, p, hk, hs⟩
            · rw [if_neg hq] at h; simp at h; subst h; exact ⟨by omega, h'.2⟩
      · rw [if_neg hs] at h
        have := ih j h
        exact ⟨by omega, this.2⟩

theorem bst_no {s : ByteArray} {L : List (ByteArray × ByteArray)} {k : Nat} {p} (h : L[k]? = some p) (hs : sfx s p.1 = false) : bst s L (k + 1) = bst s L k := by
  conv => lhs; unfold bst
  rw [h]
  simp [hs]
theorem bst_new {s : ByteArray} {L : List (ByteArray × ByteArray)} {k : Nat} {p} (h : L[k]? = some p) (hs : sfx s p.1 = true) (hb : bst s L k = none) : bst s L (k + 1) = some k := by
  conv => lhs; unfold bst
  rw [h]
  simp [hs, hb]
theorem bst_up {s : ByteArray} {L : List (ByteArray × ByteArray)} {k j : Nat} {p q} (h : L[k]? = some p) (hs : sfx s p.1 = true) (hb : bst s L k = some j) (hj : L[j]? = some q) (hl : q.1.size < p.1.size) : bst s L (k + 1) = some k := by
  conv => lhs; unfold bst
  rw [h]
  simp [hs, hb, hj, hl]
theorem bst_stay {s : ByteArray} {L : List (ByteArray × ByteArray)} {k j : Nat} {p q} (h : L[k]? = some p) (hs : sfx s p.1 = true) (hb : bst s L k = some j) (hj : L[j]? = some q) (hl : ¬ q.1.size < p.1.size) : bst s L (k + 1) = some j := by
  conv => lhs; unfold bst
  rw [h]
  simp [hs, hb, hj, hl]

/-- The rest of s without e's bytes. -/
def cut (s e : ByteArray) : ByteArray := s.extract 0 (s.size - e.size)

/-- The longest ending's pair. -/
def lng (s : ByteArray) (L : List (ByteArray × ByteArray)) : Option (ByteArray × ByteArray) := (bst s L L.length).bind fun j => L[j]?

/-- What is left of s without its longest ending. -/
def lrest (s : ByteArray) (L : List (ByteArray × ByteArray)) : ByteArray :=
  match lng s L with
  | none => s
  | some p => cut s p.1
theorem lrest_none {s : ByteArray} {L : List (ByteArray × ByteArray)} (h : bst s L L.length = none) : lrest s L = s := by
  unfold lrest lng; rw [h]; rfl
theorem lrest_some {s : ByteArray} {L : List (ByteArray × ByteArray)} {j : Nat} {q} (h : bst s L L.length = some j) (hq : L[j]? = some q) : lrest s L = cut s q.1 := by
  unfold lrest lng; rw [h]; simp only [Option.bind_some, hq]
theorem lng_none {s : ByteArray} {L : List (ByteArray × ByteArray)} (h : bst s L L.length = none) : lng s L = none := by unfold lng; rw [h]; rfl
theorem lng_some {s : ByteArray} {L : List (ByteArray × ByteArray)} {j : Nat} {q} (h : bst s L L.length = some j) (hq : L[j]? = some q) : lng s L = some q := by unfold lng; rw [h]; exact hq

/-- A step with a list whose condition is a measure above most. -/
def rep (s : ByteArray) (L : List (ByteArray × ByteArray)) (most : Nat) : ByteArray :=
  match lng s L with
  | none => s
  | some p => if meas (cut s p.1) ≤ most then s else cut s p.1 ++ p.2

theorem sfx_le {s e : ByteArray} (h : sfx s e = true) : e.size ≤ s.size := by
  unfold sfx at h; simp at h; exact h.1

theorem cut_size (s e : ByteArray) : (cut s e).size = s.size - e.size := by
  unfold cut; rw [ByteArray.size_extract]; omega

theorem msTo_le (s : ByteArray) : ∀ k, msTo s k ≤ k := by
  intro k
  induction k with
  | zero => simp [msTo]
  | succ k ih => unfold msTo; split <;> omega

abbrev PL := List (ByteArray × ByteArray)
def L1a : PL := [(⟨#[115, 115, 101, 115]⟩, ⟨#[115, 115]⟩), (⟨#[105, 101, 115]⟩, ⟨#[105]⟩), (⟨#[115, 115]⟩, ⟨#[115, 115]⟩), (⟨#[115]⟩, ⟨#[]⟩)]
def L1b : PL := [(⟨#[101, 101, 100]⟩, ⟨#[101, 101]⟩), (⟨#[101, 100]⟩, ⟨#[]⟩), (⟨#[105, 110, 103]⟩, ⟨#[]⟩)]
def L2 : PL := [(⟨#[97, 116, 105, 111, 110, 97, 108]⟩, ⟨#[97, 116, 101]⟩), (⟨#[116, 105, 111, 110, 97, 108]⟩, ⟨#[116, 105, 111, 110]⟩), (⟨#[101, 110, 99, 105]⟩, ⟨#[101, 110, 99, 101]⟩), (⟨#[97, 110, 99, 105]⟩, ⟨#[97, 110, 99, 101]⟩), (⟨#[105, 122, 101, 114]⟩, ⟨#[105, 122, 101]⟩), (⟨#[97, 98, 108, 105]⟩, ⟨#[97, 98, 108, 101]⟩), (⟨#[97, 108, 108, 105]⟩, ⟨#[97, 108]⟩), (⟨#[101, 110, 116, 108, 105]⟩, ⟨#[101, 110, 116]⟩), (⟨#[101, 108, 105]⟩, ⟨#[101]⟩), (⟨#[111, 117, 115, 108, 105]⟩, ⟨#[111, 117, 115]⟩), (⟨#[105, 122, 97, 116, 105, 111, 110]⟩, ⟨#[105, 122, 101]⟩), (⟨#[97, 116, 105, 111, 110]⟩, ⟨#[97, 116, 101]⟩), (⟨#[97, 116, 111, 114]⟩, ⟨#[97, 116, 101]⟩), (⟨#[97, 108, 105, 115, 109]⟩, ⟨#[97, 108]⟩), (⟨#[105, 118, 101, 110, 101, 115, 115]⟩, ⟨#[105, 118, 101]⟩), (⟨#[102, 117, 108, 110, 101, 115, 115]⟩, ⟨#[102, 117, 108]⟩), (⟨#[111, 117, 115, 110, 101, 115, 115]⟩, ⟨#[111, 117, 115]⟩), (⟨#[97, 108, 105, 116, 105]⟩, ⟨#[97, 108]⟩), (⟨#[105, 118, 105, 116, 105]⟩, ⟨#[105, 118, 101]⟩), (⟨#[98, 105, 108, 105, 116, 105]⟩, ⟨#[98, 108, 101]⟩)]
def L3 : PL := [(⟨#[105, 99, 97, 116, 101]⟩, ⟨#[105, 99]⟩), (⟨#[97, 116, 105, 118, 101]⟩, ⟨#[]⟩), (⟨#[97, 108, 105, 122, 101]⟩, ⟨#[97, 108]⟩), (⟨#[105, 99, 105, 116, 105]⟩, ⟨#[105, 99]⟩), (⟨#[105, 99, 97, 108]⟩, ⟨#[105, 99]⟩), (⟨#[102, 117, 108]⟩, ⟨#[]⟩), (⟨#[110, 101, 115, 115]⟩, ⟨#[]⟩)]
def L4 : PL := [(⟨#[97, 108]⟩, ⟨#[]⟩), (⟨#[97, 110, 99, 101]⟩, ⟨#[]⟩), (⟨#[101, 110, 99, 101]⟩, ⟨#[]⟩), (⟨#[101, 114]⟩, ⟨#[]⟩), (⟨#[105, 99]⟩, ⟨#[]⟩), (⟨#[97, 98, 108, 101]⟩, ⟨#[]⟩), (⟨#[105, 98, 108, 101]⟩, ⟨#[]⟩), (⟨#[97, 110, 116]⟩, ⟨#[]⟩), (⟨#[101, 109, 101, 110, 116]⟩, ⟨#[]⟩), (⟨#[109, 101, 110, 116]⟩, ⟨#[]⟩), (⟨#[101, 110, 116]⟩, ⟨#[]⟩), (⟨#[105, 111, 110]⟩, ⟨#[]⟩), (⟨#[111, 117]⟩, ⟨#[]⟩), (⟨#[105, 115, 109]⟩, ⟨#[]⟩), (⟨#[97, 116, 101]⟩, ⟨#[]⟩), (⟨#[105, 116, 105]⟩, ⟨#[]⟩), (⟨#[111, 117, 115]⟩, ⟨#[]⟩), (⟨#[105, 118, 101]⟩, ⟨#[]⟩), (⟨#[105, 122, 101]⟩, ⟨#[]⟩)]

/-- The longest ending replaced. -/
def sub (s : ByteArray) (L : PL) : ByteArray :=
  match lng s L with
  | none => s
  | some p => cut s p.1 ++ p.2
def s1a (s : ByteArray) : ByteArray := sub s L1a
def chop (s : ByteArray) : ByteArray := s.extract 0 (s.size - 1)
def mend (s : ByteArray) : ByteArray :=
  if sfx s ⟨#[97, 116]⟩ || sfx s ⟨#[98, 108]⟩ || sfx s ⟨#[105, 122]⟩ then s ++ ⟨#[101]⟩
  else if dbl s && !lsz (bt s (s.size - 1)) then chop s
  else if meas s == 1 && shrt s then s ++ ⟨#[101]⟩
  else s
def s1b (s : ByteArray) : ByteArray :=
  if bst s L1b 3 = some 0 then (if 0 < meas (cut s ⟨#[101, 101, 100]⟩) then cut s ⟨#[101, 101, 100]⟩ ++ ⟨#[101, 101]⟩ else s)
  else if bst s L1b 3 = some 1 then (if hasV (cut s ⟨#[101, 100]⟩) then mend (cut s ⟨#[101, 100]⟩) else s)
  else if bst s L1b 3 = some 2 then (if hasV (cut s ⟨#[105, 110, 103]⟩) then mend (cut s ⟨#[105, 110, 103]⟩) else s)
  else s
def s1c (s : ByteArray) : ByteArray := if sfx s ⟨#[121]⟩ && hasV (cut s ⟨#[121]⟩) then cut s ⟨#[121]⟩ ++ ⟨#[105]⟩ else s
def s4 (s : ByteArray) : ByteArray :=
  if bst s L4 19 = some 11 ∧ sfx (cut s ⟨#[105, 111, 110]⟩) ⟨#[115]⟩ = false ∧ sfx (cut s ⟨#[105, 111, 110]⟩) ⟨#[116]⟩ = false then s else rep s L4 1
def s5a (s : ByteArray) : ByteArray :=
  if sfx s ⟨#[101]⟩ && (decide (1 < meas (cut s ⟨#[101]⟩)) || (meas (cut s ⟨#[101]⟩) == 1 && !shrt (cut s ⟨#[101]⟩))) then cut s ⟨#[101]⟩ else s
def s5b (s : ByteArray) : ByteArray := if sfx s ⟨#[108, 108]⟩ && decide (1 < meas s) then chop s else s
def allSmall (s : ByteArray) : Nat → Bool
  | 0 => true
  | k + 1 => allSmall s k && decide (97 ≤ bt s k ∧ bt s k ≤ 122)
def poss (s : ByteArray) : ByteArray := if decide (2 < s.size) && sfx s ⟨#[39, 115]⟩ then cut s ⟨#[39, 115]⟩ else s
def stem (s : ByteArray) : ByteArray :=
  if (poss s).size < 3 then poss s
  else if allSmall (poss s) (poss s).size then s5b (s5a (s4 (rep (rep (s1c (s1b (s1a (poss s)))) L2 0) L3 0)))
  else poss s

theorem rep_none {s : ByteArray} {L : PL} {m : Nat} (h : bst s L L.length = none) : rep s L m = s := by unfold rep; rw [lng_none h]
theorem rep_low {s : ByteArray} {L : PL} {m j : Nat} {q} (h : bst s L L.length = some j) (hq : L[j]? = some q) (hm : meas (cut s q.1) ≤ m) : rep s L m = s := by
  unfold rep; rw [lng_some h hq]; simp [hm]
theorem rep_high {s : ByteArray} {L : PL} {m j : Nat} {q} (h : bst s L L.length = some j) (hq : L[j]? = some q) (hm : ¬ meas (cut s q.1) ≤ m) : rep s L m = cut s q.1 ++ q.2 := by
  unfold rep; rw [lng_some h hq]; simp [hm]

theorem sub_none {s : ByteArray} {L : PL} (h : bst s L L.length = none) : sub s L = s := by unfold sub; rw [lng_none h]
theorem sub_some {s : ByteArray} {L : PL} {j : Nat} {q} (h : bst s L L.length = some j) (hq : L[j]? = some q) : sub s L = cut s q.1 ++ q.2 := by
  unfold sub; rw [lng_some h hq]

theorem s1b_none {s : ByteArray} (h : bst s L1b 3 = none) : s1b s = s := by unfold s1b; rw [h]; simp
theorem s1b_0 {s : ByteArray} (h : bst s L1b 3 = some 0) : s1b s = if 0 < meas (cut s ⟨#[101, 101, 100]⟩) then cut s ⟨#[101, 101, 100]⟩ ++ ⟨#[101, 101]⟩ else s := by unfold s1b; rw [h]; simp
theorem s1b_1 {s : ByteArray} (h : bst s L1b 3 = some 1) : s1b s = if hasV (cut s ⟨#[101, 100]⟩) then mend (cut s ⟨#[101, 100]⟩) else s := by unfold s1b; rw [h]; simp
theorem s1b_2 {s : ByteArray} (h : bst s L1b 3 = some 2) : s1b s = if hasV (cut s ⟨#[105, 110, 103]⟩) then mend (cut s ⟨#[105, 110, 103]⟩) else s := by unfold s1b; rw [h]; simp

end Go.Proofs.YtmoahflgcojfcaaDoor.StemPlain
