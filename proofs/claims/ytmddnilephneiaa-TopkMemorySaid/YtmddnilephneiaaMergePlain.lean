/-
  Merging two sorted lists of hits.
-/
import Derived.Test.YtmddnilephneiaaHitPlain
namespace Go.Proofs.Ytmddnilephneiaa.MergePlain
open HitPlain

def mg : List Hit → List Hit → List Hit
  | [], b => b
  | x :: a, [] => x :: a
  | x :: a, y :: b => if btr y x then y :: mg (x :: a) b else x :: mg a (y :: b)
termination_by a b => a.length + b.length

theorem mg_nil_l (b : List Hit) : mg [] b = b := by rw [mg]
theorem mg_nil_r (a : List Hit) : mg a [] = a := by cases a <;> rw [mg]
theorem mg_right {a b : List Hit} {y : Hit} (h : ∀ x, a[0]? = some x → btr y x = true) : mg a (y :: b) = y :: mg a b := by
  cases a with
  | nil => rw [mg_nil_l, mg_nil_l]
  | cons x a => rw [mg, if_pos (h x rfl)]
theorem mg_left {a b : List Hit} {x : Hit} (h : ∀ y, b[0]? = some y → btr y x = false) : mg (x :: a) b = x :: mg a b := by
  cases b with
  | nil => rw [mg_nil_r, mg_nil_r]
  | cons y b => rw [mg, if_neg (by rw [h y rfl]; simp)]
theorem mg_perm : ∀ a b : List Hit, (mg a b).Perm (a ++ b)
  | [], b => by rw [mg_nil_l]; exact .refl _
  | x :: a, [] => by rw [mg_nil_r, List.append_nil]
  | x :: a, y :: b => by
    by_cases h : btr y x = true
    · rw [mg, if_pos h]
      exact ((mg_perm (x :: a) b).cons y).trans (List.perm_middle (l₁ := x :: a) (l₂ := b)).symm
    · rw [mg, if_neg h]
      exact (mg_perm a (y :: b)).cons x
termination_by a b => a.length + b.length
theorem mg_srt : ∀ {a b : List Hit}, Srt a → Srt b → Srt (mg a b)
  | [], b, _, hb => by rw [mg_nil_l]; exact hb
  | x :: a, [], ha, _ => by rw [mg_nil_r]; exact ha
  | x :: a, y :: b, ha, hb => by
    have ha' := List.pairwise_cons.1 ha
    have hb' := List.pairwise_cons.1 hb
    by_cases h : btr y x = true
    · rw [mg, if_pos h]
      refine List.pairwise_cons.2 ⟨fun z hz => ?_, mg_srt ha hb'.2⟩
      have hz' := (mg_perm (x :: a) b).mem_iff.1 hz
      rcases List.mem_append.1 hz' with hz' | hz'
      · rcases List.mem_cons.1 hz' with rfl | hz'
        · exact btr_asym h
        · exact nb_trans (btr_asym h) (ha'.1 z hz')
      · exact hb'.1 z hz'
    · rw [mg, if_neg h]
      refine List.pairwise_cons.2 ⟨fun z hz => ?_, mg_srt ha'.2 hb⟩
      have hyx : btr y x = false := by simpa using h
      have hz' := (mg_perm a (y :: b)).mem_iff.1 hz
      rcases List.mem_append.1 hz' with hz' | hz'
      · exact ha'.1 z hz'
      · rcases List.mem_cons.1 hz' with rfl | hz'
        · exact hyx
        · exact nb_trans hyx (hb'.1 z hz')
termination_by a b => a.length + b.length
theorem mg_halves (L : List Hit) (h : Nat) : mg (srt (L.take h)) (srt (L.drop h)) = srt L := by
  refine srt_eq (mg_srt (srt_srt _) (srt_srt _)) ?_
  refine (mg_perm _ _).trans (((srt_perm _).append (srt_perm _)).trans ?_)
  rw [List.take_append_drop]
theorem mg_len (a b : List Hit) : (mg a b).length = a.length + b.length := by rw [(mg_perm a b).length_eq, List.length_append]

/-- The next hit is from the left. -/
theorem step_l {a b O : List Hit} {i j : Nat} {x : Hit} (hx : a[i]? = some x) (hn : ∀ y, b[j]? = some y → btr y x = false) (h : O ++ mg (a.drop i) (b.drop j) = mg a b) : (O ++ [x]) ++ mg (a.drop (i + 1)) (b.drop j) = mg a b := by
  obtain ⟨hi, e⟩ := List.getElem?_eq_some_iff.1 hx
  rw [List.drop_eq_getElem_cons hi, e, mg_left (fun y hy => hn y (by rw [List.getElem?_drop] at hy; simpa using hy))] at h
  rw [List.append_assoc]
  exact h
theorem step_r {a b O : List Hit} {i j : Nat} {y : Hit} (hy : b[j]? = some y) (hn : ∀ x, a[i]? = some x → btr y x = true) (h : O ++ mg (a.drop i) (b.drop j) = mg a b) : (O ++ [y]) ++ mg (a.drop i) (b.drop (j + 1)) = mg a b := by
  obtain ⟨hj, e⟩ := List.getElem?_eq_some_iff.1 hy
  rw [List.drop_eq_getElem_cons hj, e, mg_right (fun x hx => hn x (by rw [List.getElem?_drop] at hx; simpa using hx))] at h
  rw [List.append_assoc]
  exact h
theorem srt_short {L : List Hit} (h : L.length < 2) : srt L = L := by
  match L, h with
  | [], _ => rfl
  | [x], _ => rfl
end Go.Proofs.Ytmddnilephneiaa.MergePlain
