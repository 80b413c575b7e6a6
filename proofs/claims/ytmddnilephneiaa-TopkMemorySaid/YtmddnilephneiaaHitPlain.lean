/-
  Plain facts on hits: the order, sorted lists, the best k, a keeper's offer.
-/
import Derived.PlainAid
namespace Go.Proofs.Ytmddnilephneiaa.HitPlain

/-- id, score -/
abbrev Hit := Int × Int
def btr (a b : Hit) : Bool := if a.2 = b.2 then decide (a.1 < b.1) else decide (b.2 < a.2)

theorem btr_irr (a : Hit) : btr a a = false := by simp [btr]
theorem btr_asym {a b : Hit} (h : btr a b = true) : btr b a = false := by
  obtain ⟨a1, a2⟩ := a; obtain ⟨b1, b2⟩ := b
  simp only [btr] at h ⊢
  by_cases e : a2 = b2
  · subst e; simp only [if_true, decide_eq_true_eq, decide_eq_false_iff_not] at h ⊢; omega
  · rw [if_neg e] at h; rw [if_neg (fun x => e x.symm)]; simp only [decide_eq_true_eq, decide_eq_false_iff_not] at h ⊢; omega
theorem btr_trans {a b c : Hit} (h : btr a b = true) (k : btr b c = true) : btr a c = true := by
  obtain ⟨a1, a2⟩ := a; obtain ⟨b1, b2⟩ := b; obtain ⟨c1, c2⟩ := c
  simp only [btr] at h k ⊢
  split at h <;> split at k <;> split <;> simp only [decide_eq_true_eq] at h k ⊢ <;> omega
theorem btr_total {a b : Hit} (h : btr a b = false) (k : btr b a = false) : a = b := by
  obtain ⟨a1, a2⟩ := a; obtain ⟨b1, b2⟩ := b
  simp only [btr] at h k
  split at h <;> split at k <;> simp only [decide_eq_false_iff_not] at h k <;> simp only [Prod.mk.injEq] <;> omega
/-- 'b is not ahead of a' is transitive -/
theorem nb_trans {a b c : Hit} (h : btr b a = false) (k : btr c b = false) : btr c a = false := by
  obtain ⟨a1, a2⟩ := a; obtain ⟨b1, b2⟩ := b; obtain ⟨c1, c2⟩ := c
  simp only [btr] at h k ⊢
  split at h <;> split at k <;> split <;> simp only [decide_eq_false_iff_not] at h k ⊢ <;> omega

/-- the best first -/
abbrev Srt (l : List Hit) : Prop := l.Pairwise (fun a b => btr b a = false)
def insS (h : Hit) : List Hit → List Hit
  | [] => [h]
  | x :: r => if btr h x then h :: x :: r else x :: insS h r
def srt : List Hit → List Hit
  | [] => []
  | x :: r => insS x (srt r)

theorem ins_perm (h : Hit) (l : List Hit) : (insS h l).Perm (h :: l) := by
  induction l with
  | nil => exact .refl _
  | cons x r ih =>
    unfold insS
    split
    · exact .refl _
    · exact (ih.cons x).trans (.swap h x r)
theorem ins_len (h : Hit) (l : List Hit) : (insS h l).length = l.length + 1 := (ins_perm h l).length_eq
theorem srt_perm (l : List Hit) : (srt l).Perm l := by
  induction l with
  | nil => exact .refl _
  | cons x r ih => exact (ins_perm x _).trans (ih.cons x)
theorem srt_len (l : List Hit) : (srt l).length = l.length := (srt_perm l).length_eq
theorem ins_srt {h : Hit} {l : List Hit} (hl : Srt l) : Srt (insS h l) := by
  induction l with
  | nil => exact List.pairwise_singleton _ _
  | cons x r ih =>
    have hx := List.pairwise_cons.1 hl
    unfold insS
    split
    case isTrue hb =>
      refine List.pairwise_cons.2 ⟨?_, hl⟩
      intro y hy
      rcases List.mem_cons.1 hy with rfl | hy
      · exact btr_asym hb
      · exact nb_trans (btr_asym hb) (hx.1 y hy)
    case isFalse hb =>
      refine List.pairwise_cons.2 ⟨?_, ih hx.2⟩
      intro y hy
      rcases List.mem_cons.1 ((ins_perm h r).mem_iff.1 hy) with rfl | hy
      · simpa using hb
      · exact hx.1 y hy
theorem srt_srt (l : List Hit) : Srt (srt l) := by
  induction l with
  | nil => exact List.Pairwise.nil
  | cons x r ih => exact ins_srt ih
theorem srt_unique {a b : List Hit} (ha : Srt a) (hb : Srt b) (h : a.Perm b) : a = b := by
  induction a generalizing b with
  | nil => exact (List.nil_perm.1 h).symm
  | cons x r ih =>
    cases b with
    | nil => exact absurd h.length_eq (by simp)
    | cons y s =>
      have hx := List.pairwise_cons.1 ha
      have hy := List.pairwise_cons.1 hb
      have e : x = y := by
        by_cases e : x = y
        · exact e
        · have m1 : y ∈ r := (List.mem_cons.1 (h.mem_iff.2 List.mem_cons_self)).resolve_left (fun m => e m.symm)
          have m2 : x ∈ s := (List.mem_cons.1 (h.mem_iff.1 List.mem_cons_self)).resolve_left e
          exact btr_total (hy.1 x m2) (hx.1 y m1)
      subst e
      rw [ih hx.2 hy.2 (List.perm_cons _ |>.1 h)]
theorem srt_eq {a b : List Hit} (ha : Srt a) (h : a.Perm b) : a = srt b := srt_unique ha (srt_srt b) (h.trans (srt_perm b).symm)
theorem srt_congr {a b : List Hit} (h : a.Perm b) : srt a = srt b := srt_eq (srt_srt a) ((srt_perm a).trans h)
theorem srt_id {a : List Hit} (ha : Srt a) : srt a = a := (srt_eq ha (.refl _)).symm
theorem srt_take {a : List Hit} (ha : Srt a) (k : Nat) : Srt (a.take k) := ha.sublist (List.take_sublist k a)
theorem ins_of_perm {a b : List Hit} {h : Hit} (hb : Srt b) (p : a.Perm (h :: b)) (ha : Srt a) : a = insS h b :=
  srt_unique ha (ins_srt hb) (p.trans (ins_perm h b).symm)

theorem ins_take (h : Hit) : ∀ (l : List Hit) (k : Nat), (insS h (l.take k)).take k = (insS h l).take k := by
  intro l
  induction l with
  | nil => intro k; simp
  | cons x r ih =>
    intro k
    cases k with
    | zero => simp
    | succ k =>
      rw [List.take_succ_cons]
      unfold insS
      split
      · rw [List.take_succ_cons, List.take_succ_cons]
        cases k with
        | zero => simp
        | succ k => rw [List.take_succ_cons, List.take_succ_cons, List.take_take]; congr 2; rw [Nat.min_eq_left (Nat.le_succ k)]
      · rw [List.take_succ_cons, List.take_succ_cons, ih k]
/-- the best k -/
def tk (k : Nat) (l : List Hit) : List Hit := (srt l).take k
theorem tk_cons (k : Nat) (x : Hit) (l : List Hit) : tk k (x :: l) = (insS x (tk k l)).take k := (ins_take x (srt l) k).symm
theorem tk_congr {a b : List Hit} (k : Nat) (h : a.Perm b) : tk k a = tk k b := by unfold tk; rw [srt_congr h]
theorem tk_srt (k : Nat) (l : List Hit) : Srt (tk k l) := srt_take (srt_srt l) k
theorem tk_len (k : Nat) (l : List Hit) : (tk k l).length = min k l.length := by unfold tk; rw [List.length_take, srt_len]
theorem tk_zero (l : List Hit) : tk 0 l = [] := by unfold tk; rw [List.take_zero]
theorem tk_nil (k : Nat) : tk k [] = [] := by unfold tk srt; rw [List.take_nil]
theorem tk_snoc (k : Nat) (x : Hit) (l : List Hit) : tk k (l ++ [x]) = (insS x (tk k l)).take k := by
  rw [tk_congr k (List.perm_append_comm (l₁ := l) (l₂ := [x]))]
  exact tk_cons k x l
theorem tk_mem {k : Nat} {l : List Hit} {x : Hit} (h : x ∈ tk k l) : x ∈ l := (srt_perm l).mem_iff.1 (List.mem_of_mem_take h)
/-- the best k of what holds the best k of a part -/
theorem tk_tk (k : Nat) (a b : List Hit) : tk k (tk k a ++ b) = tk k (a ++ b) := by
  induction b generalizing a with
  | nil => rw [List.append_nil, List.append_nil]; unfold tk; rw [srt_id (srt_take (srt_srt a) k), List.take_take, Nat.min_self]
  | cons x b ih =>
    have e1 : tk k (tk k a ++ x :: b) = tk k ((x :: tk k a) ++ b) := tk_congr k (List.perm_middle)
    have e2 : tk k (a ++ x :: b) = tk k ((x :: a) ++ b) := tk_congr k (List.perm_middle)
    rw [e1, e2, ← ih (x :: tk k a), ← ih (x :: a)]
    congr 1
    congr 1
    rw [tk_cons, tk_cons]
    congr 2
    unfold tk
    rw [srt_id (srt_take (srt_srt a) k), List.take_take, Nat.min_self]
theorem ins_last {h : Hit} {l : List Hit} (hn : ∀ x ∈ l, btr h x = false) : insS h l = l ++ [h] := by
  induction l with
  | nil => rfl
  | cons x r ih =>
    unfold insS
    rw [hn x List.mem_cons_self, if_neg (by decide), ih (fun y hy => hn y (List.mem_cons_of_mem _ hy))]
    rfl

/-! A heap: the one that goes first is the last in the order. -/
def Hp (L : List Hit) : Prop := ∀ i a b, 0 < i → L[i]? = some a → L[(i - 1) / 2]? = some b → btr b a = false
theorem hp_head {L : List Hit} (h : Hp L) {r : Hit} (h0 : L[0]? = some r) : ∀ (i : Nat) (a : Hit), L[i]? = some a → btr r a = false := by
  intro i
  induction i using Nat.strongRecOn with
  | ind i ih =>
    intro a ha
    by_cases hi : i = 0
    · subst hi; rw [h0] at ha; injection ha with ha; subst ha; exact btr_irr _
    · have hlt : i < L.length := (List.getElem?_eq_some_iff.1 ha).1
      obtain ⟨b, hb⟩ : ∃ b, L[(i - 1) / 2]? = some b := ⟨_, List.getElem?_eq_getElem (by omega)⟩
      exact nb_trans (h i a b (by omega) ha hb) (ih _ (by omega) b hb)
end Go.Proofs.Ytmddnilephneiaa.HitPlain
