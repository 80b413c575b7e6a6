/-
  The line of a good query tells the query, and it holds no byte below 32 or above 126, in plain Lean.
-/
import Derived.Test.YtkcfgcdlnojaeaaGreatDoorDTextP
set_option linter.unusedVariables false
set_option linter.unusedSimpArgs false
namespace Go.Proofs.YtkcfgcdlnojaeaaGreatDoor.TextInj
set_option maxRecDepth 100000
open Go.RowKit Go.PlainAid Base Query Quoted TextPlain TextLine TextOne

theorem kids_nodig (ks : List Qry) (oc : List Int) (i : Nat) (r : List UInt8) : NoDig (kidsL ks oc i ++ 41 :: r) := by
  cases ks with
  | nil => simp only [kidsL, List.nil_append]; exact nodig41 r
  | cons k ks => simp only [kidsL, List.append_assoc, List.cons_append, List.nil_append]; exact nodig32 _

/-- What two bodies of one kind say, if they are followed by the kids. -/
theorem body_inj {n m : Int} {h g : Head} {ks ls : List Qry} {r s : List UInt8} (hk : 3 ≤ h.kind ∧ h.kind ≤ 14) (ek : h.kind = g.kind) (ok : Ok (hasOf h.kind.toNat) n ks.length h) (og : Ok (hasOf h.kind.toNat) m ls.length g) (w1 : 0 ≤ h.weight) (w2 : 0 ≤ g.weight)
    (e : bodyL h ++ (kidsL ks h.occur 0 ++ 41 :: r) = bodyL g ++ (kidsL ls g.occur 0 ++ 41 :: s)) :
    ((hasOf h.kind.toNat).a = true → h.field = g.field) ∧ ((hasOf h.kind.toNat).b = true → h.text = g.text) ∧ ((hasOf h.kind.toNat).c = true → h.weight = g.weight) ∧ ((hasOf h.kind.toNat).m ≠ 0 → h.n = g.n) ∧
    ((hasOf h.kind.toNat).d = true → h.lo = g.lo ∧ h.hi = g.hi) ∧ ((hasOf h.kind.toNat).e = true → h.terms = g.terms ∧ h.offs = g.offs) ∧ kidsL ks h.occur 0 ++ 41 :: r = kidsL ls g.occur 0 ++ 41 :: s := by
  have n1 := ok.n0
  have n2 := og.n0
  have K1 := kids_nodig ks h.occur 0 r
  have K2 := kids_nodig ls g.occur 0 s
  obtain ⟨k, e1⟩ : ∃ k, k = h.kind := ⟨_, rfl⟩
  have e2 : k = g.kind := e1.trans ek
  rw [← e1] at hk ok og ⊢
  unfold bodyL at e
  rw [← e1, ← e2] at e
  rcases (by omega : k = 3 ∨ k = 4 ∨ k = 5 ∨ k = 6 ∨ k = 7 ∨ k = 8 ∨ k = 9 ∨ k = 10 ∨ k = 11 ∨ k = 12 ∨ k = 13 ∨ k = 14) with rfl | rfl | rfl | rfl | rfl | rfl | rfl | rfl | rfl | rfl | rfl | rfl
  · obtain ⟨a1, a2⟩ := num_inj (ok.f1 rfl) (og.f1 rfl) e K1 K2
    exact ⟨fun _ => a1, nofun, nofun, fun x => absurd rfl x, nofun, nofun, a2⟩
  · have e : num h.field ++ ([32] ++ (quoteL h.text ++ (num h.weight ++ (kidsL ks h.occur 0 ++ 41 :: r)))) = num g.field ++ ([32] ++ (quoteL g.text ++ (num g.weight ++ (kidsL ls g.occur 0 ++ 41 :: s)))) := by simpa using e
    obtain ⟨a1, a2⟩ := num_inj (ok.f1 rfl) (og.f1 rfl) e (nodig32 _) (nodig32 _)
    obtain ⟨b1, b2⟩ := quote_inj (List.append_cancel_left a2)
    obtain ⟨c1, c2⟩ := num_inj w1 w2 b2 K1 K2
    exact ⟨fun _ => a1, fun _ => b1, fun _ => c1, fun x => absurd rfl x, nofun, nofun, c2⟩
  · have x1 : ks = [] := List.eq_nil_of_length_eq_zero (ok.k0 rfl)
    have x2 : ls = [] := List.eq_nil_of_length_eq_zero (og.k0 rfl)
    subst x1 x2
    have e : num h.field ++ (num h.n ++ (num h.weight ++ (tl h.terms h.offs ++ 41 :: r))) = num g.field ++ (num g.n ++ (num g.weight ++ (tl g.terms g.offs ++ 41 :: s))) := by
      rw [← termsL_tl _ _ ok.s0, ← termsL_tl _ _ og.s0]
      simpa [kidsL] using e
    obtain ⟨a1, a2⟩ := num_inj (ok.f1 rfl) (og.f1 rfl) e (nodig32 _) (nodig32 _)
    obtain ⟨b1, b2⟩ := num_inj n1 n2 a2 (nodig32 _) (nodig32 _)
    obtain ⟨c1, c2⟩ := num_inj w1 w2 b2 (tl_nodig _ _ _) (tl_nodig _ _ _)
    obtain ⟨d1, d2, d3⟩ := tl_inj _ _ _ _ _ _ ok.s0 og.s0 ok.s2 og.s2 c2
    exact ⟨fun _ => a1, nofun, fun _ => c1, fun _ => b1, nofun, fun _ => ⟨d1, d2⟩, by simp only [kidsL, List.nil_append]; rw [d3]⟩
  · have e : num h.field ++ ([32] ++ (quoteL h.text ++ (kidsL ks h.occur 0 ++ 41 :: r))) = num g.field ++ ([32] ++ (quoteL g.text ++ (kidsL ls g.occur 0 ++ 41 :: s))) := by simpa using e
    obtain ⟨a1, a2⟩ := num_inj (ok.f1 rfl) (og.f1 rfl) e (nodig32 _) (nodig32 _)
    obtain ⟨b1, b2⟩ := quote_inj (List.append_cancel_left a2)
    exact ⟨fun _ => a1, fun _ => b1, nofun, fun x => absurd rfl x, nofun, nofun, b2⟩
  · have e : num h.field ++ ([32] ++ (quoteL h.text ++ (kidsL ks h.occur 0 ++ 41 :: r))) = num g.field ++ ([32] ++ (quoteL g.text ++ (kidsL ls g.occur 0 ++ 41 :: s))) := by simpa using e
    obtain ⟨a1, a2⟩ := num_inj (ok.f1 rfl) (og.f1 rfl) e (nodig32 _) (nodig32 _)
    obtain ⟨b1, b2⟩ := quote_inj (List.append_cancel_left a2)
    exact ⟨fun _ => a1, fun _ => b1, nofun, fun x => absurd rfl x, nofun, nofun, b2⟩
  · have e : num h.field ++ (num h.n ++ ([32] ++ (quoteL h.text ++ (kidsL ks h.occur 0 ++ 41 :: r)))) = num g.field ++ (num g.n ++ ([32] ++ (quoteL g.text ++ (kidsL ls g.occur 0 ++ 41 :: s)))) := by simpa using e
    obtain ⟨a1, a2⟩ := num_inj (ok.f1 rfl) (og.f1 rfl) e (nodig32 _) (nodig32 _)
    obtain ⟨b1, b2⟩ := num_inj n1 n2 a2 (nodig32 _) (nodig32 _)
    obtain ⟨c1, c2⟩ := quote_inj (List.append_cancel_left b2)
    exact ⟨fun _ => a1, fun _ => c1, nofun, fun _ => b1, nofun, nofun, c2⟩
  · have e : num h.field ++ ([32] ++ (endL h.lo ++ ([32] ++ (endL h.hi ++ (kidsL ks h.occur 0 ++ 41 :: r))))) = num g.field ++ ([32] ++ (endL g.lo ++ ([32] ++ (endL g.hi ++ (kidsL ls g.occur 0 ++ 41 :: s))))) := by simpa using e
    obtain ⟨a1, a2⟩ := num_inj (ok.f1 rfl) (og.f1 rfl) e (nodig32 _) (nodig32 _)
    obtain ⟨b1, b2⟩ := end_inj (ok.l1 rfl) (og.l1 rfl) (List.append_cancel_left a2)
    obtain ⟨c1, c2⟩ := end_inj (ok.h1 rfl) (og.h1 rfl) (List.append_cancel_left b2)
    exact ⟨fun _ => a1, nofun, nofun, fun x => absurd rfl x, fun _ => ⟨b1, c1⟩, nofun, c2⟩
  · obtain ⟨a1, a2⟩ := num_inj n1 n2 e K1 K2
    exact ⟨nofun, nofun, nofun, fun _ => a1, nofun, nofun, a2⟩
  · exact ⟨nofun, nofun, nofun, fun x => absurd rfl x, nofun, nofun, e⟩
  · exact ⟨nofun, nofun, nofun, fun x => absurd rfl x, nofun, nofun, e⟩
  · obtain ⟨a1, a2⟩ := num_inj w1 w2 e K1 K2
    exact ⟨nofun, nofun, fun _ => a1, fun x => absurd rfl x, nofun, nofun, a2⟩
  · obtain ⟨a1, a2⟩ := num_inj w1 w2 e K1 K2
    exact ⟨nofun, nofun, fun _ => a1, fun x => absurd rfl x, nofun, nofun, a2⟩

theorem wt0 {h : Head} {nk : Nat} (e : wtB h nk = true) : 0 ≤ h.weight := by
  simp only [wtB, Bool.and_eq_true, decide_eq_true_eq] at e
  exact e.1

theorem line_inj {n : Int} {p : Bool} (q : Qry) : ∀ q' : Qry, goodBy (locB n p) q = true → goodBy (locB n p) q' = true → goodBy wtB q = true → goodBy wtB q' = true →
    ∀ r s, lineL q ++ r = lineL q' ++ s → q = q' ∧ r = s := by
  induction q using Qry.ind with
  | h q ih =>
    obtain ⟨h, ks⟩ := q
    rintro ⟨g, ls⟩ g1 g2 v1 v2 r s e
    simp only [Qry.kids] at ih
    simp only [goodBy, goodsBy_all, Bool.and_eq_true] at g1 g2 v1 v2
    obtain ⟨g1, t1⟩ := g1
    obtain ⟨g2, t2⟩ := g2
    obtain ⟨v1, y1⟩ := v1
    obtain ⟨v2, y2⟩ := v2
    have t1 := List.all_eq_true.1 t1
    have t2 := List.all_eq_true.1 t2
    have y1 := List.all_eq_true.1 y1
    have y2 := List.all_eq_true.1 y2
    obtain ⟨a1, a2, ok⟩ := ok_of g1
    obtain ⟨b1, b2, og⟩ := ok_of g2
    simp only [lineL] at e
    by_cases a : h.kind = 1 ∨ h.kind = 2 <;> by_cases b : g.kind = 1 ∨ g.kind = 2
    · rw [if_pos a, if_pos b] at e
      have ek : h.kind = g.kind := by
        rcases a with a | a <;> rcases b with b | b <;> rw [a, b] at e ⊢ <;> simp [hasOf] at e
      rw [← ek] at e og
      have hz : (hasOf h.kind.toNat).a = false ∧ (hasOf h.kind.toNat).b = false ∧ (hasOf h.kind.toNat).c = false ∧ (hasOf h.kind.toNat).m = 0 ∧ (hasOf h.kind.toNat).d = false ∧ (hasOf h.kind.toNat).e = false ∧ (hasOf h.kind.toNat).f = false ∧ (hasOf h.kind.toNat).k = 0 := by
        rcases a with a | a <;> rw [a] <;> decide
      obtain ⟨z1, z2, z3, z4, z5, z6, z7, z8⟩ := hz
      have x1 : ks = [] := List.eq_nil_of_length_eq_zero (ok.k0 z8)
      have x2 : ls = [] := List.eq_nil_of_length_eq_zero (og.k0 z8)
      subst x1 x2
      have hh := head_eq ok og ek (by rw [z1]; nofun) (by rw [z2]; nofun) (by rw [z3]; nofun) (fun x => absurd z4 x) (by rw [z5]; nofun) (by rw [z6]; nofun) (by rw [z7]; nofun)
      rw [hh]
      exact ⟨rfl, List.append_cancel_left e⟩
    · rw [if_pos a, if_neg b] at e
      rcases a with a | a <;> rw [a] at e <;> simp [hasOf] at e
    · rw [if_neg a, if_pos b] at e
      rcases b with b | b <;> rw [b] at e <;> simp [hasOf] at e
    · rw [if_neg a, if_neg b] at e
      have e : (hasOf h.kind.toNat).n ++ (bodyL h ++ (kidsL ks h.occur 0 ++ 41 :: r)) = (hasOf g.kind.toNat).n ++ (bodyL g ++ (kidsL ls g.occur 0 ++ 41 :: s)) := by simpa using e
      obtain ⟨y, hy⟩ := body_start ⟨by omega, a2⟩ ok r
      obtain ⟨z, hz⟩ := body_start ⟨by omega, b2⟩ og s
      have e0 := e
      rw [hy, hz] at e0
      obtain ⟨c1, c2⟩ := cut32 _ _ _ _ (name_no32 _) (name_no32 _) e0
      have ekn : h.kind.toNat = g.kind.toNat := name_inj (by omega) (by omega) c1
      have ek : h.kind = g.kind := by omega
      rw [← ek] at og
      have e3 : bodyL h ++ (kidsL ks h.occur 0 ++ 41 :: r) = bodyL g ++ (kidsL ls g.occur 0 ++ 41 :: s) := by rw [hy, hz, c2]
      obtain ⟨f1, f2, f3, f4, f5, f6, f7⟩ := body_inj ⟨by omega, a2⟩ ek ok og (wt0 v1) (wt0 v2) e3
      obtain ⟨d1, d2, d3⟩ := kids_inj ks ls 0 r s (fun k hk l hl i j => ih k hk l i j (y1 k hk) (y2 l hl)) t1 t2 f7
      subst d1
      have hh := head_eq ok og ek f1 f2 f3 f4 f5 f6 (fun x => occur_eq (ok.o1 x) (og.o1 x) ok.o2 og.o2 d3)
      rw [hh]
      exact ⟨rfl, d2⟩

/-- A byte from 32 to 126. -/
def prB (c : UInt8) : Bool := decide (32 ≤ c.toNat) && decide (c.toNat ≤ 126)
theorem prB_iff {c : UInt8} : prB c = true ↔ 32 ≤ c.toNat ∧ c.toNat ≤ 126 := by simp [prB]
theorem dd_pr (u : Nat) : (Lib.decDigits u).all prB = true := by
  rw [List.all_eq_true]
  intro c hc
  have := dd_all u c hc
  simp only [isDig, Bool.and_eq_true, decide_eq_true_eq] at this
  exact prB_iff.2 (by omega)
theorem num_pr (x : Int) : (num x).all prB = true := by
  unfold num
  rw [List.all_append, dd_pr]
  decide
theorem hexd_pr {n : Nat} (h : n < 16) : prB (hexd n) = true := by
  have key : ∀ a : Fin 16, prB (hexd a.val) = true := by decide
  exact key ⟨n, h⟩
theorem qb_pr (b : UInt8) : (qb b.toNat).all prB = true := by
  have hb := b.toNat_lt
  unfold qb
  by_cases h : odd b.toNat = true
  · rw [if_pos h]
    have x1 : ((b.toNat : Int) / 16).toNat < 16 := by omega
    have x2 : ((b.toNat : Int) % 16).toNat < 16 := by omega
    simp only [List.all_cons, List.all_nil, Bool.and_true, hexd_pr x1, hexd_pr x2]
    decide
  · rw [if_neg h]
    obtain ⟨h1, h2, _, _⟩ := odd_iff (by simpa using h : odd b.toNat = false)
    simp only [List.all_cons, List.all_nil, Bool.and_true]
    exact prB_iff.2 (by simp; omega)
theorem quote_pr (t : ByteArray) : (quoteL t).all prB = true := by
  unfold quoteL
  rw [qfrom_list]
  simp only [List.all_append, List.all_flatMap]
  have : (t.data.toList.all fun b => (qb b.toNat).all prB) = true := List.all_eq_true.2 fun b _ => qb_pr b
  rw [this]
  decide
theorem end_pr (b : Bnd) : (endL b).all prB = true := by
  unfold endL
  split
  · decide
  · split <;> rw [List.all_append, quote_pr] <;> decide
theorem term1_pr (t : ByteArray) (o : Int) : (term1 t o).all prB = true := by
  unfold term1
  simp only [List.all_append, quote_pr, dd_pr]
  decide
theorem terms_pr (ts : List ByteArray) (os : List Int) (k : Nat) : (termsL ts os k).all prB = true := by
  unfold termsL
  rw [List.all_flatMap]
  exact List.all_eq_true.2 fun i _ => term1_pr _ _
theorem occ_pr (o : Option Int) : (occL o).all prB = true := by
  rcases occ_cases o with e | e | e <;> rw [e] <;> decide
theorem name_pr (k : Nat) : (hasOf k).n.all prB = true := by
  unfold hasOf
  split <;> decide
theorem body_pr (h : Head) : (bodyL h).all prB = true := by
  unfold bodyL
  have : ([32] : List UInt8).all prB = true := by decide
  repeat' split
  all_goals simp only [List.all_append, num_pr, quote_pr, end_pr, terms_pr, this, Bool.and_true, List.all_nil]
theorem kids_pr {ks : List Qry} (oc : List Int) : ∀ (i : Nat), (∀ k ∈ ks, (lineL k).all prB = true) → (kidsL ks oc i).all prB = true := by
  induction ks with
  | nil => intro i _; simp [kidsL]
  | cons k ks ih =>
    intro i h
    simp only [kidsL, List.all_append, occ_pr, h k (by simp), ih (i + 1) (fun x hx => h x (by simp [hx]))]
    decide
theorem line_pr (q : Qry) : (lineL q).all prB = true := by
  induction q using Qry.ind with
  | h q ih =>
    obtain ⟨h, ks⟩ := q
    simp only [Qry.kids] at ih
    simp only [lineL]
    split
    · exact name_pr _
    · simp only [List.all_append, name_pr, body_pr, kids_pr h.occur 0 ih]
      decide
end Go.Proofs.YtkcfgcdlnojaeaaGreatDoor.TextInj
