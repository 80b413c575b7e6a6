/-
  The verifier in plain Lean: how high the stack stands ahead of each instruction; a query's code passes.
  verify.inside, effect, operands over what passes.
  verify.near over a good phrase.
  verify.tables over good tables.
  verify.heights' closure: a height is met.
  A code that passes the verifier, with its heights.
-/
import Derived.Test.YtfpikilhbkeajaaGreatDoorCodePlain
import Derived.Test.YtfpikilhbkeajaaGreatDoorGoodLoc
import Derived.Test.YtfpikilhbkeajaaGreatDoorCLeaves
import Derived.Test.YtfpikilhbkeajaaGreatDoorCPrg
import Derived.BigQuiet
import Derived.Test.YtfpikilhbkeajaaGreatDoorCTab
import Derived.Test.YtfpikilhbkeajaaGreatDoorCDec
set_option linter.unusedVariables false
set_option linter.unusedSimpArgs false
namespace Go.Proofs.YtfpikilhbkeajaaGreatDoor.VerPlain
set_option maxRecDepth 100000
open Base Query EmitPlain EmitQ0 TextPlain CodePlain

def eff (i : Ins) (h : Int) : Option Int :=
  if i.op = 1 ∨ i.op = 2 ∨ i.op = 3 ∨ i.op = 4 ∨ i.op = 5 then some (h + 1)
  else if i.op = 6 ∨ i.op = 7 ∨ i.op = 8 ∨ i.op = 9 ∨ i.op = 10 then (if 2 ≤ h then some (h - 1) else none)
  else if i.op = 14 then (if i.a ≤ h then some (h - i.a + 1) else none)
  else if i.op = 0 then (if h = 1 then some h else none)
  else if 1 ≤ h then some h else none
structure Lim where
  na : Nat
  nc : Nat
  nn : Nat
structure Opd (M : Lim) (i : Ins) : Prop where
  op : 1 ≤ i.op ∧ i.op ≤ 16
  has : i.op = 3 → 0 ≤ i.a ∧ i.a < M.na
  term : i.op = 4 → 0 ≤ i.a ∧ i.a < M.nc
  phr : i.op = 5 → 0 ≤ i.a ∧ i.a < M.nn
  least : i.op = 14 → 1 ≤ i.a ∧ 1 ≤ i.b ∧ i.b ≤ i.a
  small : 0 ≤ i.a ∧ (i.op = 14 ∨ i.op = 15 ∨ i.op = 16 → i.a < 9223372036854775808)
def Seg (M : Lim) (L : List Ins) (a b : Int) : Prop := ∃ H : Nat → Int, H 0 = a ∧ H L.length = b ∧ (∀ i, i ≤ L.length → 0 ≤ H i) ∧
  ∀ i x, L[i]? = some x → Opd M x ∧ eff x (H i) = some (H (i + 1)) ∧ (x.op = 15 ∨ x.op = 16 → i + 1 + x.a.toNat ≤ L.length ∧ H (i + 1 + x.a.toNat) = H (i + 1))
def MSeg (M : Lim) (t : Int) (L : List (Bool × Ins)) (a b : Int) : Prop := ∃ H : Nat → Int, H 0 = a ∧ H L.length = b ∧ (∀ i, i ≤ L.length → 0 ≤ H i) ∧
  ∀ i p, L[i]? = some p → (p.1 = true → (p.2.op = 15 ∨ p.2.op = 16) ∧ H i = t ∧ H (i + 1) = t ∧ 1 ≤ t) ∧
    (p.1 = false → Opd M p.2 ∧ eff p.2 (H i) = some (H (i + 1)) ∧ (p.2.op = 15 ∨ p.2.op = 16 → i + 1 + p.2.a.toNat ≤ L.length ∧ H (i + 1 + p.2.a.toNat) = H (i + 1)))
section
variable {M : Lim} {t a b c : Int}
theorem MSeg.nil (h : 0 ≤ a) : MSeg M t [] a a := ⟨fun _ => a, rfl, rfl, fun _ _ => h, fun i p hp => by simp at hp⟩
theorem MSeg.app {L R : List (Bool × Ins)} (h : MSeg M t L a b) (k : MSeg M t R b c) : MSeg M t (L ++ R) a c := by
  obtain ⟨H, h0, h1, h2, h3⟩ := h
  obtain ⟨K, k0, k1, k2, k3⟩ := k
  let G : Nat → Int := fun i => if i ≤ L.length then H i else K (i - L.length)
  have gl : ∀ i, i ≤ L.length → G i = H i := fun i hi => by simp [G, hi]
  have gr : ∀ i, L.length ≤ i → G i = K (i - L.length) := fun i hi => by
    by_cases e : i = L.length
    · subst e; simp [G, h1, k0]
    · have : ¬ i ≤ L.length := by omega
      simp [G, this]
  refine ⟨G, (gl 0 (Nat.zero_le _)).trans h0, ?_, fun i hi => ?_, fun i p hp => ?_⟩
  · rw [gr _ (by rw [List.length_append]; omega), ← k1]
    congr 1
    rw [List.length_append]
    omega
  · rw [List.length_append] at hi
    by_cases e : i ≤ L.length
    · rw [gl i e]; exact h2 i e
    · rw [gr i (by omega)]; exact k2 _ (by omega)
  · by_cases e : i < L.length
    · rw [List.getElem?_append_left e] at hp
      obtain ⟨q1, q2⟩ := h3 i p hp
      rw [gl i (by omega), gl (i + 1) (by omega)]
      refine ⟨q1, fun hf => ?_⟩
      obtain ⟨o, e1, s⟩ := q2 hf
      refine ⟨o, e1, fun hs => ?_⟩
      obtain ⟨s1, s2⟩ := s hs
      rw [List.length_append, gl _ s1]
      exact ⟨by omega, s2⟩
    · rw [List.getElem?_append_right (by omega)] at hp
      obtain ⟨q1, q2⟩ := k3 _ p hp
      have e3 : i + 1 - L.length = i - L.length + 1 := by omega
      rw [gr i (by omega), gr (i + 1) (by omega), e3]
      refine ⟨q1, fun hf => ?_⟩
      obtain ⟨o, e1, s⟩ := q2 hf
      refine ⟨o, e1, fun hs => ?_⟩
      obtain ⟨s1, s2⟩ := s hs
      rw [List.length_append, gr _ (by omega), show i + 1 + p.2.a.toNat - L.length = i - L.length + 1 + p.2.a.toNat by omega]
      exact ⟨by omega, s2⟩
theorem MSeg.fin {L : List Ins} (h : Seg M L a b) : MSeg M t (L.map fun i => (false, i)) a b := by
  obtain ⟨H, h0, h1, h2, h3⟩ := h
  refine ⟨H, h0, by rw [List.length_map]; exact h1, fun i hi => h2 i (by rw [List.length_map] at hi; exact hi), fun i p hp => ?_⟩
  rw [List.getElem?_map] at hp
  obtain ⟨x, hx, rfl⟩ := Option.map_eq_some_iff.1 hp
  refine ⟨fun e => (by cases e), fun _ => ?_⟩
  rw [List.length_map]
  exact h3 i x hx
theorem MSeg.skp {o : Int} (ho : o = 15 ∨ o = 16) (ht : 1 ≤ t) : MSeg M t [(true, ⟨o, 0, 0⟩)] t t := by
  refine ⟨fun _ => t, rfl, rfl, fun _ _ => (by show (0 : Int) ≤ t; omega), fun i p hp => ?_⟩
  cases i with
  | zero =>
    simp at hp
    subst hp
    exact ⟨fun _ => ⟨ho, rfl, rfl, ht⟩, fun e => (by cases e)⟩
  | succ n => simp at hp
theorem Seg.one {x : Ins} (ho : Opd M x) (he : eff x a = some b) (ha : 0 ≤ a) (hb : 0 ≤ b) (hs : x.op ≠ 15 ∧ x.op ≠ 16) : Seg M [x] a b := by
  refine ⟨fun i => if i = 0 then a else b, rfl, rfl, fun i _ => by dsimp only; split <;> omega, fun i y hy => ?_⟩
  cases i with
  | zero =>
    simp at hy
    subst hy
    exact ⟨ho, by simpa using he, fun h => absurd h (by omega)⟩
  | succ n => simp at hy
theorem MSeg.one {x : Ins} (ho : Opd M x) (he : eff x a = some b) (ha : 0 ≤ a) (hb : 0 ≤ b) (hs : x.op ≠ 15 ∧ x.op ≠ 16) : MSeg M t [(false, x)] a b := MSeg.fin (L := [x]) (Seg.one ho he ha hb hs)
theorem Seg.nil (h : 0 ≤ a) : Seg M [] a a := ⟨fun _ => a, rfl, rfl, fun _ _ => h, fun i p hp => by simp at hp⟩
theorem landR_at : ∀ (l : List (Bool × Ins)) (i : Nat) (x : Ins), (landR l)[i]? = some x → ∃ p, l[i]? = some p ∧ ((p.1 = true ∧ x = { p.2 with a := ((l.length - i - 1 : Nat) : Int) }) ∨ (p.1 = false ∧ x = p.2))
  | [], i, x, h => by simp [landR] at h
  | (true, j) :: r, 0, x, h => by
    simp [landR] at h
    exact ⟨(true, j), rfl, .inl ⟨rfl, by rw [← h]; simp⟩⟩
  | (false, j) :: r, 0, x, h => by
    simp [landR] at h
    exact ⟨(false, j), rfl, .inr ⟨rfl, h.symm⟩⟩
  | (true, j) :: r, i + 1, x, h => by
    simp only [landR, List.getElem?_cons_succ] at h
    obtain ⟨p, hp, hx⟩ := landR_at r i x h
    refine ⟨p, by simpa using hp, ?_⟩
    rw [List.length_cons, show r.length + 1 - (i + 1) - 1 = r.length - i - 1 by omega]
    exact hx
  | (false, j) :: r, i + 1, x, h => by
    simp only [landR, List.getElem?_cons_succ] at h
    obtain ⟨p, hp, hx⟩ := landR_at r i x h
    refine ⟨p, by simpa using hp, ?_⟩
    rw [List.length_cons, show r.length + 1 - (i + 1) - 1 = r.length - i - 1 by omega]
    exact hx
theorem MSeg.shut {L : List (Bool × Ins)} (h : MSeg M t L a t) (hl : L.length < 9223372036854775808) : Seg M (landR L) a t := by
  obtain ⟨H, h0, h1, h2, h3⟩ := h
  refine ⟨H, h0, by rw [landR_length]; exact h1, fun i hi => h2 i (by rw [landR_length] at hi; exact hi), fun i x hx => ?_⟩
  obtain ⟨p, hp, hx⟩ := landR_at L i x hx
  have hi := (List.getElem?_eq_some_iff.1 hp).1
  obtain ⟨q1, q2⟩ := h3 i p hp
  rw [landR_length]
  rcases hx with ⟨e, rfl⟩ | ⟨e, rfl⟩
  · obtain ⟨o, e1, e2, e3⟩ := q1 e
    simp only
    refine ⟨⟨by dsimp only; omega, fun h => by simp only at h; omega, fun h => by simp only at h; omega, fun h => by simp only at h; omega, fun h => by simp only at h; omega, by simp only; omega⟩, ?_, fun _ => ⟨by omega, ?_⟩⟩
    · unfold eff
      simp only
      rw [if_neg (by omega), if_neg (by omega), if_neg (by omega), if_neg (by omega), if_pos (by omega), e1, e2]
    · rw [show i + 1 + ((L.length - i - 1 : Nat) : Int).toNat = L.length by omega, h1, e2]
  · exact q2 e
theorem Seg.app {L R : List Ins} (h : Seg M L a b) (k : Seg M R b c) : Seg M (L ++ R) a c := by
  have := MSeg.app (M := M) (t := 1) (MSeg.fin h) (MSeg.fin k)
  rw [← List.map_append] at this
  obtain ⟨H, h0, h1, h2, h3⟩ := this
  rw [List.length_map] at h1 h2
  refine ⟨H, h0, h1, h2, fun i x hx => ?_⟩
  have := (h3 i (false, x) (by rw [List.getElem?_map, hx]; rfl)).2 rfl
  rwa [List.length_map] at this
end

structure NrG (M : Lim) (fld : Int → Int) (r : Nr) : Prop where
  some_ : 1 ≤ r.curs.length
  len : r.offs.length = r.curs.length
  slop : 0 ≤ r.slop ∧ r.slop < 2147483647
  curs : ∀ c ∈ r.curs, 0 ≤ c ∧ c < M.nc
  offs : ∀ o ∈ r.offs, 0 ≤ o ∧ o < 2147483647
  one : ∀ c ∈ r.curs, ∀ d ∈ r.curs, fld c = fld d
  few : r.curs.length ≤ 1099511627776
structure MF (M : Lim) (fld : Int → Int) (t : Int) (F : Lay?) (a b : Int) : Prop where
  seg : ∀ n, n + (F n).2.length ≤ M.nn → MSeg M t (F n).1 a b
  near : ∀ n, ∀ r ∈ (F n).2, NrG M fld r
structure SF (M : Lim) (fld : Int → Int) (f : Lay) (a b : Int) : Prop where
  seg : ∀ n, n + (f n).2.length ≤ M.nn → Seg M (f n).1 a b
  near : ∀ n, ∀ r ∈ (f n).2, NrG M fld r
section
variable {M : Lim} {fld : Int → Int} {t a b c : Int}
theorem MF.cat {F G : Lay?} (h : MF M fld t F a b) (k : MF M fld t G b c) : MF M fld t ((EmitPlain.cat F G)) a c := by
  refine ⟨fun n hn => ?_, fun n r hr => ?_⟩
  · have := (cat_len F G n).2
    exact MSeg.app (h.seg n (by omega)) (k.seg _ (by omega))
  · simp only [EmitPlain.cat, List.mem_append] at hr
    exact hr.elim (h.near n r) (k.near _ r)
theorem MF.nop (h : 0 ≤ a) : MF M fld t EmitPlain.nop a a := ⟨fun n _ => MSeg.nil h, fun n r hr => by simp [EmitPlain.nop] at hr⟩
theorem MF.fin {f : Lay} (h : SF M fld f a b) : MF M fld t (EmitPlain.fin f) a b := ⟨fun n hn => MSeg.fin (h.seg n hn), fun n r hr => h.near n r hr⟩
theorem MF.skp {o : Int} (ho : o = 15 ∨ o = 16) (ht : 1 ≤ t) : MF M fld t (EmitPlain.skp o) t t := ⟨fun n _ => MSeg.skp ho ht, fun n r hr => by simp [EmitPlain.skp] at hr⟩
def two (p : Int) : Prop := p = 6 ∨ p = 7 ∨ p = 8 ∨ p = 9 ∨ p = 10
theorem opd_two {p : Int} (h : two p) : Opd M ⟨p, 0, 0⟩ := by
  unfold two at h
  exact ⟨by dsimp only; omega, fun e => by dsimp only at e; omega, fun e => by dsimp only at e; omega, fun e => by dsimp only at e; omega, fun e => by dsimp only at e; omega, by dsimp only; omega⟩
theorem MF.two {p : Int} (h : VerPlain.two p) (ht : 1 ≤ a) : MF M fld t (EmitPlain.one p 0 0) (a + 1) a := by
  refine ⟨fun n _ => MSeg.one (opd_two h) ?_ (by omega) (by omega) (by unfold VerPlain.two at h; dsimp only; omega), fun n r hr => by simp [EmitPlain.one] at hr⟩
  unfold VerPlain.two at h
  unfold eff
  dsimp only
  rw [if_neg (by omega), if_pos (by omega), if_pos (by omega)]
  congr 1
  omega
theorem MF.shut {F : Lay?} (h : MF M fld t F a t) (hl : ∀ n, (F n).1.length < 9223372036854775808) : SF M fld (EmitPlain.shut F) a t :=
  ⟨fun n hn => (h.seg n hn).shut (hl n), fun n r hr => h.near n r hr⟩
theorem further_f {sk : Option Int} {p : Int} {f : Lay} (hs : skO sk) (hp : two p) (ht : 1 ≤ t) (h : SF M fld f t (t + 1)) : MF M fld t (further sk (some p) f) t t := by
  rcases hs with rfl | rfl | rfl
  · exact (MF.nop (by omega)).cat ((MF.fin h).cat (MF.two hp ht))
  · exact (MF.skp (.inl rfl) ht).cat ((MF.fin h).cat (MF.two hp ht))
  · exact (MF.skp (.inr rfl) ht).cat ((MF.fin h).cat (MF.two hp ht))
theorem furthers_f {sk : Option Int} {p : Int} (hs : skO sk) (hp : two p) (ht : 1 ≤ t) : ∀ Fs : List Lay, (∀ f ∈ Fs, SF M fld f t (t + 1)) → MF M fld t (furthers sk (some p) Fs) t t
  | [], _ => MF.nop (by omega)
  | f :: r, h => (further_f hs hp ht (h f (List.mem_cons_self ..))).cat (furthers_f hs hp ht r fun g hg => h g (List.mem_cons_of_mem _ hg))
theorem chn_f {sk : Option Int} {p h : Int} (hs : skO sk) (hp : two p) (h0 : 0 ≤ h) (Fs : List Lay) (hne : Fs ≠ []) (hF : ∀ f ∈ Fs, ∀ k, 0 ≤ k → SF M fld f k (k + 1)) : MF M fld (h + 1) (chn sk (some p) Fs) h (h + 1) := by
  cases Fs with
  | nil => exact absurd rfl hne
  | cons f r => exact (MF.fin (hF f (List.mem_cons_self ..) h h0)).cat (furthers_f hs hp (by omega) r fun g hg => hF g (List.mem_cons_of_mem _ hg) _ (by omega))
theorem heap_f : ∀ (Fs : List Lay) (h : Int), 0 ≤ h → (∀ f ∈ Fs, ∀ k, 0 ≤ k → SF M fld f k (k + 1)) → MF M fld t (furthers none none Fs) h (h + Fs.length)
  | [], h, h0, _ => by
    have := MF.nop (M := M) (fld := fld) (t := t) h0
    simpa [furthers] using this
  | f :: r, h, h0, hF => by
    have e : further none none f = EmitPlain.fin f := by
      unfold further
      dsimp only
      rw [nop_cat, cat_nop]
    rw [furthers, e, List.length_cons]
    have h2 := heap_f r (h + 1) (by omega) fun g hg => hF g (List.mem_cons_of_mem _ hg)
    rw [show h + ((r.length + 1 : Nat) : Int) = h + 1 + r.length by omega]
    exact (MF.fin (hF f (List.mem_cons_self ..) h h0)).cat h2
theorem chn_heap (Fs : List Lay) (h : Int) (h0 : 0 ≤ h) (hne : Fs ≠ []) (hF : ∀ f ∈ Fs, ∀ k, 0 ≤ k → SF M fld f k (k + 1)) : MF M fld t (chn none none Fs) h (h + Fs.length) := by
  cases Fs with
  | nil => exact absurd rfl hne
  | cons f r =>
    have h2 := heap_f (t := t) r (h + 1) (by omega) fun g hg => hF g (List.mem_cons_of_mem _ hg)
    rw [List.length_cons, show h + ((r.length + 1 : Nat) : Int) = h + 1 + r.length by omega]
    exact (MF.fin (hF f (List.mem_cons_self ..) h h0)).cat h2
theorem some_f (nd : Int) (full : Bool) (S : List Lay) (h : Int) (h0 : 0 ≤ h) (hnd : 1 ≤ nd) (hle : nd ≤ S.length) (hS : ∀ f ∈ S, ∀ k, 0 ≤ k → SF M fld f k (k + 1)) (hl : ∀ n, (chn (if nd = 1 ∧ full = false then some 16 else none) (if nd = 1 then some 7 else none) S n).1.length < 9223372036854775808) (hsl : S.length < 9223372036854775808) : SF M fld (someF nd full S) h (h + 1) := by
  have hne : S ≠ [] := by intro e; rw [e] at hle; simp at hle; omega
  by_cases h1 : nd = 1
  · subst h1
    have hc : MF M fld (h + 1) (chn (if (1 : Int) = 1 ∧ full = false then some 16 else none) (if (1 : Int) = 1 then some 7 else none) S) h (h + 1) := by
      rw [if_pos rfl]
      exact chn_f (by split <;> simp [skO]) (by unfold two; omega) h0 S hne hS
    have := hc.shut hl
    refine ⟨fun n hn => ?_, fun n r hr => this.near n r hr⟩
    have e : (someF 1 full S n).1 = (EmitPlain.shut (chn (if (1 : Int) = 1 ∧ full = false then some 16 else none) (if (1 : Int) = 1 then some 7 else none) S) n).1 := by
      unfold someF
      simp
    rw [e]
    exact this.seg n hn
  · have hc : MF M fld (h + S.length) (chn (if nd = 1 ∧ full = false then some 16 else none) (if nd = 1 then some 7 else none) S) h (h + S.length) := by
      rw [if_neg h1, if_neg (fun e => h1 e.1)]
      exact chn_heap S h h0 hne hS
    have := hc.shut hl
    refine ⟨fun n hn => ?_, fun n r hr => this.near n r hr⟩
    have e : (someF nd full S n).1 = (EmitPlain.shut (chn (if nd = 1 ∧ full = false then some 16 else none) (if nd = 1 then some 7 else none) S) n).1 ++ [⟨14, (S.length : Int), nd⟩] := by
      unfold someF
      simp only
      rw [if_pos (show 1 < nd by omega)]
    rw [e]
    refine (this.seg n hn).app (Seg.one ⟨by dsimp only; omega, fun e => by dsimp only at e; omega, fun e => by dsimp only at e; omega, fun e => by dsimp only at e; omega, fun _ => by dsimp only; omega, by dsimp only; omega⟩ ?_ (by omega) (by omega) (by dsimp only; omega))
    unfold eff
    dsimp only
    rw [if_neg (by omega), if_neg (by omega), if_pos rfl, if_pos (by omega)]
    congr 1
    omega
theorem list_f (nd : Int) (full : Bool) (Ms S X : List Lay) (h : Int) (h0 : 0 ≤ h) (hnd : 0 ≤ nd) (hle : nd ≤ S.length) (hM0 : Ms = [] → 0 < nd) (hM : ∀ f ∈ Ms, ∀ k, 0 ≤ k → SF M fld f k (k + 1)) (hS : ∀ f ∈ S, ∀ k, 0 ≤ k → SF M fld f k (k + 1)) (hX : ∀ f ∈ X, ∀ k, 0 ≤ k → SF M fld f k (k + 1))
    (hl : ∀ n, (chn (if nd = 1 ∧ full = false then some 16 else none) (if nd = 1 then some 7 else none) S n).1.length < 9223372036854775808) (hsl : S.length < 9223372036854775808) : MF M fld (h + 1) (listM nd full Ms S X) h (h + 1) := by
  unfold listM
  have hx : MF M fld (h + 1) (furthers (some 15) (some 10) X) (h + 1) (h + 1) := furthers_f (.inr (.inl rfl)) (by unfold two; omega) (by omega) X fun f hf => hX f hf _ (by omega)
  have ho : MF M fld (h + 1) (if nd = 0 ∧ S ≠ [] ∧ full = true then (EmitPlain.cat (EmitPlain.skp 15) (furthers none (some 9) S)) else EmitPlain.nop) (h + 1) (h + 1) := by
    split
    · exact (MF.skp (.inl rfl) (by omega)).cat (furthers_f (.inl rfl) (by unfold two; omega) (by omega) S fun f hf => hS f hf _ (by omega))
    · exact MF.nop (by omega)
  by_cases hm : Ms = []
  · subst hm
    have hp := hM0 rfl
    rw [if_pos hp, if_pos rfl, if_pos rfl]
    have hs := some_f nd full S h h0 (by omega) hle hS hl hsl
    exact (show MF M fld (h + 1) (chn (some 15) (some 6) []) h h from MF.nop h0).cat (((MF.nop h0).cat ((MF.fin hs).cat (MF.nop (by omega)))).cat (hx.cat ho))
  · have hc := chn_f (M := M) (fld := fld) (sk := some 15) (p := 6) (.inr (.inl rfl)) (by unfold two; omega) h0 Ms hm hM
    refine hc.cat (MF.cat ?_ (hx.cat ho))
    split
    · rename_i hp
      have hs := some_f (M := M) (fld := fld) nd full S (h + 1) (by omega) (by omega) hle hS hl hsl
      exact (MF.skp (.inl rfl) (by omega)).cat ((MF.fin hs).cat (MF.two (by unfold two; omega) (by omega)))
    · exact MF.nop (by omega)
end

theorem loc_facts {n : Int} {h : Head} {nk : Nat} (hb : locB n true h nk = true) : (h.kind = 3 → 0 ≤ h.field ∧ h.field < n) ∧ (h.kind = 5 → 0 < h.terms.length ∧ h.offs.length = h.terms.length ∧ 0 ≤ h.n ∧ h.n ≤ 999999999 ∧ ∀ o ∈ h.offs, 0 ≤ o ∧ o < 2147483647) := by
  obtain ⟨kind, field, text, terms, offs, qn, weight, lo, hi, occur⟩ := h
  refine ⟨fun e => ?_, fun e => ?_⟩
  · simp only at e
    subst e
    simp [locB, numB, lstB, hasOf, inR] at hb
    simp only
    omega
  · simp only at e
    subst e
    simp [locB, numB, lstB, hasOf, inR, offB] at hb
    simp only
    have e2 : terms.length ≠ 0 := fun e => hb.2.1.2 (List.eq_nil_of_length_eq_zero e)
    refine ⟨by omega, hb.2.1.1.2, by omega, by omega, fun o ho => hb.2.2 o ho⟩
theorem opd_bare {M : Lim} {p : Int} (h : p = 1 ∨ p = 2 ∨ p = 11) : Opd M ⟨p, 0, 0⟩ :=
  ⟨by dsimp only; omega, fun e => by dsimp only at e; omega, fun e => by dsimp only at e; omega, fun e => by dsimp only at e; omega, fun e => by dsimp only at e; omega, by dsimp only; omega⟩
theorem eff_push {p x y h : Int} (hp : 1 ≤ p ∧ p ≤ 5) : eff ⟨p, x, y⟩ h = some (h + 1) := by
  unfold eff
  dsimp only
  rw [if_pos (by omega)]
theorem eff_keep {p x y h : Int} (hp : p = 11 ∨ p = 12 ∨ p = 13) (hh : 1 ≤ h) : eff ⟨p, x, y⟩ h = some h := by
  unfold eff
  dsimp only
  rw [if_neg (by omega), if_neg (by omega), if_neg (by omega), if_neg (by omega), if_pos hh]
theorem leafs_kid {ks : List Qry} {k : Qry} (h : k ∈ ks) {l : Lf} (hl : l ∈ leafs k) : l ∈ leafss ks := by
  induction ks with
  | nil => cases h
  | cons q r ih =>
    simp only [leafss, List.mem_append]
    cases List.mem_cons.1 h with
    | inl e => subst e; exact .inl hl
    | inr e => exact .inr (ih e)
theorem emit_vf (M : Lim) (fld : Int → Int) (x : Lf → Int) (hnum : ∀ l, 0 ≤ x l ∧ x l < 9223372036854775808) (hM : M.na < 9223372036854775808) (q : Qry) : GoodQ q → WfQ q → q.size ≤ 1099511627776 → good M.na true q = true → (∀ l ∈ leafs q, x l < M.nc ∧ fld (x l) = l.field) → ∀ full h, 0 ≤ h → SF M fld (emit x q full) h (h + 1) := by
  induction q using Qry.ind with
  | h q ih =>
    intro hg hw hsz hgd hlf
    have KB0 := emit_kb x hnum q hg hw hsz
    obtain ⟨hd, ks, hl, hk⟩ := hg
    obtain ⟨_, _, hwf, hwk⟩ := hw
    simp only [Qry.kids] at ih
    simp only [Qry.size] at hsz
    unfold good at hgd
    rw [goodBy, Bool.and_eq_true, goodsBy_all, List.all_eq_true] at hgd
    obtain ⟨f3, f5⟩ := loc_facts hgd.1
    have IH : ∀ full, ∀ k ∈ ks, ∀ h, 0 ≤ h → SF M fld (emit x k full) h (h + 1) := fun full k hm h h0 => ih k hm (hk k hm) (hwk k hm) (by have := sizes_mem hm; omega) (hgd.2 k hm) (fun l hl => hlf l (by rw [leafs]; exact List.mem_append_right _ (leafs_kid hm hl))) full h h0
    have KBK : ∀ full, ∀ k ∈ ks, KB 1099511627776 (emit x k full) k.size := fun full k hm => emit_kb x hnum k (hk k hm) (hwk k hm) (by have := sizes_mem hm; omega) full
    intro full h h0
    have hwt := wt_ok hwf full
    rcases hl.kind with e | e | e | e | e | e | e | e | e | e
    · refine ⟨fun n hn => ?_, fun n r hr => ?_⟩
      · rw [emit1 x hd ks full n e]; exact Seg.one (opd_bare (by omega)) (eff_push (by omega)) h0 (by omega) (by dsimp only; omega)
      · rw [emit1 x hd ks full n e] at hr; simp at hr
    · refine ⟨fun n hn => ?_, fun n r hr => ?_⟩
      · rw [emit2 x hd ks full n e]; exact Seg.one (opd_bare (by omega)) (eff_push (by omega)) h0 (by omega) (by dsimp only; omega)
      · rw [emit2 x hd ks full n e] at hr; simp at hr
    · have := f3 e
      refine ⟨fun n hn => ?_, fun n r hr => ?_⟩
      · rw [emit3 x hd ks full n e]
        exact Seg.one ⟨by dsimp only; omega, fun _ => this, fun e => by dsimp only at e; omega, fun e => by dsimp only at e; omega, fun e => by dsimp only at e; omega, by dsimp only; omega⟩ (eff_push (by omega)) h0 (by omega) (by dsimp only; omega)
      · rw [emit3 x hd ks full n e] at hr; simp at hr
    · have h1 := hnum ⟨hd.field, hd.text⟩
      have h2 := hlf ⟨hd.field, hd.text⟩ (by rw [leafs]; exact List.mem_append_left _ (by unfold hleafs; rw [if_pos e]; exact List.mem_singleton.2 rfl))
      refine ⟨fun n hn => ?_, fun n r hr => ?_⟩
      · rw [emit4 x hd ks full n e]
        exact Seg.one ⟨by dsimp only; omega, fun e => by dsimp only at e; omega, fun _ => ⟨h1.1, h2.1⟩, fun e => by dsimp only at e; omega, fun e => by dsimp only at e; omega, by dsimp only; omega⟩ (eff_push (by omega)) h0 (by omega) (by dsimp only; omega)
      · rw [emit4 x hd ks full n e] at hr; simp at hr
    · obtain ⟨g1, g2, g3, g4, g5⟩ := f5 e
      have h2 : ∀ t ∈ hd.terms, x ⟨hd.field, t⟩ < M.nc ∧ fld (x ⟨hd.field, t⟩) = hd.field := fun t ht => hlf ⟨hd.field, t⟩ (by
        rw [leafs]
        refine List.mem_append_left _ ?_
        unfold hleafs
        rw [if_neg (by omega), if_pos e]
        exact List.mem_map.2 ⟨t, ht, rfl⟩)
      refine ⟨fun n hn => ?_, fun n r hr => ?_⟩
      · rw [emit5 x hd ks full n e] at hn ⊢
        simp only [List.length_cons, List.length_nil] at hn
        exact Seg.one ⟨by dsimp only; omega, fun e => by dsimp only at e; omega, fun e => by dsimp only at e; omega, fun _ => by dsimp only; omega, fun e => by dsimp only at e; omega, by dsimp only; omega⟩ (eff_push (by omega)) h0 (by omega) (by dsimp only; omega)
      · rw [emit5 x hd ks full n e] at hr
        simp only [List.mem_cons, List.not_mem_nil, or_false] at hr
        subst hr
        refine ⟨by simp only [List.length_map]; omega, by simp only [List.length_map]; omega, by dsimp only; omega, fun c hc => ?_, g5, fun c hc d hd' => ?_, by have := hl.phr e; simp only [List.length_map]; omega⟩
        · obtain ⟨t, ht, rfl⟩ := List.mem_map.1 hc
          exact ⟨(hnum _).1, (h2 t ht).1⟩
        · obtain ⟨t, ht, rfl⟩ := List.mem_map.1 hc
          obtain ⟨u, hu, rfl⟩ := List.mem_map.1 hd'
          rw [(h2 t ht).2, (h2 u hu).2]
    · have hlst := hl.lst e
      have hMs := fun (b : Bool) (k : Qry) (hk : k ∈ split hd.occur 1 ks) => KBK b k (split_mem hk)
      have hSs := fun (b : Bool) (k : Qry) (hk : k ∈ split hd.occur 0 ks) => KBK b k (split_mem hk)
      have hXs := fun (b : Bool) (k : Qry) (hk : k ∈ split hd.occur 2 ks) => KBK b k (split_mem hk)
      have hss := split_sizes hd.occur ks
      have hnd : 0 ≤ need hd (split hd.occur 1 ks).length ∧ need hd (split hd.occur 1 ks).length ≤ 1099511627776 := by
        unfold need
        split <;> omega
      have hM0 : split hd.occur 1 ks = [] → 0 < need hd (split hd.occur 1 ks).length := fun e => by
        rw [e]
        unfold need
        split
        · omega
        · rename_i h1
          simp only [List.length_nil, and_true] at h1
          omega
      have key : ∀ n, (emit x (.mk hd ks) full n = ([⟨1, 0, 0⟩], [])) ∨ (need hd (split hd.occur 1 ks).length ≤ (split hd.occur 0 ks).length ∧ emit x (.mk hd ks) full n = shut (listM (need hd (split hd.occur 1 ks).length) full ((split hd.occur 1 ks).map fun k => emit x k full) ((split hd.occur 0 ks).map fun k => emit x k full) ((split hd.occur 2 ks).map fun k => emit x k false)) n) := by
        intro n
        rw [emit10 x hd ks full n e]
        unfold listF
        simp only [split_map, List.map_map, List.length_map, Function.comp_def]
        split
        · exact .inl rfl
        · exact .inr ⟨by omega, rfl⟩
      have hb2 := listM_b hMs hSs hXs (need hd (split hd.occur 1 ks).length) full
      have hcb := fun sk o n => (chn_b (sk := sk) (o := o) (split hd.occur 0 ks) (hSs full) n).2.1
      have hsl := sizes_len (split hd.occur 0 ks)
      have LF := fun (hle : need hd (split hd.occur 1 ks).length ≤ (split hd.occur 0 ks).length) => (list_f (M := M) (fld := fld) (need hd (split hd.occur 1 ks).length) full ((split hd.occur 1 ks).map fun k => emit x k full) ((split hd.occur 0 ks).map fun k => emit x k full) ((split hd.occur 2 ks).map fun k => emit x k false) h h0 hnd.1 (by rw [List.length_map]; exact hle)
        (fun e => hM0 (by simpa using e)) (fun f hf => by obtain ⟨k, hk, rfl⟩ := List.mem_map.1 hf; exact IH full k (split_mem hk)) (fun f hf => by obtain ⟨k, hk, rfl⟩ := List.mem_map.1 hf; exact IH full k (split_mem hk)) (fun f hf => by obtain ⟨k, hk, rfl⟩ := List.mem_map.1 hf; exact IH false k (split_mem hk))
        (fun n => by have := hcb (if need hd (split hd.occur 1 ks).length = 1 ∧ full = false then some 16 else none) (if need hd (split hd.occur 1 ks).length = 1 then some 7 else none) n; omega) (by rw [List.length_map]; omega)).shut (fun n => by have := hb2 hle hnd.1 n; omega)
      refine ⟨fun n hn => ?_, fun n r hr => ?_⟩
      · rcases key n with e1 | ⟨e2, e1⟩
        · rw [e1]; exact Seg.one (opd_bare (by omega)) (eff_push (by omega)) h0 (by omega) (by dsimp only; omega)
        · rw [e1] at hn ⊢; exact (LF e2).seg n hn
      · rcases key n with e1 | ⟨e2, e1⟩
        · rw [e1] at hr; simp at hr
        · rw [e1] at hr; exact (LF e2).near n r hr
    · have hne : ks ≠ [] := by
        intro e0
        have := hgd.1
        rw [e0] at this
        obtain ⟨kind, field, text, terms, offs, qn, weight, lo, hi, occur⟩ := hd
        simp only at e
        subst e
        simp [locB, numB, lstB, hasOf, inR] at this
      have hc := fun n => chn_b (sk := if full then none else some 16) (o := some 8) ks (KBK full) n
      have := (chn_f (M := M) (fld := fld) (sk := if full then none else some 16) (p := 8) (h := h) (by unfold skO; split <;> first | exact .inr (.inr rfl) | exact .inl rfl) (by unfold two; omega) h0 (ks.map fun k => emit x k full) (by simpa using hne) (fun f hf => by obtain ⟨k, hk, rfl⟩ := List.mem_map.1 hf; exact IH full k hk)).shut (fun n => by have := hc n; omega)
      refine ⟨fun n hn => ?_, fun n r hr => ?_⟩
      · rw [emit11 x hd ks full n e] at hn ⊢; exact this.seg n hn
      · rw [emit11 x hd ks full n e] at hr; exact this.near n r hr
    all_goals
      obtain ⟨k, r, rfl⟩ : ∃ k r, ks = k :: r := by
        cases ks with
        | nil => have := hl.one (by simp [e]); simp at this
        | cons k r => exact ⟨k, r, rfl⟩
      have hkf := fun b => IH b k (List.mem_cons_self ..) h h0
    · refine ⟨fun n hn => ?_, fun n r' hr => ?_⟩
      · rw [emit12 x hd _ full n e] at hn ⊢
        exact ((hkf false).seg n hn).app (Seg.one (opd_bare (by omega)) (eff_keep (by omega) (by omega)) (by omega) (by omega) (by dsimp only; omega))
      · rw [emit12 x hd _ full n e] at hr; exact (hkf false).near n r' hr
    · refine ⟨fun n hn => ?_, fun n r' hr => ?_⟩
      · rw [emit13 x hd _ full n e] at hn ⊢
        refine ((hkf full).seg n hn).app ?_
        split
        · exact Seg.one ⟨by dsimp only; omega, fun e => by dsimp only at e; omega, fun e => by dsimp only at e; omega, fun e => by dsimp only at e; omega, fun e => by dsimp only at e; omega, by dsimp only; omega⟩ (eff_keep (by omega) (by omega)) (by omega) (by omega) (by dsimp only; omega)
        · exact Seg.nil (by omega)
      · rw [emit13 x hd _ full n e] at hr; exact (hkf full).near n r' hr
    · refine ⟨fun n hn => ?_, fun n r' hr => ?_⟩
      · rw [emit14 x hd _ full n e] at hn ⊢
        refine ((hkf false).seg n hn).app ?_
        split
        · exact Seg.one ⟨by dsimp only; omega, fun e => by dsimp only at e; omega, fun e => by dsimp only at e; omega, fun e => by dsimp only at e; omega, fun e => by dsimp only at e; omega, by dsimp only; omega⟩ (eff_keep (by omega) (by omega)) (by omega) (by omega) (by dsimp only; omega)
        · exact Seg.nil (by omega)
      · rw [emit14 x hd _ full n e] at hr; exact (hkf false).near n r' hr
end Go.Proofs.YtfpikilhbkeajaaGreatDoor.VerPlain

namespace Go.Proofs.YtfpikilhbkeajaaGreatDoor.VerOps
set_option maxRecDepth 100000
open Go.RowKit Go.PlainAid Base Query QrySize EmitPlain EmitBase LeafMap AllLeaves ProgTail VerPlain HitBase

def insV (x : Ins) : Value := .agg #[.int .i64 x.op, .int .u64 x.a, .int .u64 x.b]
def insB (x n : Int) : Bool := decide (0 ≤ x) && decide (x < n)
set_option maxHeartbeats 1000000 in
theorem inside_any (x n : Int) (w : World) : Calls Tryz.prog 87 #[.int .i64 x, .int .i64 n] w fun e w' => e = .returned (.bool (insB x n)) ∧ Below w.heap.size w w' := by
  unfold insB
  rcases (by omega : x < 0 ∨ (0 ≤ x ∧ n ≤ x) ∨ (0 ≤ x ∧ x < n)) with h | ⟨h, h2⟩ | ⟨h, h2⟩
  · have b1 : decide (0 ≤ x) = false := decide_eq_false (by omega)
    rw [b1]
    go_enter Tryz.func87, Tryz.ntmps87
    go_wp2_with fail
    go_ret
    exact ⟨rfl, by exact Base.bel⟩
  · have b1 : decide (0 ≤ x) = true := decide_eq_true h
    have b2 : decide (x < n) = false := decide_eq_false (by omega)
    rw [b1, b2]
    go_enter Tryz.func87, Tryz.ntmps87
    go_wp2_with fail
    go_ret
    exact ⟨rfl, by exact Base.bel⟩
  · have b1 : decide (0 ≤ x) = true := decide_eq_true h
    have b2 : decide (x < n) = true := decide_eq_true h2
    rw [b1, b2]
    go_enter Tryz.func87, Tryz.ntmps87
    go_wp2_with fail
    go_ret
    exact ⟨rfl, by exact Base.bel⟩

set_option maxHeartbeats 8000000 in
theorem effect_ok (x : Ins) (h h' : Int) (w : World) (ho : 0 ≤ x.op ∧ x.op ≤ 16) (ha : x.op = 14 → 0 ≤ x.a ∧ x.a < 9223372036854775808) (he : eff x h = some h') (hb : 0 ≤ h ∧ h ≤ 1099511627776) :
    Calls Tryz.prog 64 #[insV x, .int .i64 h] w fun e w' => e = .returned (.tuple #[.int .i64 h', .bool true]) ∧ Below w.heap.size w w' := by
  obtain ⟨op, a, b⟩ := x
  simp only at ho ha
  unfold insV
  dsimp only
  rcases (by omega : op = 0 ∨ op = 1 ∨ op = 2 ∨ op = 3 ∨ op = 4 ∨ op = 5 ∨ op = 6 ∨ op = 7 ∨ op = 8 ∨ op = 9 ∨ op = 10 ∨ op = 11 ∨ op = 12 ∨ op = 13 ∨ op = 14 ∨ op = 15 ∨ op = 16) with rfl | rfl | rfl | rfl | rfl | rfl | rfl | rfl | rfl | rfl | rfl | rfl | rfl | rfl | rfl | rfl | rfl
  case inr.inr.inr.inr.inr.inr.inr.inr.inr.inr.inr.inr.inr.inr.inl =>
    obtain ⟨a0, a1⟩ := ha rfl
    simp [eff] at he
    obtain ⟨he, rfl⟩ := he
    have b1 : decide (h < a) = false := decide_eq_false (by omega)
    go_enter Tryz.func64, Tryz.ntmps64
    go_wp2_with fail
    go_ret2
    exact ⟨rfl, by exact Base.bel⟩
  all_goals
    clear ha
    simp [eff] at he
  all_goals first
    | (subst he; have hh : h < 9223372036854775807 := (by omega); go_enter Tryz.func64, Tryz.ntmps64; go_wp2_with fail; go_ret2; exact ⟨rfl, by exact Base.bel⟩)
    | (obtain ⟨he, rfl⟩ := he; go_enter Tryz.func64, Tryz.ntmps64; go_wp2_with fail; go_ret2; exact ⟨rfl, by exact Base.bel⟩)

set_option maxHeartbeats 8000000 in
theorem operands_ok (M : Lim) (x : Ins) (AA AC AN AV AK : Option Addr) (cA cC cN cV cK nv nk : Nat) (all : Bool) (w : World) (ho : Opd M x ∨ x.op = 0) (hM : M.na < 9223372036854775808 ∧ M.nc < 9223372036854775808 ∧ M.nn < 9223372036854775808) :
    Calls Tryz.prog 65 #[.agg #[.slice AA M.na cA, .slice AC M.nc cC, .slice AN M.nn cN, .bool all, .slice AV nv cV, .slice AK nk cK], insV x] w fun e w' => e = .returned (.bool true) ∧ Below w.heap.size w w' := by
  obtain ⟨na, nc, nn⟩ := M
  obtain ⟨op, a, b⟩ := x
  unfold insV
  dsimp only at hM ⊢
  have hop : 0 ≤ op ∧ op ≤ 16 := by
    rcases ho with h | h
    · have := h.op; dsimp only at this; omega
    · dsimp only at h; omega
  have h3 : op = 3 → 0 ≤ a ∧ a < na := fun e => by
    rcases ho with h | h
    · exact h.has e
    · dsimp only at h; omega
  have h4 : op = 4 → 0 ≤ a ∧ a < nc := fun e => by
    rcases ho with h | h
    · exact h.term e
    · dsimp only at h; omega
  have h5 : op = 5 → 0 ≤ a ∧ a < nn := fun e => by
    rcases ho with h | h
    · exact h.phr e
    · dsimp only at h; omega
  have h14 : op = 14 → 1 ≤ a ∧ 1 ≤ b ∧ b ≤ a := fun e => by
    rcases ho with h | h
    · exact h.least e
    · dsimp only at h; omega
  clear ho
  rcases (by omega : op = 0 ∨ op = 1 ∨ op = 2 ∨ op = 3 ∨ op = 4 ∨ op = 5 ∨ op = 6 ∨ op = 7 ∨ op = 8 ∨ op = 9 ∨ op = 10 ∨ op = 11 ∨ op = 12 ∨ op = 13 ∨ op = 14 ∨ op = 15 ∨ op = 16) with rfl | rfl | rfl | rfl | rfl | rfl | rfl | rfl | rfl | rfl | rfl | rfl | rfl | rfl | rfl | rfl | rfl
  case inr.inr.inr.inl =>
    have := h3 rfl
    have b1 : decide (a < (na : Int)) = true := decide_eq_true this.2
    clear h3 h4 h5 h14
    go_enter Tryz.func65, Tryz.ntmps65
    go_wp2_with fail
    go_ret
    exact ⟨rfl, by exact Base.bel⟩
  case inr.inr.inr.inr.inl =>
    have := h4 rfl
    have b1 : decide (a < (nc : Int)) = true := decide_eq_true this.2
    clear h3 h4 h5 h14
    go_enter Tryz.func65, Tryz.ntmps65
    go_wp2_with fail
    go_ret
    exact ⟨rfl, by exact Base.bel⟩
  case inr.inr.inr.inr.inr.inl =>
    have := h5 rfl
    have b1 : decide (a < (nn : Int)) = true := decide_eq_true this.2
    clear h3 h4 h5 h14
    go_enter Tryz.func65, Tryz.ntmps65
    go_wp2_with fail
    go_ret
    exact ⟨rfl, by exact Base.bel⟩
  case inr.inr.inr.inr.inr.inr.inr.inr.inr.inr.inr.inr.inr.inr.inl =>
    obtain ⟨g1, g2, g3⟩ := h14 rfl
    have b1 : decide (1 ≤ a) = true := decide_eq_true g1
    have b2 : decide (1 ≤ b) = true := decide_eq_true g2
    have b3 : decide (b ≤ a) = true := decide_eq_true g3
    clear h3 h4 h5 h14
    go_enter Tryz.func65, Tryz.ntmps65
    go_wp2_with fail
    go_ret
    exact ⟨rfl, by exact Base.bel⟩
  all_goals
    clear h3 h4 h5 h14
    go_enter Tryz.func65, Tryz.ntmps65
    go_wp2_with fail
    go_ret
    exact ⟨rfl, by exact Base.bel⟩
end Go.Proofs.YtfpikilhbkeajaaGreatDoor.VerOps

namespace Go.Proofs.YtfpikilhbkeajaaGreatDoor.VerNear
set_option maxRecDepth 100000
open Go.RowKit Go.PlainAid Base Query QrySize EmitPlain EmitBase LeafMap AllLeaves ProgTail VerPlain VerOps HitBase

def prC (AA AC AN AV AK : Option Addr) (na nc nn nv nk cA cC cN cV cK : Nat) (all : Bool) : Array Value := #[.slice AA na cA, .slice AC nc cC, .slice AN nn cN, .bool all, .slice AV nv cV, .slice AK nk cK]
theorem three {w : World} {g : Nat} {t : TypeId} {v0 v1 v2 : Value} (h : Blk w g t #[v0, v1, v2]) : w.cell? ⟨g, 0, none⟩ = some v0 ∧ w.cell? ⟨g, 1, none⟩ = some v1 ∧ w.cell? ⟨g, 2, none⟩ = some v2 := ⟨h.cell 0, h.cell 1, h.cell 2⟩
theorem ints_at {l : List Int} {i : Nat} {x : Int} (h : l[i]? = some x) : (ints l)[i]? = some (.int .i64 x) := by simp [ints, h]
theorem ints_ne {l : List Int} {i : Nat} {x : Int} (h : l[i]? = some x) : ints l ≠ [] := fun e => by have := ints_at h; rw [e] at this; simp at this
theorem lfs_ne {l : List Lf} {i : Nat} {x : Lf} (h : l[i]? = some x) : lfCs l ≠ [] := fun e => by have := (lfCs_at l i x h).1; rw [e] at this; simp at this
theorem insB_true {x n : Int} (h : 0 ≤ x ∧ x < n) : insB x n = true := by unfold insB; rw [decide_eq_true h.1, decide_eq_true h.2]; rfl

set_option maxHeartbeats 8000000 in
theorem near_ok (M : Lim) (C : List Lf) (fld : Int → Int) (n : Nr) (hn : NrG M fld n) (hC : M.nc = C.length) (hf : ∀ (i : Nat) c, C[i]? = some c → fld i = c.field) (AA AC AN AV AK A1 A2 : Option Addr) (na nn nv nk cA cC cN cV cK c1 c2 : Nat) (all : Bool) (w : World) (SC : Slc w w.heap.size AC (lfCs C)) (S1 : Slc w w.heap.size A1 (ints n.curs)) (S2 : Slc w w.heap.size A2 (ints n.offs)) (hl : n.curs.length ≤ 1099511627776) (hCl : C.length ≤ 1099511627776) :
    Calls Tryz.prog 88 #[.agg (prC AA AC AN AV AK na C.length nn nv nk cA cC cN cV cK all), .agg #[.slice A1 n.curs.length c1, .slice A2 n.offs.length c2, .int .i64 n.slop]] w fun e w' => e = .returned (.bool true) ∧ Below w.heap.size w w' := by
  obtain ⟨nk2, hnk2⟩ : ∃ k, k = n.curs.length := ⟨_, rfl⟩
  have hnl : nk2 ≤ 1099511627776 := by rw [hnk2]; exact hl
  have hlo : n.offs.length = nk2 := by rw [hnk2]; exact hn.len
  rw [hlo, ← hnk2]
  obtain ⟨PR, hPR⟩ : ∃ b, b = w.heap.size := ⟨_, rfl⟩
  obtain ⟨PN, hPN⟩ : ∃ b, b = w.heap.size + 1 := ⟨_, rfl⟩
  obtain ⟨W1, hW1⟩ : ∃ W, W = w.alloc (.cells (prC AA AC AN AV AK na C.length nn nv nk cA cC cN cV cK all) 40) := ⟨_, rfl⟩
  obtain ⟨W2, hW2⟩ : ∃ W, W = W1.alloc (.cells #[.slice A1 nk2 c1, .slice A2 nk2 c2, .int .i64 n.slop] 86) := ⟨_, rfl⟩
  have s1 : W1.heap.size = w.heap.size + 1 := by rw [hW1]; simp
  have b2 : Below w.heap.size w W2 := by rw [hW2, hW1]; exact Base.bel
  have KR : Blk W2 PR 40 (prC AA AC AN AV AK na C.length nn nv nk cA cC cN cV cK all) := by
    have k1 : Blk W1 w.heap.size 40 (prC AA AC AN AV AK na C.length nn nv nk cA cC cN cV cK all) := by rw [hW1]; exact Blk.new w _ _
    rw [hW2, hPR]
    exact k1.alloc _
  have KN : Blk W2 PN 86 #[.slice A1 nk2 c1, .slice A2 nk2 c2, .int .i64 n.slop] := by rw [hW2, hPN, ← s1]; exact Blk.new W1 _ _
  have IA := fun x m W => inside_any x m W
  have hsl := insB_true hn.slop
  have hn1 := hn.some_
  rw [← hnk2] at hn1
  have d1 : decide ((nk2 : Int) < 1) = false := decide_eq_false (by omega)
  have dne : ((nk2 : Int) != nk2) = false := by simp
  unfold prC at hW1 KR ⊢
  have HW1 := Lib.hid hW1
  have HW2 := Lib.hid hW2
  have HPR := Lib.hid hPR
  have HPN := Lib.hid hPN
  have HB2 := Lib.hid b2
  have HKR := Lib.hid KR
  have HKN := Lib.hid KN
  have HN := Lib.hid hn
  have HF := Lib.hid hf
  have HC := Lib.hid hC
  have HLO := Lib.hid hlo
  have HNK := Lib.hid hnk2
  have HSC := Lib.hid SC
  have HS1 := Lib.hid S1
  have HS2 := Lib.hid S2
  obtain ⟨nc, hnc⟩ : ∃ k, k = C.length := ⟨_, rfl⟩
  have HNC := Lib.hid hnc
  rw [← hnc] at hCl KR ⊢
  have hW1 := HW1.out
  rw [← hnc] at hW1
  have HW1 := Lib.hid hW1
  clear hW1 hW2 hPR hPN s1 b2 KR KN hn hf hC hlo hnk2 SC S1 S2 hnc
  go_enter Tryz.func88, Tryz.ntmps88
  go_upto_region 1 with fail
  rw [← HPN.out, ← HPR.out, ← HW1.out, ← HW2.out]
  obtain ⟨a0, a1, a2⟩ := three HKN.out
  obtain ⟨r0, r1, r2, r3, r4, r5⟩ := six HKR.out
  rw [← HNC.out] at r1
  go_wp2_with (go_at_call 87; (with_reducible refine (IA _ _ _).mono ?_); rw [hsl]; rintro e w3 ⟨rfl, hb3⟩; have HB3 := Lib.hid hb3; obtain ⟨e0, e1, e2⟩ := three (HKN.out.below hb3 HKN.out.lt); clear hb3)
  go_loopw [29] (fun i wr => ∃ k : Nat, k ≤ nk2 ∧ i = .int .i64 k ∧ Below W2.heap.size W2 wr) (fun i _ => nk2 - (intOf i).toNat)
  case atStart => exact ⟨0, Nat.zero_le _, rfl, HB3.out⟩
  case round =>
    obtain ⟨k, hk, rfl, hb⟩ := hrel
    have HBR := Lib.hid hb
    rcases Nat.lt_or_ge k nk2 with hlt | hge
    · obtain ⟨c, hc⟩ : ∃ c, n.curs[k]? = some c := ⟨_, List.getElem?_eq_getElem (by rw [← HNK.out]; exact hlt)⟩
      obtain ⟨o, ho⟩ : ∃ c, n.offs[k]? = some c := ⟨_, List.getElem?_eq_getElem (by rw [HLO.out]; exact hlt)⟩
      obtain ⟨cf, hcf⟩ : ∃ c, n.curs[0]? = some c := ⟨_, List.getElem?_eq_getElem (by rw [← HNK.out]; omega)⟩
      have hcb := HN.out.curs c (List.mem_of_getElem? hc)
      have hfb := HN.out.curs cf (List.mem_of_getElem? hcf)
      have hob := HN.out.offs o (List.mem_of_getElem? ho)
      have hone := HN.out.one c (List.mem_of_getElem? hc) cf (List.mem_of_getElem? hcf)
      rw [HC.out, ← HNC.out] at hcb hfb
      obtain ⟨ci, rfl⟩ := Int.eq_ofNat_of_zero_le hcb.1
      obtain ⟨fi, rfl⟩ := Int.eq_ofNat_of_zero_le hfb.1
      obtain ⟨lc, hlc⟩ : ∃ l, C[ci]? = some l := ⟨_, List.getElem?_eq_getElem (by rw [← HNC.out]; omega)⟩
      obtain ⟨lf, hlf⟩ : ∃ l, C[fi]? = some l := ⟨_, List.getElem?_eq_getElem (by rw [← HNC.out]; omega)⟩
      rw [HF.out _ _ hlc, HF.out _ _ hlf] at hone
      obtain ⟨g1, o1, rfl, hg1, hc1⟩ := HS1.out (ints_ne hc)
      obtain ⟨g2, o2, rfl, hg2, hc2⟩ := HS2.out (ints_ne ho)
      obtain ⟨g3, o3, rfl, hg3, hc3⟩ := HSC.out (lfs_ne hlc)
      have hbw : Below w.heap.size w wr := HB2.out.trans (hb.mono HB2.out.size)
      have i1 : (k : Int) < (nk2 : Int) := by omega
      have i3 : (k : Int) < 9223372036854775807 := by omega
      have x0 : wr.cell? ⟨g1, o1 + k, none⟩ = some (.int .i64 (ci : Int)) := (hbw.cell (p := ⟨g1, o1 + k, none⟩) hg1).trans (hc1 _ _ (ints_at hc))
      have hKRr := HKR.out.below hb HKR.out.lt
      have x1 : wr.cell? ⟨PR, 1, none⟩ = some (.slice (some ⟨g3, o3, none⟩) nc cC) := by rw [HNC.out]; exact hKRr.cell 1
      have IC := Lib.hid (insB_true hcb)
      have IO := Lib.hid (insB_true hob)
      have LWR := Lib.hid (show ∀ W, Below wr.heap.size wr W → W.cell? ⟨PN, 0, none⟩ = some (.slice (some ⟨g1, o1, none⟩) nk2 c1) ∧ W.cell? ⟨PN, 1, none⟩ = some (.slice (some ⟨g2, o2, none⟩) nk2 c2) ∧ W.cell? ⟨g2, o2 + k, none⟩ = some (.int .i64 o) ∧ W.cell? ⟨PR, 1, none⟩ = some (.slice (some ⟨g3, o3, none⟩) nc cC) ∧ W.cell? ⟨g3, o3 + ci * 2, none⟩ = some (.int .i64 lf.field) ∧ W.cell? ⟨g3, o3 + fi * 2, none⟩ = some (.int .i64 lf.field) ∧ W.cell? ⟨g1, o1, none⟩ = some (.int .i64 (fi : Int)) from fun W hW => by
        have hw2 : Below W2.heap.size W2 W := bchain HBR.out hW
        have hww : Below w.heap.size w W := HB2.out.trans (hw2.mono HB2.out.size)
        refine ⟨(HKN.out.below hw2 HKN.out.lt).cell 0, (HKN.out.below hw2 HKN.out.lt).cell 1, (hww.cell (p := ⟨g2, o2 + k, none⟩) hg2).trans (hc2 _ _ (ints_at ho)), ?_, ?_, (hww.cell (p := ⟨g3, o3 + fi * 2, none⟩) hg3).trans (hc3 _ _ (lfCs_at C fi lf hlf).1), (hww.cell (p := ⟨g1, o1, none⟩) hg1).trans (hc1 0 _ (ints_at hcf))⟩
        · rw [HNC.out]; exact (HKR.out.below hw2 HKR.out.lt).cell 1
        · rw [← hone]; exact (hww.cell (p := ⟨g3, o3 + ci * 2, none⟩) hg3).trans (hc3 _ _ (lfCs_at C ci lc hlc).1))
      have HG := Lib.hid (show g1 < wr.heap.size ∧ g2 < wr.heap.size ∧ g3 < wr.heap.size ∧ PR < wr.heap.size ∧ PN < wr.heap.size from by have := hbw.size; have := HKN.out.lt; have := HKR.out.lt; have := hb.size; omega)
      have q1 : (ci : Int) < (nc : Int) := hcb.2
      have q2 : (fi : Int) < (nc : Int) := hfb.2
      have q1n : ci < nc := by omega
      have q2n : fi < nc := by omega
      have qz : (0 : Int) < (nk2 : Int) := by omega
      have qzn : 0 < nk2 := by omega
      have qq : (lf.field != lf.field) = false := by simp
      clear hc ho hcf hcb hfb hob hone hlc hlf hc1 hc2 hc3 hbw hb hKRr hg1 hg2 hg3
      go_upto_region 8 with (first | (go_at_call 87; (with_reducible refine (IA (ci : Int) (nc : Int) _).mono ?_); rw [IC.out]; rintro e w4 ⟨rfl, hb4⟩; have HB4 := Lib.hid hb4; obtain ⟨_, z1, z2, _, _, _, _⟩ := LWR.out w4 hb4; clear hb4) | (go_at_call 87; (with_reducible refine (IA o 2147483647 _).mono ?_); rw [IO.out]; rintro e w5 ⟨rfl, hb5⟩; have HB5 := Lib.hid (bchain HB4.out hb5); clear hb5))
      obtain ⟨v0, _, _, v1, v2, v3, v4⟩ := LWR.out w5 HB5.out
      have hgs := HB5.out.size
      have u0 := Bw.cell (B := w5.heap.size) v0 (by have := HG.out; show PN < _; omega)
      have u1 := Bw.cell (B := w5.heap.size) v1 (by have := HG.out; show PR < _; omega)
      have u2 := Bw.cell (B := w5.heap.size) v2 (by have := HG.out; show g3 < _; omega)
      have u3 := Bw.cell (B := w5.heap.size) v3 (by have := HG.out; show g3 < _; omega)
      have u4 := Bw.cell (B := w5.heap.size) v4 (by have := HG.out; show g1 < _; omega)
      refine wp_region_bw w5.heap.size (by kernel_rfl) (by kernel_rfl) ?_
      repeat (go_big_quiet_step (fail))
      refine wpQuiet_nil ?_
      intro wq hw'
      obtain ⟨⟨wz, hbq⟩, hw''⟩ := hw'
      subst hw''
      have HBQ := Lib.hid hbq
      clear hbq
      go_wp2_with fail
      go_roundw
      case rel => exact ⟨k + 1, by omega, by go_num, bchain (bchain HBR.out HB5.out) HBQ.out⟩
      case measure => simp [intOf]; omega
    · obtain rfl : k = nk2 := by omega
      go_wp2_with fail
      go_ret
      exact ⟨rfl, HB2.out.trans (HBR.out.mono HB2.out.size)⟩
end Go.Proofs.YtfpikilhbkeajaaGreatDoor.VerNear

namespace Go.Proofs.YtfpikilhbkeajaaGreatDoor.VerTables
set_option maxRecDepth 100000
open Go.RowKit Go.PlainAid Base Query QrySize EmitPlain EmitBase LeafMap AllLeaves ProgTail VerPlain VerOps VerNear HitBase

def NV (w : World) (B : Nat) (n : Nr) (cs : List Value) : Prop := ∃ A1 c1 A2 c2, cs = [.slice A1 n.curs.length c1, .slice A2 n.offs.length c2, .int .i64 n.slop] ∧ Slc w B A1 (ints n.curs) ∧ Slc w B A2 (ints n.offs)
def NS (w : World) (B : Nat) (A : Option Addr) (ns : List Nr) : Prop := ns ≠ [] → ∃ g o, ∃ f : Nat → List Value, A = some ⟨g, o, none⟩ ∧ g < B ∧ (∀ i, i < ns.length → ∀ j u, (f i)[j]? = some u → w.cell? ⟨g, o + i * 3 + j, none⟩ = some u) ∧ ∀ i n, ns[i]? = some n → NV w B n (f i)
theorem NS.below {w w' : World} {B B' : Nat} {A : Option Addr} {ns : List Nr} (h : NS w B A ns) (hb : Below B' w w') (hB : B ≤ B') : NS w' B A ns := fun hne => by
  obtain ⟨g, o, f, e, hg, hc, hn⟩ := h hne
  refine ⟨g, o, f, e, hg, fun i hi j u hu => (hb.cell (p := ⟨g, o + i * 3 + j, none⟩) (show g < B' by omega)).trans (hc i hi j u hu), fun i n hi => ?_⟩
  obtain ⟨A1, c1, A2, c2, e2, h1, h2⟩ := hn i n hi
  exact ⟨A1, c1, A2, c2, e2, h1.below hb hB, h2.below hb hB⟩

structure TabG (M : Lim) (fld : Int → Int) (A : List Int) (C : List Lf) (ns : List Nr) (all : Bool) (D : List Int) : Prop where
  na : 1 ≤ A.length ∧ A.length ≤ 16
  avg : ∀ a ∈ A, 0 ≤ a
  cur : ∀ l ∈ C, 0 ≤ l.field ∧ l.field < A.length ∧ l.term.size ≤ 64
  nc : M.nc = C.length
  fldc : ∀ (i : Nat) c, C[i]? = some c → fld i = c.field
  near : ∀ r ∈ ns, NrG M fld r
  nlen : ∀ r ∈ ns, r.curs.length ≤ 1099511627776
  all : all = true → D = []
  drv : ∀ (i : Nat) d, D[i]? = some d → 0 ≤ d ∧ d < C.length
  rise : ∀ (i : Nat) a b, D[i]? = some a → D[i + 1]? = some b → a < b

set_option maxHeartbeats 16000000 in
theorem tables_ok (M : Lim) (fld : Int → Int) (A : List Int) (C : List Lf) (ns : List Nr) (all : Bool) (D : List Int) (G : TabG M fld A C ns all D) (AA AC AN AV AK : Option Addr) (nk cA cC cN cV cK : Nat) (w : World) (SA : Slc w w.heap.size AA (ints A)) (SC : Slc w w.heap.size AC (lfCs C)) (SN : NS w w.heap.size AN ns) (SV : Slc w w.heap.size AV (ints D)) (hCl : C.length ≤ 1099511627776) (hNl : ns.length ≤ 1099511627776) (hDl : D.length ≤ 1099511627776) :
    Calls Tryz.prog 62 #[.agg (prC AA AC AN AV AK A.length C.length ns.length D.length nk cA cC cN cV cK all)] w fun e w' => e = .returned (.bool true) ∧ Below w.heap.size w w' := by
  obtain ⟨PR, hPR⟩ : ∃ b, b = w.heap.size := ⟨_, rfl⟩
  obtain ⟨na, hna⟩ : ∃ k, k = A.length := ⟨_, rfl⟩
  obtain ⟨nc, hnc⟩ : ∃ k, k = C.length := ⟨_, rfl⟩
  obtain ⟨nn, hnn⟩ : ∃ k, k = ns.length := ⟨_, rfl⟩
  obtain ⟨nd, hnd⟩ : ∃ k, k = D.length := ⟨_, rfl⟩
  have ha := G.na
  rw [← hna] at ha ⊢
  rw [← hnc] at hCl ⊢
  rw [← hnn] at hNl ⊢
  rw [← hnd] at hDl ⊢
  obtain ⟨W1, hW1⟩ : ∃ W, W = w.alloc (.cells (prC AA AC AN AV AK na nc nn nd nk cA cC cN cV cK all) 40) := ⟨_, rfl⟩
  have b1 : Below w.heap.size w W1 := by rw [hW1]; exact Base.bel
  have KR : Blk W1 PR 40 (prC AA AC AN AV AK na nc nn nd nk cA cC cN cV cK all) := by rw [hW1, hPR]; exact Blk.new w _ _
  have IA := fun x m W => inside_any x m W
  have NE := Lib.hid (show ∀ (i : Nat) (n : Nr) (A1 A2 : Option Addr) (c1 c2 : Nat) (W : World), ns[i]? = some n → Below w.heap.size w W → Slc w w.heap.size A1 (ints n.curs) → Slc w w.heap.size A2 (ints n.offs) → Calls Tryz.prog 88 #[.agg (prC AA AC AN AV AK na nc nn nd nk cA cC cN cV cK all), .agg #[.slice A1 n.curs.length c1, .slice A2 n.offs.length c2, .int .i64 n.slop]] W fun e w' => e = .returned (.bool true) ∧ Below W.heap.size W w' from fun i n A1 A2 c1 c2 W hi hb s1 s2 => by
    rw [hnc]
    exact near_ok M C fld n (G.near n (List.mem_of_getElem? hi)) G.nc G.fldc AA AC AN AV AK A1 A2 na nn nd nk cA cC cN cV cK c1 c2 all W ((SC.below hb (Nat.le_refl _)).mono hb.size) ((s1.below hb (Nat.le_refl _)).mono hb.size) ((s2.below hb (Nat.le_refl _)).mono hb.size) (G.nlen n (List.mem_of_getElem? hi)) (by omega))
  unfold prC at hW1 KR NE ⊢
  have RW := Lib.hid (show ∀ W, Below W1.heap.size W1 W → _ from fun W hW => six (KR.below hW KR.lt))
  have HPR := Lib.hid hPR
  have HW1 := Lib.hid hW1
  have HB1 := Lib.hid b1
  have HKR := Lib.hid KR
  have HG := Lib.hid G
  have HSA := Lib.hid SA
  have HSC := Lib.hid SC
  have HSN := Lib.hid SN
  have HSV := Lib.hid SV
  have HNA := Lib.hid hna
  have HNC := Lib.hid hnc
  have HNN := Lib.hid hnn
  have HND := Lib.hid hnd
  clear hPR hW1 b1 KR G SA SC SN SV hna hnc hnn hnd
  have d1 : decide ((na : Int) < 1) = false := decide_eq_false (by omega)
  have d2 : decide ((16 : Int) < na) = false := decide_eq_false (by omega)
  obtain ⟨r0, r1, r2, r3, r4, r5⟩ := RW.out W1 (Below.refl _ _)
  go_enter Tryz.func62, Tryz.ntmps62
  go_upto_region 1 with fail
  rw [← HPR.out, ← HW1.out]
  go_wp2_with fail
  go_loopw [24] (fun i wr => ∃ k : Nat, k ≤ na ∧ i = .int .i64 k ∧ Below W1.heap.size W1 wr) (fun i _ => na - (intOf i).toNat)
  case atStart => exact ⟨0, Nat.zero_le _, rfl, Below.refl _ _⟩
  case round =>
    obtain ⟨k, hk, rfl, hb⟩ := hrel
    have HBR := Lib.hid hb
    rcases Nat.lt_or_ge k na with hlt | hge
    · obtain ⟨x, hx⟩ : ∃ c, A[k]? = some c := ⟨_, List.getElem?_eq_getElem (by rw [← HNA.out]; exact hlt)⟩
      have hx0 := HG.out.avg x (List.mem_of_getElem? hx)
      obtain ⟨g1, o1, rfl, hg1, hc1⟩ := HSA.out (ints_ne hx)
      have hbw : Below w.heap.size w wr := HB1.out.trans (hb.mono HB1.out.size)
      have x0 : wr.cell? ⟨g1, o1 + k, none⟩ = some (.int .i64 x) := (hbw.cell (p := ⟨g1, o1 + k, none⟩) hg1).trans (hc1 _ _ (VerNear.ints_at hx))
      have i1 : (k : Int) < (na : Int) := by omega
      have i3 : (k : Int) < 9223372036854775807 := by omega
      have d3 : decide (x < 0) = false := decide_eq_false (by omega)
      clear hx hx0 hc1 hbw hb
      go_wp2_with fail
      go_roundw
      case rel => exact ⟨k + 1, by omega, by go_num, HBR.out⟩
      case measure => simp [intOf]; omega
    obtain rfl : k = na := by omega
    obtain ⟨wa, hwa⟩ : ∃ x, x = wr := ⟨wr, rfl⟩
    subst hwa
    obtain ⟨r0, r1, r2, r3, r4, r5⟩ := RW.out wa HBR.out
    clear hb
    go_wp2_with fail
    go_loopw [34] (fun i wr => ∃ k : Nat, k ≤ nc ∧ i = .int .i64 k ∧ Below W1.heap.size W1 wr) (fun i _ => nc - (intOf i).toNat)
    case atStart => exact ⟨0, Nat.zero_le _, rfl, HBR.out⟩
    case round =>
      obtain ⟨k, hk, rfl, hb⟩ := hrel
      have HBS := Lib.hid hb
      rcases Nat.lt_or_ge k nc with hlt | hge
      · obtain ⟨l, hl⟩ : ∃ c, C[k]? = some c := ⟨_, List.getElem?_eq_getElem (by rw [← HNC.out]; exact hlt)⟩
        obtain ⟨hl1, hl2, hl3⟩ := HG.out.cur l (List.mem_of_getElem? hl)
        rw [← HNA.out] at hl2
        obtain ⟨g1, o1, rfl, hg1, hc1⟩ := HSC.out (lfs_ne hl)
        have hbw : Below w.heap.size w wr := HB1.out.trans (hb.mono HB1.out.size)
        obtain ⟨e0, e1⟩ := lfCs_at C k l hl
        have x0 : wr.cell? ⟨g1, o1 + k * 2, none⟩ = some (.int .i64 l.field) := (hbw.cell (p := ⟨g1, o1 + k * 2, none⟩) hg1).trans (hc1 _ _ e0)
        have x1 : wr.cell? ⟨g1, o1 + k * 2 + 1, none⟩ = some (.string l.term) := (hbw.cell (p := ⟨g1, o1 + k * 2 + 1, none⟩) hg1).trans (hc1 _ _ e1)
        have i1 : (k : Int) < (nc : Int) := by omega
        have i3 : (k : Int) < 9223372036854775807 := by omega
        have IT := Lib.hid (insB_true ⟨hl1, hl2⟩)
        have d3 : decide ((64 : Int) < l.term.size) = false := decide_eq_false (by omega)
        obtain ⟨r0, r1, r2, r3, r4, r5⟩ := RW.out wr hb
        have hPRl : PR < wr.heap.size := by have := HKR.out.lt; have := hb.size; omega
        clear hl hl1 hl2 hl3 hc1 hbw hb e0 e1
        go_wp2_with (go_at_call 87; (with_reducible refine (IA _ _ _).mono ?_); rw [IT.out]; rintro e w4 ⟨rfl, hb4⟩; have HB4 := Lib.hid hb4; have y1 : w4.cell? ⟨wr.heap.size, 1, none⟩ = some (.string l.term) := ((Blk.new wr 51 #[.int .i64 l.field, .string l.term]).below hb4 (by simp)).cell 1; clear hb4)
        go_roundw
        case rel => exact ⟨k + 1, by omega, by go_num, bchain (balloc HBS.out _) HB4.out⟩
        case measure => simp [intOf]; omega
      obtain rfl : k = nc := by omega
      obtain ⟨wb, hwb⟩ : ∃ x, x = wr := ⟨wr, rfl⟩
      subst hwb
      obtain ⟨r0, r1, r2, r3, r4, r5⟩ := RW.out wb HBS.out
      clear hb
      go_wp2_with fail
      go_loopw [55] (fun i wr => ∃ k : Nat, k ≤ nn ∧ i = .int .i64 k ∧ Below W1.heap.size W1 wr) (fun i _ => nn - (intOf i).toNat)
      case atStart => exact ⟨0, Nat.zero_le _, rfl, HBS.out⟩
      case round =>
        obtain ⟨k, hk, rfl, hb⟩ := hrel
        have HBT := Lib.hid hb
        rcases Nat.lt_or_ge k nn with hlt | hge
        · obtain ⟨n, hn⟩ : ∃ c, ns[k]? = some c := ⟨_, List.getElem?_eq_getElem (by rw [← HNN.out]; exact hlt)⟩
          obtain ⟨g1, o1, f, rfl, hg1, hc1, hv⟩ := HSN.out (by intro e; rw [e] at hn; simp at hn)
          obtain ⟨A1, c1, A2, c2, ef, s1, s2⟩ := hv k n hn
          have hbw : Below w.heap.size w wr := HB1.out.trans (hb.mono HB1.out.size)
          have hkl : k < ns.length := by rw [← HNN.out]; exact hlt
          have x0 : wr.cell? ⟨g1, o1 + k * 3, none⟩ = some (.slice A1 n.curs.length c1) := (hbw.cell (p := ⟨g1, o1 + k * 3, none⟩) hg1).trans (hc1 k hkl 0 _ (by rw [ef]; rfl))
          have x1 : wr.cell? ⟨g1, o1 + k * 3 + 1, none⟩ = some (.slice A2 n.offs.length c2) := (hbw.cell (p := ⟨g1, o1 + k * 3 + 1, none⟩) hg1).trans (hc1 k hkl 1 _ (by rw [ef]; rfl))
          have x2 : wr.cell? ⟨g1, o1 + k * 3 + 2, none⟩ = some (.int .i64 n.slop) := (hbw.cell (p := ⟨g1, o1 + k * 3 + 2, none⟩) hg1).trans (hc1 k hkl 2 _ (by rw [ef]; rfl))
          have i1 : (k : Int) < (nn : Int) := by omega
          have i3 : (k : Int) < 9223372036854775807 := by omega
          have NK := Lib.hid (NE.out k n A1 A2 c1 c2 (wr.alloc (.cells #[.slice A1 n.curs.length c1, .slice A2 n.offs.length c2, .int .i64 n.slop] 86)) hn (balloc hbw _) s1 s2)
          obtain ⟨r0, r1, r2, r3, r4, r5⟩ := RW.out wr hb
          have hPRl : PR < wr.heap.size := by have := HKR.out.lt; have := hb.size; omega
          clear hn hc1 hbw hb hv ef s1 s2 hkl
          go_wp2_with (go_at_call 88; (with_reducible refine NK.out.mono ?_); rintro e w4 ⟨rfl, hb4⟩; have HB4 := Lib.hid hb4; clear hb4)
          go_roundw
          case rel => exact ⟨k + 1, by omega, by go_num, bchain (balloc HBT.out _) HB4.out⟩
          case measure => simp [intOf]; omega
        obtain rfl : k = nn := by omega
        obtain ⟨wc, hwc⟩ : ∃ x, x = wr := ⟨wr, rfl⟩
        subst hwc
        obtain ⟨r0, r1, r2, r3, r4, r5⟩ := RW.out wc HBT.out
        clear hb
        have hall : all = true → nd = 0 := fun e => by rw [HND.out, HG.out.all e]; rfl
        cases all with
        | true =>
          have h0 := hall rfl
          subst h0
          clear hall
          go_wp2_with fail
          refine wp_loop_rounds 1 ?_
          rw [rounds_succ]
          go_wp2_with fail
          go_ret
          exact ⟨rfl, HB1.out.trans (HBT.out.mono HB1.out.size)⟩
        | false =>
          clear hall
          go_wp2_with fail
          go_loopw [75] (fun i wr => ∃ k : Nat, k ≤ nd ∧ i = .int .i64 k ∧ Below W1.heap.size W1 wr) (fun i _ => nd - (intOf i).toNat)
          case atStart => exact ⟨0, Nat.zero_le _, rfl, HBT.out⟩
          case round =>
            obtain ⟨k, hk, rfl, hb⟩ := hrel
            have HBU := Lib.hid hb
            rcases Nat.lt_or_ge k nd with hlt | hge
            · obtain ⟨d, hd⟩ : ∃ c, D[k]? = some c := ⟨_, List.getElem?_eq_getElem (by rw [← HND.out]; exact hlt)⟩
              have hd0 := HG.out.drv k d hd
              rw [← HNC.out] at hd0
              obtain ⟨g1, o1, rfl, hg1, hc1⟩ := HSV.out (ints_ne hd)
              have hbw : Below w.heap.size w wr := HB1.out.trans (hb.mono HB1.out.size)
              have x0 : wr.cell? ⟨g1, o1 + k, none⟩ = some (.int .i64 d) := (hbw.cell (p := ⟨g1, o1 + k, none⟩) hg1).trans (hc1 _ _ (VerNear.ints_at hd))
              have i1 : (k : Int) < (nd : Int) := by omega
              have i3 : (k : Int) < 9223372036854775807 := by omega
              have IT := Lib.hid (insB_true hd0)
              obtain ⟨r0, r1, r2, r3, r4, r5⟩ := RW.out wr hb
              rcases Nat.eq_zero_or_pos k with h0 | h0
              · subst h0
                rw [Nat.add_zero] at x0
                clear hd hd0 hc1 hbw hb
                go_wp2_with (go_at_call 87; (with_reducible refine (IA _ _ _).mono ?_); rw [IT.out]; rintro e w4 ⟨rfl, hb4⟩; have HB4 := Lib.hid hb4; clear hb4)
                go_roundw
                case rel => exact ⟨1, by omega, by go_num, bchain HBU.out HB4.out⟩
                case measure => simp [intOf]; omega
              · obtain ⟨m, hm⟩ : ∃ m, k = m + 1 := ⟨k - 1, by omega⟩
                obtain ⟨d2, hd2⟩ : ∃ d, D[m]? = some d := ⟨_, List.getElem?_eq_getElem (by rw [← HND.out]; omega)⟩
                have hlt2 := HG.out.rise m d2 d hd2 (by rw [← hm]; exact hd)
                have V0 := Lib.hid (show ∀ W, Below wr.heap.size wr W → W.cell? ⟨g1, o1 + m, none⟩ = some (.int .i64 d2) ∧ W.cell? ⟨PR, 4, none⟩ = some (.slice (some ⟨g1, o1, none⟩) nd cV) from fun W hW => by
                  have hw2 : Below W1.heap.size W1 W := bchain HBU.out hW
                  have hww : Below w.heap.size w W := HB1.out.trans (hw2.mono HB1.out.size)
                  exact ⟨(hww.cell (p := ⟨g1, o1 + m, none⟩) hg1).trans (hc1 _ _ (VerNear.ints_at hd2)), (HKR.out.below hw2 HKR.out.lt).cell 4⟩)
                have f4 : decide (d ≤ d2) = false := decide_eq_false (by omega)
                have f5 : decide ((0 : Int) < (k : Int)) = true := decide_eq_true (by omega)
                have hm1 : (k : Int) - 1 = (m : Int) := by omega
                have j1 : (m : Int) < (nd : Int) := by omega
                have j3 : (m : Int) < 9223372036854775807 := by omega
                clear hd hd0 hc1 hbw hb hd2 hlt2 hm
                go_wp2_with (go_at_call 87; (with_reducible refine (IA _ _ _).mono ?_); rw [IT.out]; rintro e w4 ⟨rfl, hb4⟩; obtain ⟨z0, z1⟩ := V0.out w4 hb4; have HB4 := Lib.hid hb4; clear hb4)
                go_roundw
                case rel => exact ⟨k + 1, by omega, by go_num, bchain HBU.out HB4.out⟩
                case measure => simp [intOf]; omega
            · obtain rfl : k = nd := by omega
              clear hb
              go_wp2_with fail
              go_ret
              exact ⟨rfl, HB1.out.trans (HBU.out.mono HB1.out.size)⟩
end Go.Proofs.YtfpikilhbkeajaaGreatDoor.VerTables

namespace Go.Proofs.YtfpikilhbkeajaaGreatDoor.VerMeet
set_option maxRecDepth 100000
open Go.RowKit Go.PlainAid Base Query QrySize EmitPlain EmitBase LeafMap AllLeaves ProgTail VerPlain VerOps VerNear VerTables HitBase TabMem

theorem ints_set (L : List Int) (i : Nat) (h : Int) : (ints L).toArray.setIfInBounds i (.int .i64 h) = (ints (L.set i h)).toArray := by
  unfold ints
  rw [List.setIfInBounds_toArray, List.map_set]
theorem set_same {L : List Int} {i : Nat} {h : Int} (hi : L[i]? = some h) : L.set i h = L := by
  apply List.ext_getElem?
  intro j
  rw [List.getElem?_set]
  by_cases e : i = j
  · subst e
    have := (List.getElem?_eq_some_iff.1 hi).1
    rw [if_pos rfl, if_pos this, hi]
  · rw [if_neg e]

set_option maxHeartbeats 4000000 in
theorem meet_any (RB VB c n : Nat) (t : TypeId) (L : List Int) (i : Nat) (h x : Int) (w : World) (KR : Blk w RB t (ints L).toArray) (KV : Blk w VB 23 #[.slice (some ⟨RB, 0, none⟩) n c]) (hnl : n = L.length) (hne : VB ≠ RB) (hi : L[i]? = some x) (hx : x = -1 ∨ x = h) (h0 : 0 ≤ h) (hL : n ≤ 1099511627776) :
    Calls Tryz.prog 63 #[.int .i64 i, .int .i64 h, .pointer (some ⟨VB, 0, none⟩)] w fun e w' => e = .returned (.bool true) ∧ Blk w' RB t (ints (L.set i h)).toArray ∧ Foot w w' (fun k => k ≠ RB) := by
  have hin : i < n := by rw [hnl]; exact (List.getElem?_eq_some_iff.1 hi).1
  have v0 : w.cell? ⟨VB, 0, none⟩ = some (.slice (some ⟨RB, 0, none⟩) n c) := KV.cell 0
  have x0 : w.cell? ⟨RB, i, none⟩ = some (.int .i64 x) := by rw [KR.cell i, List.getElem?_toArray]; exact VerNear.ints_at hi
  have f0 : w.frozen? ⟨RB, i, none⟩ = false := KR.frozen i
  have i1 : (i : Int) < (n : Int) := by omega
  have HKR := Lib.hid KR
  have HI := Lib.hid hi
  have hRl : RB < w.heap.size := KR.lt
  have hVl : VB < w.heap.size := KV.lt
  clear KR KV hi hnl
  rcases hx with rfl | rfl
  · have v1 : (w.setCell ⟨RB, i, none⟩ (.int .i64 h)).cell? ⟨VB, 0, none⟩ = some (.slice (some ⟨RB, 0, none⟩) n c) := by
      rw [World.cell?_of_block (Below.heap_setCell w ⟨RB, i, none⟩ (.int .i64 h) VB hne)]; exact v0
    have K2 : Blk (w.setCell ⟨RB, i, none⟩ (.int .i64 h)) RB t (ints (L.set i h)).toArray := by rw [← ints_set]; exact HKR.out.set_ i _
    have hil : i < L.length := (List.getElem?_eq_some_iff.1 HI.out).1
    have x1 : (w.setCell ⟨RB, i, none⟩ (.int .i64 h)).cell? ⟨RB, i, none⟩ = some (.int .i64 h) := by
      rw [K2.cell i, List.getElem?_toArray]
      refine VerNear.ints_at ?_
      rw [List.getElem?_set, if_pos rfl, if_pos hil]
    have HK2 := Lib.hid K2
    clear K2 hil
    go_enter Tryz.func63, Tryz.ntmps63
    go_wp2_with fail
    go_ret
    first
    | exact ⟨rfl, HK2.out, (Foot.refl _ _).set_ (fun _ => by simp) _⟩
    | exact ⟨by simp, HK2.out, (Foot.refl _ _).set_ (fun _ => by simp) _⟩
  · have b1 : decide (x < 0) = false := decide_eq_false (by omega)
    go_enter Tryz.func63, Tryz.ntmps63
    go_wp2_with fail
    go_ret
    first
    | exact ⟨rfl, by rw [set_same HI.out]; exact HKR.out, Foot.refl _ _⟩
    | exact ⟨by simp, by rw [set_same HI.out]; exact HKR.out, Foot.refl _ _⟩
end Go.Proofs.YtfpikilhbkeajaaGreatDoor.VerMeet

namespace Go.Proofs.YtfpikilhbkeajaaGreatDoor.VerPass
set_option maxRecDepth 100000
open Go.RowKit Go.PlainAid Base Query QrySize EmitPlain EmitBase LeafMap AllLeaves ProgTail VerPlain VerOps VerNear VerTables HitBase TabMem VerMeet

structure Pass (M : Lim) (L : List Ins) (m : Nat) (H : Nat → Int) : Prop where
  len : L.length = m + 1
  h0 : H 0 = 0
  rng : ∀ i, i ≤ m → 0 ≤ H i ∧ H i ≤ i
  step : ∀ i x, i < m → L[i]? = some x → Opd M x ∧ eff x (H i) = some (H (i + 1)) ∧ (x.op = 15 ∨ x.op = 16 → i + 1 + x.a.toNat ≤ m ∧ H (i + 1 + x.a.toNat) = H (i + 1))
  last : L[m]? = some ⟨0, 0, 0⟩
  hm : H m = 1

theorem eff_le {M : Lim} {x : Ins} {h h' : Int} (ho : Opd M x) (he : eff x h = some h') : h' ≤ h + 1 := by
  unfold eff at he
  have hl := ho.least
  split at he
  · cases he; omega
  · split at he
    · split at he
      · cases he; omega
      · cases he
    · split at he
      · rename_i e
        have := hl e
        split at he
        · cases he; omega
        · cases he
      · split at he
        · split at he
          · cases he; omega
          · cases he
        · split at he
          · cases he; omega
          · cases he
theorem pass_of {M : Lim} {L : List Ins} (h : Seg M L 0 1) : ∃ H, Pass M (L ++ [⟨0, 0, 0⟩]) L.length H := by
  obtain ⟨H, h0, h1, h2, h3⟩ := h
  have hle : ∀ i, i ≤ L.length → H i ≤ i := by
    intro i
    induction i with
    | zero => intro _; rw [h0]; simp
    | succ n ih =>
      intro hn
      have := ih (by omega)
      obtain ⟨x, hx⟩ : ∃ x, L[n]? = some x := ⟨_, List.getElem?_eq_getElem (by omega)⟩
      obtain ⟨o, e, _⟩ := h3 n x hx
      have := eff_le o e
      omega
  refine ⟨H, by simp, h0, fun i hi => ⟨h2 i hi, hle i hi⟩, fun i x hi hx => ?_, by simp, h1⟩
  rw [List.getElem?_append_left hi] at hx
  exact h3 i x hx

structure Hs (H : Nat → Int) (m k : Nat) (L : List Int) : Prop where
  len : L.length = m + 1
  all : ∀ (j : Nat) x, L[j]? = some x → x = -1 ∨ x = H j
  cur : L[k]? = some (H k)
theorem Hs.set {H : Nat → Int} {m k j : Nat} {L : List Int} (h : Hs H m k L) (hj : j ≤ m) (hk : j = k + 1) : Hs H m (k + 1) (L.set j (H j)) := by
  refine ⟨by rw [List.length_set]; exact h.len, fun i x hx => ?_, ?_⟩
  · rw [List.getElem?_set] at hx
    split at hx
    · rename_i e
      subst e
      split at hx
      · cases hx; exact .inr rfl
      · cases hx
    · exact h.all i x hx
  · subst hk
    rw [List.getElem?_set, if_pos rfl, if_pos (by rw [h.len]; omega)]
theorem Hs.set2 {H : Nat → Int} {m k j : Nat} {L : List Int} {y : Int} (h : Hs H m k L) (hj : j ≤ m) (hy : y = H j) : Hs H m k (L.set j y) := by
  subst hy
  refine ⟨by rw [List.length_set]; exact h.len, fun i x hx => ?_, ?_⟩
  · rw [List.getElem?_set] at hx
    split at hx
    · rename_i e
      subst e
      split at hx
      · cases hx; exact .inr rfl
      · cases hx
    · exact h.all i x hx
  · rw [List.getElem?_set]
    split
    · rename_i e
      subst e
      rw [if_pos (by rw [h.len]; omega)]
    · exact h.cur
theorem Hs.start {H : Nat → Int} {m : Nat} (h0 : H 0 = 0) : Hs H m 0 ((List.replicate (m + 1) (-1 : Int)).set 0 0) := by
  refine ⟨by simp, fun i x hx => ?_, by rw [h0]; simp⟩
  rw [List.getElem?_set] at hx
  split at hx
  · rename_i e
    subst e
    simp at hx
    exact .inr (by rw [h0]; exact hx.symm)
  · rw [List.getElem?_replicate] at hx
    split at hx
    · cases hx; exact .inl rfl
    · cases hx
theorem made_eq (n : Nat) : madeCells (Value.int .i64 0).cells (n * 1) = (ints (List.replicate n 0)).toArray := by
  have e : (Value.int .i64 0).cells = #[.int .i64 0] := rfl
  rw [e, Nat.mul_one]
  apply Array.toList_inj.1
  rw [toList_madeCells_one]
  unfold ints
  rw [List.map_replicate]
theorem run_mk (n : Nat) (hn : n ≤ 1099511627776) (w : World) : (Instr.makeSlice 23 (.int .i64 (n : Int)) (.int .i64 (n : Int))).run Tryz.prog w = .ok (.slice (some ⟨w.heap.size, 0, none⟩) n n) (w.alloc (.cells (ints (List.replicate n 0)).toArray 3)) := by
  have hinf : (Tryz.prog.info? 3).map (fun i => (i.zero, i.size, i.bytes)) = some (some (.int .i64 0), 1, 8) := by kernel_rfl
  obtain ⟨i, hi, hz0, hz1, hz2⟩ := info_parts hinf
  have := run_make (P := Tryz.prog) w 23 3 i (.int .i64 0) Tryz.underlying23 hi hz0 .i64 .i64 n n (by omega) (Int.le_refl _) (by rw [hz2]; omega) (by omega)
  rw [this, hz1]
  simp only [Int.toNat_natCast]
  rw [made_eq]
theorem fill_set (n k : Nat) (x y : Int) (h : k < n) : (List.replicate k x ++ List.replicate (n - k) y).set k x = List.replicate (k + 1) x ++ List.replicate (n - (k + 1)) y := by
  rw [List.set_append_right _ _ (by simp)]
  rw [List.length_replicate, Nat.sub_self, List.replicate_succ' , List.append_assoc]
  congr 1
  rw [show n - k = (n - (k + 1)) + 1 by omega, List.replicate_succ]
  rfl
end Go.Proofs.YtfpikilhbkeajaaGreatDoor.VerPass
