/-
  A query's code in plain Lean: how long it is, that it can be encoded.
-/
import Derived.Test.YtfpikilhbkeajaaGreatDoorEncode
import Derived.Test.YtfpikilhbkeajaaGreatDoorEmitQ0
set_option linter.unusedVariables false
set_option linter.unusedSimpArgs false
namespace Go.Proofs.YtfpikilhbkeajaaGreatDoor.CodePlain
set_option maxRecDepth 100000
open Base Query EmitPlain Args Encode EmitQ0

def okI (i : Ins) : Prop := insOk i = true ∧ (0 ≤ i.a ∧ i.a < 18446744073709551616) ∧ (0 ≤ i.b ∧ i.b < 18446744073709551616)
theorem okI_bare {p : Int} (h : okN p = true) : okI ⟨p, 0, 0⟩ := by
  refine ⟨?_, by simp, by simp⟩
  unfold insOk
  simp only [h]
  simp
theorem okI_two {p a b : Int} (h : okN p = true) (h2 : argI p = 2) (ha : 0 ≤ a ∧ a < 18446744073709551616) (hb : 0 ≤ b ∧ b < 18446744073709551616) : okI ⟨p, a, b⟩ := by
  refine ⟨?_, ha, hb⟩
  unfold insOk
  simp only [h, h2]
  simp
theorem okI_one {p a : Int} (h : okN p = true) (h2 : argI p = 1) (ha : 0 ≤ a ∧ a < 18446744073709551616) : okI ⟨p, a, 0⟩ := by
  refine ⟨?_, ha, by simp⟩
  unfold insOk
  simp only [h, h2]
  simp

def skO (o : Option Int) : Prop := o = none ∨ o = some 15 ∨ o = some 16
def opO (o : Option Int) : Prop := ∀ p, o = some p → okN p = true
def AllM (F : Lay?) (n : Nat) : Prop := ∀ p ∈ (F n).1, (p.1 = true → (p.2.op = 15 ∨ p.2.op = 16) ∧ p.2.b = 0) ∧ (p.1 = false → okI p.2)
theorem AllM.cat {F G : Lay?} {n : Nat} (h : AllM F n) (k : AllM G (n + (F n).2.length)) : AllM ((EmitPlain.cat F G)) n := fun p hp => by
  simp only [EmitPlain.cat, List.mem_append] at hp
  exact hp.elim (h p) (k p)
theorem AllM.nop (n : Nat) : AllM EmitPlain.nop n := fun p hp => by simp [EmitPlain.nop] at hp
theorem AllM.fin {f : Lay} {n : Nat} (h : ∀ i ∈ (f n).1, okI i) : AllM (EmitPlain.fin f) n := fun p hp => by
  obtain ⟨i, hi, rfl⟩ := List.mem_map.1 hp
  exact ⟨fun e => (by cases e), fun _ => h i hi⟩
theorem AllM.one {p : Int} (h : okN p = true) (n : Nat) : AllM (EmitPlain.one p 0 0) n := fun q hq => by
  simp [EmitPlain.one] at hq
  subst hq
  exact ⟨fun e => (by cases e), fun _ => okI_bare h⟩
theorem AllM.skp {o : Int} (h : o = 15 ∨ o = 16) (n : Nat) : AllM (EmitPlain.skp o) n := fun q hq => by
  simp [EmitPlain.skp] at hq
  subst hq
  exact ⟨fun _ => ⟨h, rfl⟩, fun e => (by cases e)⟩
theorem land_ok : ∀ {l : List (Bool × Ins)}, (∀ p ∈ l, (p.1 = true → (p.2.op = 15 ∨ p.2.op = 16) ∧ p.2.b = 0) ∧ (p.1 = false → okI p.2)) → l.length < 9223372036854775808 → ∀ i ∈ landR l, okI i
  | [], _, _, i, hi => by simp [landR] at hi
  | (true, j) :: r, h, hl, i, hi => by
    simp only [landR, List.mem_cons] at hi
    simp only [List.length_cons] at hl
    rcases hi with rfl | hi
    · obtain ⟨h1, h2⟩ := (h _ (List.mem_cons_self ..)).1 rfl
      obtain ⟨o, a, b⟩ := j
      simp only at h1 h2 ⊢
      subst h2
      rcases h1 with rfl | rfl
      · exact okI_one (by decide) (by decide) ⟨by omega, by omega⟩
      · exact okI_one (by decide) (by decide) ⟨by omega, by omega⟩
    · exact land_ok (fun p hp => h p (List.mem_cons_of_mem _ hp)) (by omega) i hi
  | (false, j) :: r, h, hl, i, hi => by
    simp only [landR, List.mem_cons] at hi
    simp only [List.length_cons] at hl
    rcases hi with rfl | hi
    · exact (h _ (List.mem_cons_self ..)).2 rfl
    · exact land_ok (fun p hp => h p (List.mem_cons_of_mem _ hp)) (by omega) i hi
theorem shut_ok {F : Lay?} {n : Nat} (h : AllM F n) (hl : (F n).1.length < 9223372036854775808) : ∀ i ∈ (shut F n).1, okI i := land_ok h hl

structure KB (M : Nat) (f : Lay) (s : Nat) : Prop where
  len : ∀ n, (f n).1.length + 2 ≤ 3 * s
  nears : ∀ n, (f n).2.length ≤ s
  ok : ∀ n, n + s ≤ M → ∀ i ∈ (f n).1, okI i
section
variable {M : Nat} {sk o : Option Int} {f : Qry → Lay}
theorem cat_len (F G : Lay?) (n : Nat) : (((EmitPlain.cat F G)) n).1.length = (F n).1.length + (G (n + (F n).2.length)).1.length ∧ (((EmitPlain.cat F G)) n).2.length = (F n).2.length + (G (n + (F n).2.length)).2.length := by
  simp [EmitPlain.cat]
theorem further_b (g : Lay) (n : Nat) : (further sk o g n).1.length ≤ (g n).1.length + 2 ∧ (further sk o g n).2.length = (g n).2.length := by
  cases sk <;> cases o <;> simp [further, EmitPlain.cat, EmitPlain.skp, EmitPlain.nop, EmitPlain.one, EmitPlain.fin]
theorem further_ok (hs : skO sk) (ho : opO o) (g : Lay) (n : Nat) (h : ∀ i ∈ (g n).1, okI i) : AllM (further sk o g) n := by
  intro p hp
  have hg : ∀ q, (∃ i, i ∈ (g n).1 ∧ (false, i) = q) → (q.1 = true → (q.2.op = 15 ∨ q.2.op = 16) ∧ q.2.b = 0) ∧ (q.1 = false → okI q.2) := by
    rintro q ⟨i, hi, rfl⟩
    exact ⟨fun e => (by cases e), fun _ => h i hi⟩
  have ho' : ∀ p, o = some p → ∀ q, q = (false, (⟨p, 0, 0⟩ : Ins)) → (q.1 = true → (q.2.op = 15 ∨ q.2.op = 16) ∧ q.2.b = 0) ∧ (q.1 = false → okI q.2) := by
    rintro p e q rfl
    exact ⟨fun e => (by cases e), fun _ => okI_bare (ho p e)⟩
  have hs' : ∀ s, sk = some s → ∀ q, q = (true, (⟨s, 0, 0⟩ : Ins)) → (q.1 = true → (q.2.op = 15 ∨ q.2.op = 16) ∧ q.2.b = 0) ∧ (q.1 = false → okI q.2) := by
    rintro s e q rfl
    refine ⟨fun _ => ⟨?_, rfl⟩, fun e => (by cases e)⟩
    rcases hs with h | h | h
    · rw [h] at e; cases e
    · rw [h] at e; cases e; exact .inl rfl
    · rw [h] at e; cases e; exact .inr rfl
  cases sk with
  | none =>
    cases o with
    | none =>
      simp only [further, EmitPlain.cat, EmitPlain.nop, EmitPlain.fin, List.length_nil, Nat.add_zero, List.nil_append, List.append_nil, List.mem_map] at hp
      exact hg p hp
    | some b =>
      simp only [further, EmitPlain.cat, EmitPlain.nop, EmitPlain.fin, EmitPlain.one, List.length_nil, Nat.add_zero, List.nil_append, List.mem_append, List.mem_map, List.mem_singleton] at hp
      exact hp.elim (hg p) (ho' b rfl p)
  | some a =>
    cases o with
    | none =>
      simp only [further, EmitPlain.cat, EmitPlain.nop, EmitPlain.fin, EmitPlain.skp, List.length_nil, Nat.add_zero, List.append_nil, List.mem_append, List.mem_map, List.mem_singleton] at hp
      exact hp.elim (hs' a rfl p) (hg p)
    | some b =>
      simp only [further, EmitPlain.cat, EmitPlain.nop, EmitPlain.fin, EmitPlain.one, EmitPlain.skp, List.length_nil, Nat.add_zero, List.mem_append, List.mem_map, List.mem_singleton] at hp
      exact hp.elim (hs' a rfl p) fun hp => hp.elim (hg p) (ho' b rfl p)
theorem furthers_b : ∀ (ks : List Qry), (∀ k ∈ ks, KB M (f k) k.size) → ∀ n, (furthers sk o (ks.map f) n).1.length ≤ 3 * sizes ks ∧ (furthers sk o (ks.map f) n).2.length ≤ sizes ks
  | [], _, n => by simp [furthers, nop]
  | k :: r, h, n => by
    have hk := h k (List.mem_cons_self ..)
    have h1 := further_b (sk := sk) (o := o) (f k) n
    have h2 := furthers_b r (fun k hm => h k (List.mem_cons_of_mem _ hm)) (n + (further sk o (f k) n).2.length)
    have h3 := cat_len (further sk o (f k)) (furthers sk o (r.map f)) n
    have h4 := hk.len n
    have h5 := hk.nears n
    simp only [List.map_cons, furthers, sizes]
    omega
theorem furthers_ok (hs : skO sk) (ho : opO o) : ∀ (ks : List Qry), (∀ k ∈ ks, KB M (f k) k.size) → ∀ n, n + sizes ks ≤ M → AllM (furthers sk o (ks.map f)) n
  | [], _, n, _ => AllM.nop n
  | k :: r, h, n, hn => by
    have hk := h k (List.mem_cons_self ..)
    simp only [sizes] at hn
    have h5 := hk.nears n
    have h6 := (further_b (sk := sk) (o := o) (f k) n).2
    simp only [List.map_cons, furthers]
    exact AllM.cat (further_ok hs ho _ _ (hk.ok n (by omega))) (furthers_ok hs ho r (fun k hm => h k (List.mem_cons_of_mem _ hm)) _ (by omega))
theorem chn_b (ks : List Qry) (h : ∀ k ∈ ks, KB M (f k) k.size) (n : Nat) : (ks ≠ [] → (chn sk o (ks.map f) n).1.length + 2 ≤ 3 * sizes ks) ∧ (chn sk o (ks.map f) n).1.length ≤ 3 * sizes ks ∧ (chn sk o (ks.map f) n).2.length ≤ sizes ks := by
  cases ks with
  | nil => simp [chn, nop]
  | cons k r =>
    have hk := h k (List.mem_cons_self ..)
    have h2 := furthers_b (sk := sk) (o := o) r (fun k hm => h k (List.mem_cons_of_mem _ hm)) (n + (fin (f k) n).2.length)
    have h3 := cat_len (fin (f k)) (furthers sk o (r.map f)) n
    have h4 := hk.len n
    have h5 := hk.nears n
    have h6 : (fin (f k) n).1.length = (f k n).1.length ∧ (fin (f k) n).2.length = (f k n).2.length := by simp [fin]
    simp only [List.map_cons, chn, sizes]
    refine ⟨fun _ => ?_, ?_, ?_⟩ <;> omega
theorem chn_ok (hs : skO sk) (ho : opO o) (ks : List Qry) (h : ∀ k ∈ ks, KB M (f k) k.size) (n : Nat) (hn : n + sizes ks ≤ M) : AllM (chn sk o (ks.map f)) n := by
  cases ks with
  | nil => exact AllM.nop n
  | cons k r =>
    have hk := h k (List.mem_cons_self ..)
    simp only [sizes] at hn
    have h5 := hk.nears n
    have h6 : (fin (f k) n).2.length = (f k n).2.length := by simp [fin]
    simp only [List.map_cons, chn]
    exact AllM.cat (AllM.fin (hk.ok n (by omega))) (furthers_ok hs ho r (fun k hm => h k (List.mem_cons_of_mem _ hm)) _ (by omega))
end
theorem split_cons (a : Int) (oc : List Int) (o : Int) (k : Qry) (ks : List Qry) : split (a :: oc) o (k :: ks) = if a = o then k :: split oc o ks else split oc o ks := by
  unfold split
  simp only [List.zip_cons_cons, List.filter_cons]
  by_cases h : a = o
  · rw [if_pos h]; simp [h]
  · rw [if_neg h]; simp [h]
theorem split_sizes : ∀ (oc : List Int) (ks : List Qry), sizes (split oc 1 ks) + sizes (split oc 0 ks) + sizes (split oc 2 ks) ≤ sizes ks
  | [], ks => by simp [split, sizes]
  | a :: oc, [] => by simp [split, sizes]
  | a :: oc, k :: ks => by
    have ih := split_sizes oc ks
    rw [split_cons, split_cons, split_cons]
    by_cases h1 : a = 1
    · rw [if_pos h1, if_neg (by omega), if_neg (by omega)]; simp only [sizes]; omega
    · by_cases h0 : a = 0
      · rw [if_neg h1, if_pos h0, if_neg (by omega)]; simp only [sizes]; omega
      · by_cases h2 : a = 2
        · rw [if_neg h1, if_neg h0, if_pos h2]; simp only [sizes]; omega
        · rw [if_neg h1, if_neg h0, if_neg h2]; simp only [sizes]; omega
theorem split_mem {oc : List Int} {o : Int} {ks : List Qry} {k : Qry} (h : k ∈ split oc o ks) : k ∈ ks := by
  unfold split at h
  obtain ⟨p, hp, rfl⟩ := List.mem_map.1 h
  exact (List.of_mem_zip (List.mem_filter.1 hp).1).1
theorem sizes_pos {ks : List Qry} (h : ks ≠ []) : 0 < sizes ks := by
  cases ks with
  | nil => exact absurd rfl h
  | cons k r => have := k.size_pos; simp only [sizes]; omega
theorem sizes_len (ks : List Qry) : ks.length ≤ sizes ks := by
  induction ks with
  | nil => simp [sizes]
  | cons k r ih => have := k.size_pos; simp only [sizes, List.length_cons]; omega

theorem some_b {M : Nat} {f : Qry → Lay} (nd : Int) (full : Bool) (S : List Qry) (hS : S ≠ []) (h : ∀ k ∈ S, KB M (f k) k.size) (n : Nat) : (someF nd full (S.map f) n).1.length + 1 ≤ 3 * sizes S ∧ (someF nd full (S.map f) n).2.length ≤ sizes S := by
  have h1 := chn_b (sk := if nd = 1 ∧ full = false then some 16 else none) (o := if nd = 1 then some 7 else none) S h n
  have h2 := h1.1 hS
  unfold someF shut
  simp only [landR_length, List.length_append]
  by_cases hn : 1 < nd
  · rw [if_pos hn]; simp only [List.length_cons, List.length_nil]; omega
  · rw [if_neg hn]; simp only [List.length_nil]; omega
theorem some_ok {M : Nat} {f : Qry → Lay} (nd : Int) (full : Bool) (S : List Qry) (h : ∀ k ∈ S, KB M (f k) k.size) (n : Nat) (hn : n + sizes S ≤ M) (hs : sizes S ≤ 1099511627776) (h0 : 0 ≤ nd) (h1 : nd ≤ 1099511627776) : ∀ i ∈ (someF nd full (S.map f) n).1, okI i := by
  have hb := chn_b (sk := if nd = 1 ∧ full = false then some 16 else none) (o := if nd = 1 then some 7 else none) S h n
  have hlen := sizes_len S
  have hk := chn_ok (sk := if nd = 1 ∧ full = false then some 16 else none) (o := if nd = 1 then some 7 else none) (by unfold skO; split <;> first | exact .inr (.inr rfl) | exact .inl rfl) (by intro p; split <;> intro e <;> cases e; decide) S h n hn
  intro i hi
  unfold someF at hi
  simp only [List.mem_append] at hi
  rcases hi with hi | hi
  · exact shut_ok hk (by omega) i hi
  · split at hi
    · simp only [List.mem_cons, List.not_mem_nil, or_false] at hi
      subst hi
      exact okI_two (by decide) (by decide) ⟨by omega, by rw [List.length_map]; omega⟩ ⟨h0, by omega⟩
    · cases hi

def Bd (F : Lay?) (a b : Nat) : Prop := ∀ n, (F n).1.length ≤ a ∧ (F n).2.length ≤ b
theorem Bd.cat {F G : Lay?} {a b c d : Nat} (h : Bd F a b) (k : Bd G c d) : Bd ((EmitPlain.cat F G)) (a + c) (b + d) := fun n => by
  have := cat_len F G n
  have h1 := h n
  have h2 := k (n + (F n).2.length)
  omega
theorem Bd.mono {F : Lay?} {a b c d : Nat} (h : Bd F a b) (h1 : a ≤ c) (h2 : b ≤ d) : Bd F c d := fun n => by
  have := h n
  omega
theorem Bd.nop : Bd EmitPlain.nop 0 0 := fun n => by simp [EmitPlain.nop]
theorem Bd.one (o a b : Int) : Bd (EmitPlain.one o a b) 1 0 := fun n => by simp [EmitPlain.one]
theorem Bd.skp (o : Int) : Bd (EmitPlain.skp o) 1 0 := fun n => by simp [EmitPlain.skp]
def AllN (M : Nat) (F : Lay?) (b : Nat) : Prop := ∀ n, n + b ≤ M → AllM F n
theorem AllN.cat {M : Nat} {F G : Lay?} {a b d : Nat} (h : AllN M F b) (hb : Bd F a b) (k : AllN M G d) : AllN M ((EmitPlain.cat F G)) (b + d) := fun n hn => by
  have := hb n
  exact AllM.cat (h n (by omega)) (k _ (by omega))

section
variable {M : Nat} {e : Qry → Bool → Lay} {Ms Ss Xs : List Qry} (hM : ∀ b, ∀ k ∈ Ms, KB M (e k b) k.size) (hS : ∀ b, ∀ k ∈ Ss, KB M (e k b) k.size) (hX : ∀ b, ∀ k ∈ Xs, KB M (e k b) k.size)
include hM hS hX
theorem listM_b (nd : Int) (full : Bool) (hnd : nd ≤ Ss.length) (h0 : 0 ≤ nd) : Bd (listM nd full (Ms.map fun k => e k full) (Ss.map fun k => e k full) (Xs.map fun k => e k false)) (3 * (sizes Ms + sizes Ss + sizes Xs) + 1) (sizes Ms + sizes Ss + sizes Xs) := by
  unfold listM
  have b1 : Bd (chn (some 15) (some 6) (Ms.map fun k => e k full)) (if Ms = [] then 0 else 3 * sizes Ms - 2) (sizes Ms) := fun n => by
    have := chn_b (sk := some 15) (o := some 6) Ms (hM full) n
    refine ⟨?_, this.2.2⟩
    split
    · rename_i h; subst h; simp [chn, EmitPlain.nop]
    · rename_i h; have := this.1 h; omega
  have b3 : Bd (furthers (some 15) (some 10) (Xs.map fun k => e k false)) (3 * sizes Xs) (sizes Xs) := fun n => furthers_b Xs (hX false) n
  have hp := fun h => sizes_pos (ks := Ms) h
  rcases (by omega : 0 < nd ∨ nd = 0) with h | h
  · have hne : Ss ≠ [] := by intro e; rw [e] at hnd; simp at hnd; omega
    have hps := sizes_pos hne
    rw [if_pos h, if_neg (show ¬ (nd = 0 ∧ _) by omega)]
    have b2 : Bd (fin (someF nd full (Ss.map fun k => e k full))) (3 * sizes Ss - 1) (sizes Ss) := fun n => by
      have := some_b nd full Ss hne (hS full) n
      have h6 : (fin (someF nd full (Ss.map fun k => e k full)) n).1.length = (someF nd full (Ss.map fun k => e k full) n).1.length ∧ (fin (someF nd full (Ss.map fun k => e k full)) n).2.length = (someF nd full (Ss.map fun k => e k full) n).2.length := by simp [fin]
      omega
    by_cases hm : Ms = []
    · rw [if_pos (by rw [hm]; rfl), if_pos (by rw [hm]; rfl)]
      rw [if_pos hm] at b1
      exact (b1.cat ((Bd.nop.cat (b2.cat Bd.nop)).cat (b3.cat Bd.nop))).mono (by omega) (by omega)
    · have hm' : ¬ (Ms.map fun k => e k full) = [] := by simpa using hm
      rw [if_neg hm', if_neg hm']
      rw [if_neg hm] at b1
      have := hp hm
      exact (b1.cat (((Bd.skp 15).cat (b2.cat (Bd.one 6 0 0))).cat (b3.cat Bd.nop))).mono (by omega) (by omega)
  · rw [if_neg (show ¬ 0 < nd by omega)]
    have b1' := b1.mono (show (if Ms = [] then 0 else 3 * sizes Ms - 2) ≤ 3 * sizes Ms by split <;> omega) (Nat.le_refl _)
    have b4 : Bd (if nd = 0 ∧ (Ss.map fun k => e k full) ≠ [] ∧ full = true then (EmitPlain.cat (skp 15) (furthers none (some 9) (Ss.map fun k => e k full))) else nop) (1 + 3 * sizes Ss) (sizes Ss) := by
      split
      · exact ((Bd.skp 15).cat (show Bd _ _ _ from fun n => furthers_b Ss (hS full) n)).mono (by omega) (by omega)
      · exact Bd.nop.mono (by omega) (by omega)
    exact (b1'.cat (Bd.nop.cat (b3.cat b4))).mono (by omega) (by omega)
theorem listM_ok (nd : Int) (full : Bool) (hnd : nd ≤ Ss.length) (h0 : 0 ≤ nd) (hs : sizes Ss ≤ 1099511627776) (n : Nat) (hn : n + (sizes Ms + sizes Ss + sizes Xs) ≤ M) : AllM (listM nd full (Ms.map fun k => e k full) (Ss.map fun k => e k full) (Xs.map fun k => e k false)) n := by
  unfold listM
  have hl := sizes_len Ss
  have s15 : skO (some 15) := .inr (.inl rfl)
  have o6 : opO (some 6) := fun p e => by cases e; decide
  have o10 : opO (some 10) := fun p e => by cases e; decide
  have o9 : opO (some 9) := fun p e => by cases e; decide
  have b1 : Bd (chn (some 15) (some 6) (Ms.map fun k => e k full)) (3 * sizes Ms) (sizes Ms) := fun n => (chn_b (sk := some 15) (o := some 6) Ms (hM full) n).2
  have b3 : Bd (furthers (some 15) (some 10) (Xs.map fun k => e k false)) (3 * sizes Xs) (sizes Xs) := fun n => furthers_b Xs (hX false) n
  have a1 : AllN M (chn (some 15) (some 6) (Ms.map fun k => e k full)) (sizes Ms) := fun n hn => chn_ok s15 o6 Ms (hM full) n hn
  have a3 : AllN M (furthers (some 15) (some 10) (Xs.map fun k => e k false)) (sizes Xs) := fun n hn => furthers_ok s15 o10 Xs (hX false) n hn
  have n0 : AllN M nop 0 := fun n _ => AllM.nop n
  rcases (by omega : 0 < nd ∨ nd = 0) with h | h
  · rw [if_pos h, if_neg (show ¬ (nd = 0 ∧ _) by omega)]
    have hne : Ss ≠ [] := by intro e; rw [e] at hnd; simp at hnd; omega
    have af : AllN M (fin (someF nd full (Ss.map fun k => e k full))) (sizes Ss) := fun n hn => AllM.fin (some_ok nd full Ss (hS full) n hn hs h0 (by omega))
    have bf : Bd (fin (someF nd full (Ss.map fun k => e k full))) (3 * sizes Ss) (sizes Ss) := fun n => by
      have := some_b nd full Ss hne (hS full) n
      have h6 : (fin (someF nd full (Ss.map fun k => e k full)) n).1.length = (someF nd full (Ss.map fun k => e k full) n).1.length ∧ (fin (someF nd full (Ss.map fun k => e k full)) n).2.length = (someF nd full (Ss.map fun k => e k full) n).2.length := by simp [fin]
      omega
    have p1 : Bd (if (Ms.map fun k => e k full) = [] then nop else skp 15) 1 0 := by split <;> first | exact Bd.nop.mono (by omega) (by omega) | exact Bd.skp 15
    have p2 : Bd (if (Ms.map fun k => e k full) = [] then nop else one 6 0 0) 1 0 := by split <;> first | exact Bd.nop.mono (by omega) (by omega) | exact Bd.one _ _ _
    have q1 : AllN M (if (Ms.map fun k => e k full) = [] then nop else skp 15) 0 := by split <;> first | exact n0 | exact fun n _ => AllM.skp (.inl rfl) n
    have q2 : AllN M (if (Ms.map fun k => e k full) = [] then nop else one 6 0 0) 0 := by split <;> first | exact n0 | exact fun n _ => AllM.one (by decide) n
    exact a1.cat b1 ((q1.cat p1 (af.cat bf q2)).cat (p1.cat (bf.cat p2)) (a3.cat b3 n0)) n (by omega)
  · rw [if_neg (show ¬ 0 < nd by omega)]
    have a4 : AllN M (if nd = 0 ∧ (Ss.map fun k => e k full) ≠ [] ∧ full = true then (EmitPlain.cat (skp 15) (furthers none (some 9) (Ss.map fun k => e k full))) else nop) (sizes Ss) := by
      split
      · have := AllN.cat (M := M) (F := skp 15) (b := 0) (fun n _ => AllM.skp (.inl rfl) n) (Bd.skp 15) (G := furthers none (some 9) (Ss.map fun k => e k full)) (d := sizes Ss) (fun n hn => furthers_ok (.inl rfl) o9 Ss (hS full) n hn)
        rw [Nat.zero_add] at this
        exact this
      · exact fun n _ => AllM.nop n
    exact a1.cat b1 (n0.cat Bd.nop (a3.cat b3 a4)) n (by omega)
end
inductive WfQ : Qry → Prop
  | mk (hd : Head) (ks : List Qry) (h : Hwf hd) (hk : ∀ k ∈ ks, WfQ k) : WfQ (.mk hd ks)
theorem wfQ {w : World} {B : Nat} {cs : List Value} {q : Qry} (h : QVal w B cs q) : WfQ q := by
  induction h with
  | mk hd ks A1 A2 A3 A4 c1 c2 c3 c4 cs hw hk h1 h2 h3 h4 h5 ih =>
    exact .mk hd ks hw fun k hm => by
      obtain ⟨i, hi⟩ := List.getElem?_of_mem hm
      exact ih i k hi
theorem fitu {x : Int} (h : (Lit.int .u64 x).wf = true) : 0 ≤ x ∧ x < 18446744073709551616 := by
  have h' : (decide ((0 : Int) ≤ x) && decide (x ≤ (18446744073709551615 : Int))) = true := h
  simp at h'
  omega
theorem wt_ok {hd : Head} (h : Hwf hd) (full : Bool) : 0 ≤ wt hd full ∧ wt hd full < 18446744073709551616 := by
  unfold wt
  have := fitu h.weight
  split <;> omega

theorem emit_kb (x : Lf → Int) (hnum : ∀ l, 0 ≤ x l ∧ x l < 9223372036854775808) (q : Qry) : GoodQ q → WfQ q → q.size ≤ 1099511627776 → ∀ full, KB 1099511627776 (emit x q full) q.size := by
  induction q using Qry.ind with
  | h q ih =>
    intro hg hw hsz
    obtain ⟨hd, ks, hl, hk⟩ := hg
    obtain ⟨_, _, hwf, hwk⟩ := hw
    simp only [Qry.kids] at ih
    simp only [Qry.size] at hsz ⊢
    have IH : ∀ full, ∀ k ∈ ks, KB 1099511627776 (emit x k full) k.size := fun full k hm => ih k hm (hk k hm) (hwk k hm) (by have := sizes_mem hm; omega) full
    intro full
    have hwt := wt_ok hwf full
    have hfl := fit_lt hwf.field
    rcases hl.kind with e | e | e | e | e | e | e | e | e | e
    · refine ⟨fun n => ?_, fun n => ?_, fun n hn i hi => ?_⟩
      · rw [emit1 x hd ks full n e]; simp <;> omega
      · rw [emit1 x hd ks full n e]; simp
      · rw [emit1 x hd ks full n e] at hi; simp at hi; subst hi; exact okI_bare (by decide)
    · refine ⟨fun n => ?_, fun n => ?_, fun n hn i hi => ?_⟩
      · rw [emit2 x hd ks full n e]; simp <;> omega
      · rw [emit2 x hd ks full n e]; simp
      · rw [emit2 x hd ks full n e] at hi; simp at hi; subst hi; exact okI_bare (by decide)
    · have := hl.has e
      refine ⟨fun n => ?_, fun n => ?_, fun n hn i hi => ?_⟩
      · rw [emit3 x hd ks full n e]; simp <;> omega
      · rw [emit3 x hd ks full n e]; simp
      · rw [emit3 x hd ks full n e] at hi; simp at hi; subst hi; exact okI_one (by decide) (by decide) ⟨by omega, by omega⟩
    · have := hnum ⟨hd.field, hd.text⟩
      refine ⟨fun n => ?_, fun n => ?_, fun n hn i hi => ?_⟩
      · rw [emit4 x hd ks full n e]; simp <;> omega
      · rw [emit4 x hd ks full n e]; simp
      · rw [emit4 x hd ks full n e] at hi; simp at hi; subst hi; exact okI_two (by decide) (by decide) ⟨by omega, by omega⟩ hwt
    · refine ⟨fun n => ?_, fun n => ?_, fun n hn i hi => ?_⟩
      · rw [emit5 x hd ks full n e]; simp <;> omega
      · rw [emit5 x hd ks full n e]; simp <;> omega
      · rw [emit5 x hd ks full n e] at hi; simp at hi; subst hi; exact okI_two (by decide) (by decide) ⟨by omega, by omega⟩ hwt
    · have hlst := hl.lst e
      have hb : ∀ k ∈ ks, ∀ full, KB 1099511627776 (emit x k full) k.size := fun k hm full => IH full k hm
      have hM := fun (b : Bool) (k : Qry) (hk : k ∈ split hd.occur 1 ks) => hb k (split_mem hk) b
      have hS := fun (b : Bool) (k : Qry) (hk : k ∈ split hd.occur 0 ks) => hb k (split_mem hk) b
      have hX := fun (b : Bool) (k : Qry) (hk : k ∈ split hd.occur 2 ks) => hb k (split_mem hk) b
      have hss := split_sizes hd.occur ks
      have hnd : 0 ≤ need hd (split hd.occur 1 ks).length ∧ need hd (split hd.occur 1 ks).length ≤ 1099511627776 := by
        unfold need
        split <;> omega
      have key : ∀ n, (emit x (.mk hd ks) full n = ([⟨1, 0, 0⟩], [])) ∨ (need hd (split hd.occur 1 ks).length ≤ (split hd.occur 0 ks).length ∧ emit x (.mk hd ks) full n = shut (listM (need hd (split hd.occur 1 ks).length) full ((split hd.occur 1 ks).map fun k => emit x k full) ((split hd.occur 0 ks).map fun k => emit x k full) ((split hd.occur 2 ks).map fun k => emit x k false)) n) := by
        intro n
        rw [emit10 x hd ks full n e]
        unfold listF
        simp only [split_map, List.map_map, List.length_map, Function.comp_def]
        split
        · exact .inl rfl
        · exact .inr ⟨by omega, rfl⟩
      have hb2 := listM_b hM hS hX (need hd (split hd.occur 1 ks).length) full
      refine ⟨fun n => ?_, fun n => ?_, fun n hn i hi => ?_⟩
      · rcases key n with e1 | ⟨e2, e1⟩
        · rw [e1]; simp <;> omega
        · rw [e1]; have := hb2 e2 hnd.1 n; unfold shut; simp only [landR_length]; omega
      · rcases key n with e1 | ⟨e2, e1⟩
        · rw [e1]; simp
        · rw [e1]; have := hb2 e2 hnd.1 n; unfold shut; dsimp only; omega
      · rcases key n with e1 | ⟨e2, e1⟩
        · rw [e1] at hi; simp at hi; subst hi; exact okI_bare (by decide)
        · rw [e1] at hi
          have := hb2 e2 hnd.1 n
          exact shut_ok (listM_ok hM hS hX _ full e2 hnd.1 (by omega) n (by omega)) (by omega) i hi
    · have hc := fun n => chn_b (sk := if full then none else some 16) (o := some 8) ks (IH full) n
      refine ⟨fun n => ?_, fun n => ?_, fun n hn i hi => ?_⟩
      · rw [emit11 x hd ks full n e]; have := hc n; unfold shut; simp only [landR_length]; omega
      · rw [emit11 x hd ks full n e]; have := hc n; unfold shut; dsimp only; omega
      · rw [emit11 x hd ks full n e] at hi
        have := hc n
        exact shut_ok (chn_ok (by unfold skO; split <;> first | exact .inr (.inr rfl) | exact .inl rfl) (fun p e => by cases e; decide) ks (IH full) n (by omega)) (by omega) i hi
    all_goals
      obtain ⟨k, r, rfl⟩ : ∃ k r, ks = k :: r := by
        cases ks with
        | nil => have := hl.one (by simp [e]); simp at this
        | cons k r => exact ⟨k, r, rfl⟩
      have hkb := fun b => IH b k (List.mem_cons_self ..)
      simp only [sizes] at hsz ⊢
    · have l1 := (hkb false).len
      have l2 := (hkb false).nears
      refine ⟨fun n => ?_, fun n => ?_, fun n hn i hi => ?_⟩
      · rw [emit12 x hd _ full n e]; have := l1 n; simp [kid0]; omega
      · rw [emit12 x hd _ full n e]; have := l2 n; simp [kid0]; omega
      · rw [emit12 x hd _ full n e] at hi
        simp only [kid0, List.map_cons, List.mem_append, List.mem_singleton] at hi
        rcases hi with hi | hi
        · exact (hkb false).ok n (by omega) i hi
        · subst hi; exact okI_bare (by decide)
    · have l1 := (hkb full).len
      have l2 := (hkb full).nears
      refine ⟨fun n => ?_, fun n => ?_, fun n hn i hi => ?_⟩
      · rw [emit13 x hd _ full n e]; have := l1 n; simp only [kid0, List.map_cons, List.length_append]; split <;> simp <;> omega
      · rw [emit13 x hd _ full n e]; have := l2 n; simp [kid0]; omega
      · rw [emit13 x hd _ full n e] at hi
        simp only [kid0, List.map_cons, List.mem_append] at hi
        rcases hi with hi | hi
        · exact (hkb full).ok n (by omega) i hi
        · split at hi
          · simp only [List.mem_singleton] at hi; subst hi; exact okI_one (by decide) (by decide) hwt
          · cases hi
    · have l1 := (hkb false).len
      have l2 := (hkb false).nears
      refine ⟨fun n => ?_, fun n => ?_, fun n hn i hi => ?_⟩
      · rw [emit14 x hd _ full n e]; have := l1 n; simp only [kid0, List.map_cons, List.length_append]; split <;> simp <;> omega
      · rw [emit14 x hd _ full n e]; have := l2 n; simp [kid0]; omega
      · rw [emit14 x hd _ full n e] at hi
        simp only [kid0, List.map_cons, List.mem_append] at hi
        rcases hi with hi | hi
        · exact (hkb false).ok n (by omega) i hi
        · split at hi
          · simp only [List.mem_singleton] at hi; subst hi; exact okI_one (by decide) (by decide) hwt
          · cases hi
end Go.Proofs.YtfpikilhbkeajaaGreatDoor.CodePlain
