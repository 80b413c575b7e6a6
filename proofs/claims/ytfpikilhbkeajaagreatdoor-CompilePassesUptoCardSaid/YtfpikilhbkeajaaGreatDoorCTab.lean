/-
  A program's tables in plain Lean: cursors that rise, their numbers, a drive each once.
  Memory laws for a program's tables.
  sort.Ints and all that it reaches, as this program bears it.
-/
import Derived.Test.YtfpikilhbkeajaaGreatDoorCSortL
import Derived.Test.YtfpikilhbkeajaaGreatDoorCLeaves
import Derived.Test.YtfpikilhbkeajaaGreatDoorChecked
import Derived.Shelf.Lays
set_option linter.unusedVariables false
set_option linter.unusedSimpArgs false
namespace Go.Proofs.YtfpikilhbkeajaaGreatDoor.TabPlain
open Go.Sort EmitPlain SortLeaf

def Ris (C : List Lf) : Prop := C.Pairwise fun a b => lfLt a b = true
theorem lfLt_eq {a b : Lf} (h : lfLt a b = false) (k : lfLt b a = false) : a = b := by
  obtain ⟨f, t⟩ := a
  obtain ⟨g, u⟩ := b
  unfold lfLt at h k
  simp only at h k
  by_cases e : f = g
  · subst e
    rw [if_pos rfl] at h k
    unfold ltStr at h k
    simp only [decide_eq_false_iff_not] at h k
    have h' : u.toList ≤ t.toList := List.not_lt.1 h
    have k' : t.toList ≤ u.toList := List.not_lt.1 k
    have e : t.toList = u.toList := List.le_antisymm k' h'
    have ea : t.data = u.data := by
      have e1 : t.data.toList = u.data.toList := by simpa [ByteArray.toList_eq] using e
      exact Array.toList_inj.1 e1
    obtain ⟨t⟩ := t
    obtain ⟨u⟩ := u
    simp at ea
    subst ea
    rfl
  · rw [if_neg e] at h
    rw [if_neg (fun h => e h.symm)] at k
    simp only [decide_eq_false_iff_not] at h k
    omega
theorem Ris.nodup {C : List Lf} (h : Ris C) : C.Nodup := List.Pairwise.imp (fun {a b} hab e => by subst e; rw [swo_lfLt.irrefl] at hab; cases hab) h
theorem ris_of {C : List Lf} (hn : C.Nodup) (hs : C.Pairwise fun a b => lfLt b a = false) : Ris C := by
  have := List.Pairwise.and hn hs
  refine List.Pairwise.imp (fun {a b} h => ?_) this
  cases hab : lfLt a b
  · exact absurd (lfLt_eq hab h.2) h.1
  · rfl
theorem ris_sorted {d : Array Lf} (hn : d.toList.Nodup) (hs : SortedIn lfLt 0 d.size d) : Ris d.toList := by
  refine ris_of hn (List.pairwise_iff_getElem.2 fun i j hi hj hij => ?_)
  have := hs i j (Nat.zero_le _) hij (by simpa using hj)
  rw [getElem!_pos d i (by simpa using hi), getElem!_pos d j (by simpa using hj)] at this
  simpa using this
theorem Ris.unique : ∀ {A B : List Lf}, Ris A → Ris B → (∀ l, l ∈ A ↔ l ∈ B) → A = B
  | [], [], _, _, _ => rfl
  | [], b :: B, _, _, h => absurd ((h b).2 (List.mem_cons_self ..)) (by simp)
  | a :: A, [], _, _, h => absurd ((h a).1 (List.mem_cons_self ..)) (by simp)
  | a :: A, b :: B, ha, hb, h => by
    have ha' := List.pairwise_cons.1 ha
    have hb' := List.pairwise_cons.1 hb
    have e : a = b := by
      rcases List.mem_cons.1 ((h a).1 (List.mem_cons_self ..)) with e | e
      · exact e
      · rcases List.mem_cons.1 ((h b).2 (List.mem_cons_self ..)) with e2 | e2
        · exact e2.symm
        · have h1 := hb'.1 a e
          have h2 := ha'.1 b e2
          have h3 := swo_lfLt.trans _ _ _ h1 h2
          rw [swo_lfLt.irrefl] at h3
          cases h3
    subst e
    congr 1
    refine Ris.unique ha'.2 hb'.2 fun l => ⟨fun hl => ?_, fun hl => ?_⟩
    · rcases List.mem_cons.1 ((h l).1 (List.mem_cons_of_mem _ hl)) with e | e
      · subst e
        have h1 := ha'.1 l hl
        rw [swo_lfLt.irrefl] at h1
        cases h1
      · exact e
    · rcases List.mem_cons.1 ((h l).2 (List.mem_cons_of_mem _ hl)) with e | e
      · subst e
        have h1 := hb'.1 l hl
        rw [swo_lfLt.irrefl] at h1
        cases h1
      · exact e

def numOf (C : List Lf) (l : Lf) : Int := if l ∈ C then (C.idxOf l : Int) else 0
theorem numOf_nil : numOf [] = fun _ => 0 := by funext l; simp [numOf]
theorem numOf_step {C : List Lf} {i : Nat} {c : Lf} (hn : C.Nodup) (h : C[i]? = some c) : (fun k => if k = c then (i : Int) else numOf (C.take i) k) = numOf (C.take (i + 1)) := by
  have hi : i < C.length := (List.getElem?_eq_some_iff.1 h).1
  have hc : c ∉ C.take i := by
    intro hm
    rw [List.mem_take_iff_getElem] at hm
    obtain ⟨j, hj, e⟩ := hm
    have e2 : C[j]'(by omega) = C[i] := by rw [e]; exact (List.getElem?_eq_some_iff.1 h).2.symm
    have hne := (List.pairwise_iff_getElem.1 hn) j i (by omega) hi (by omega)
    exact hne e2
  funext k
  unfold numOf
  rw [List.take_add_one, h]
  by_cases e : k = c
  · subst e
    rw [if_pos rfl, if_pos (by simp), List.idxOf_append, if_neg hc]
    simp [List.length_take, Nat.min_eq_left (Nat.le_of_lt hi)]
  · rw [if_neg e]
    by_cases hk : k ∈ C.take i
    · rw [if_pos hk, if_pos (List.mem_append_left _ hk), List.idxOf_append, if_pos hk]
    · rw [if_neg hk, if_neg (by simp [hk, e])]
theorem numOf_bnd (C : List Lf) (l : Lf) : 0 ≤ numOf C l ∧ numOf C l ≤ C.length := by
  unfold numOf
  split
  · rename_i h
    have := List.idxOf_lt_length_of_mem h
    omega
  · omega
theorem numOf_at {C : List Lf} {l : Lf} (h : l ∈ C) : ∃ k : Nat, k < C.length ∧ numOf C l = k ∧ C[k]? = some l := by
  have h1 := List.idxOf_lt_length_of_mem h
  refine ⟨C.idxOf l, h1, by unfold numOf; rw [if_pos h], ?_⟩
  rw [List.getElem?_eq_getElem h1, List.getElem_idxOf]

def dstep (D : List Int) (x : Int) : List Int := if D.getLast? = some x then D else D ++ [x]
def ddup (S : List Int) : List Int := S.foldl dstep []
theorem ddup_take {S : List Int} {i : Nat} {x : Int} (h : S[i]? = some x) : ddup (S.take (i + 1)) = dstep (ddup (S.take i)) x := by
  unfold ddup
  rw [List.take_add_one, h, List.foldl_append]
  rfl
theorem ddup_snoc (S : List Int) (x : Int) : ddup (S ++ [x]) = dstep (ddup S) x := by unfold ddup; rw [List.foldl_append]; rfl
theorem snoc_ind {α : Type} {P : List α → Prop} (h0 : P []) (h1 : ∀ l x, P l → P (l ++ [x])) (l : List α) : P l := by
  rw [← l.reverse_reverse]
  induction l.reverse with
  | nil => exact h0
  | cons a r ih => rw [List.reverse_cons]; exact h1 _ _ ih
theorem ddup_len (S : List Int) : (ddup S).length ≤ S.length := by
  induction S using snoc_ind with
  | h0 => simp [ddup]
  | h1 l x ih => rw [ddup_snoc]; unfold dstep; split <;> simp <;> omega
theorem ddup_ne {S : List Int} (h : S ≠ []) : ddup S ≠ [] := by
  induction S using snoc_ind with
  | h0 => exact absurd rfl h
  | h1 l x ih =>
    rw [ddup_snoc]
    unfold dstep
    split
    · rename_i e
      intro e2
      rw [e2] at e
      cases e
    · simp
theorem ddup_ris {S : List Int} (h : S.Pairwise (· ≤ ·)) : (ddup S).Pairwise (· < ·) ∧ ∀ x, x ∈ ddup S ↔ x ∈ S := by
  induction S using snoc_ind with
  | h0 => exact ⟨List.Pairwise.nil, fun x => Iff.rfl⟩
  | h1 l x ih =>
    obtain ⟨p1, _, p2⟩ := List.pairwise_append.1 h
    obtain ⟨i1, i2⟩ := ih p1
    rw [ddup_snoc]
    unfold dstep
    split
    · rename_i e
      have hx : x ∈ l := (i2 x).1 (List.mem_of_getLast? e)
      refine ⟨i1, fun y => ?_⟩
      rw [i2 y, List.mem_append, List.mem_singleton]
      exact ⟨.inl, fun h => h.elim id fun e => by subst e; exact hx⟩
    · rename_i e
      refine ⟨List.pairwise_append.2 ⟨i1, by simp, fun a ha b hb => ?_⟩, fun y => ?_⟩
      · simp only [List.mem_singleton] at hb
        subst hb
        have hle : ∀ a ∈ ddup l, a ≤ b := fun a ha => p2 a ((i2 a).1 ha) b (by simp)
        have hl := hle a ha
        rcases Int.lt_or_eq_of_le hl with h' | h'
        · exact h'
        · subst h'
          exfalso
          -- the last is at least a, so it is a
          have hne : ddup l ≠ [] := fun e => by rw [e] at ha; cases ha
          have hlast := List.getLast?_eq_some_getLast hne
          have hm := hle _ (List.getLast_mem hne)
          obtain ⟨pre, hpre⟩ : ∃ pre, ddup l = pre ++ [(ddup l).getLast hne] := ⟨_, (List.dropLast_concat_getLast hne).symm⟩
          have hge : a ≤ (ddup l).getLast hne := by
            rw [hpre] at ha i1
            rcases List.mem_append.1 ha with h1 | h1
            · exact Int.le_of_lt ((List.pairwise_append.1 i1).2.2 a h1 _ (by simp))
            · simp only [List.mem_singleton] at h1
              omega
          exact e (by rw [hlast]; congr 1; omega)
      · rw [List.mem_append, List.mem_append, i2 y]
def driveL (x : Lf → Int) (dr : List Lf) : List Int := ddup ((dr.map x).mergeSort fun a b => decide (a ≤ b))
theorem sorted_le (l : List Int) : (l.mergeSort fun a b => decide (a ≤ b)).Pairwise (· ≤ ·) := by
  have := List.pairwise_mergeSort (le := fun a b : Int => decide (a ≤ b)) (fun a b c h k => by simp at *; omega) (fun a b => by simp; omega) l
  exact List.Pairwise.imp (fun h => by simpa using h) this
theorem driveL_ris (x : Lf → Int) (dr : List Lf) : (driveL x dr).Pairwise (· < ·) ∧ ∀ y, y ∈ driveL x dr ↔ y ∈ dr.map x := by
  obtain ⟨h1, h2⟩ := ddup_ris (sorted_le (dr.map x))
  exact ⟨h1, fun y => (h2 y).trans ((List.mergeSort_perm _ _).mem_iff)⟩
end Go.Proofs.YtfpikilhbkeajaaGreatDoor.TabPlain

namespace Go.Proofs.YtfpikilhbkeajaaGreatDoor.TabMem
set_option maxRecDepth 100000
open Go.RowKit Go.PlainAid Base Query EmitPlain EmitBase EmitNear LeafMap AllLeaves LeafRange HitPlain HitBase

theorem own_cell {w : World} {B g n cap s : Nat} {e : TypeId} {xs : List Value} (h : w.ownsRow B e s (.slice (some ⟨g, 0, none⟩) n cap) n xs) {j : Nat} {u : Value} (hu : xs[j]? = some u) : w.cell? ⟨g, j, none⟩ = some u := by
  have := h.cells (g := g) rfl j u hu
  rw [Addr.add_lit, Nat.zero_add] at this
  exact this
theorem own_thaw {w : World} {B g n cap s : Nat} {e : TypeId} {xs : List Value} (h : w.ownsRow B e s (.slice (some ⟨g, 0, none⟩) n cap) n xs) (j : Nat) : w.frozen? ⟨g, j, none⟩ = false := by
  rcases h.2 with ⟨h', _⟩ | ⟨g', cap', cur, h', _, hg, _⟩
  · cases h'
  · simp only [Value.slice.injEq, Option.some.injEq, Addr.mk.injEq] at h'
    obtain ⟨⟨rfl, _⟩, _, rfl⟩ := h'
    simp [World.frozen?, hg]
theorem own_holds {w : World} {B g n cap : Nat} {L : List Lf} (h : w.ownsRow B 51 2 (.slice (some ⟨g, 0, none⟩) n cap) n (lfCs L)) : Go.Sort.HoldsK hitC 2 w g 0 L.toArray := by
  intro j hj
  rw [Go.Sort.size_flatK] at hj
  simp at hj
  have hk : j / 2 < L.length := by omega
  have hx : L[j / 2]? = some L[j / 2] := List.getElem?_eq_getElem hk
  have hgt : L.toArray[j / 2]! = L[j / 2] := by rw [getElem!_pos L.toArray (j / 2) (by simpa using hk)]; simp
  obtain ⟨d0, d1⟩ := lfCs_at L _ _ hx
  refine ⟨?_, by rw [Nat.zero_add]; exact own_thaw h j⟩
  rw [Nat.zero_add, Go.Sort.get_flatK _ _ _ _ (by simpa using hj), hgt]
  rcases Nat.mod_two_eq_zero_or_one j with h2 | h2
  · have e : j = j / 2 * 2 := by omega
    rw [← e] at d0
    rw [own_cell h d0, h2]
    rfl
  · have e : j = j / 2 * 2 + 1 := by omega
    rw [← e] at d1
    rw [own_cell h d1, h2]
    rfl
theorem isNum_same {w w' : World} {b n : Nat} {x : Lf → Int} (h : IsNum w b n x) (hb : w'.heap[b]? = w.heap[b]?) : IsNum w' b n x := by
  obtain ⟨D, ⟨es, clock, h1, h2⟩, h3⟩ := h
  exact ⟨D, ⟨es, clock, hb.trans h1, h2⟩, h3⟩
theorem isSet_same {w w' : World} {b n : Nat} {S : List Lf} (h : IsSet w b n S) (hb : w'.heap[b]? = w.heap[b]?) : IsSet w' b n S := by
  obtain ⟨D, ⟨es, clock, h1, h2⟩, h3⟩ := h
  exact ⟨D, ⟨es, clock, hb.trans h1, h2⟩, h3⟩
theorem foot_slc {w w' : World} {ok : Nat → Prop} {B : Nat} {A : Option Addr} {xs : List Value} (h : Foot w w' ok) (hs : Slc w B A xs) (hB : B ≤ w.heap.size) (hok : ∀ k, k < B → ok k) : Slc w' B A xs := fun hx => by
  obtain ⟨g, o, e, hg, hc⟩ := hs hx
  exact ⟨g, o, e, hg, fun j u hu => (h.cell (p := ⟨g, o + j, none⟩) (by show g < _; omega) (hok g hg)).trans (hc j u hu)⟩
theorem foot_own {w w' : World} {ok : Nat → Prop} {base size n : Nat} {e : TypeId} {v : Value} {xs : List Value} (h : Foot w w' ok) (hown : w.ownsRow base e size v n xs) (hv : ∀ g, base ≤ g → g < w.heap.size → ok g) : w'.ownsRow base e size v n xs :=
  h.own hown fun g hg => hv g (hown.lt g hg).1 (hown.lt g hg).2
theorem own_slc {w : World} {base size n : Nat} {e : TypeId} {A : Option Addr} {c : Nat} {xs : List Value} (h : w.ownsRow base e size (.slice A n c) n xs) : Slc w w.heap.size A xs := slc_own h
theorem foot_chain {a b c : World} {ok : Nat → Prop} (h : Foot a b ok) (k : Below b.heap.size b c) : Foot a c ok := h.trans (Foot.ofBelow k ok)
theorem foot_below {a b : World} {ok : Nat → Prop} {B : Nat} (h : Foot a b ok) (hB : ∀ k, k < B → ok k) (hs : B ≤ a.heap.size) : Below B a b := h.toBelow hB hs
open Go.Sort SortBase SortSlice TabPlain in
theorem own_of_row {w w' : World} {B g n cap : Nat} {L M : List Lf} (h : w.ownsRow B 51 2 (.slice (some ⟨g, 0, none⟩) n cap) n (lfCs L)) (hr : SortBase.Rw w g 0 n w' M.toArray) :
    w'.ownsRow B 51 2 (.slice (some ⟨g, 0, none⟩) n cap) n (lfCs M) := by
  have hM : M.length = n := by simpa using hr.size
  rcases h.2 with ⟨h', _⟩ | ⟨g', cap', cur, h', hb, hg, hnc, hcm, hcs, htake⟩
  · simp at h'
  · simp only [Value.slice.injEq, Option.some.injEq, Addr.mk.injEq, and_true, true_and] at h'
    obtain ⟨rfl, rfl⟩ := h'
    obtain ⟨cur', hg', hsz⟩ := hr.shape cur _ _ hg
    refine ⟨by rw [lfCs_len, hM], .inr ⟨g, cap, cur', rfl, hb, hg', hnc, hcm, by omega, ?_⟩⟩
    apply List.ext_getElem?
    intro j
    rw [List.getElem?_take]
    by_cases hj : j < n * 2
    · rw [if_pos hj]
      have hcell : w'.cell? ⟨g, j, none⟩ = cur'[j]? := cell_of_row w' g j cur' _ (0, 0) hg'
      have hk : j / 2 < M.length := by omega
      have hx : M[j / 2]? = some M[j / 2] := List.getElem?_eq_getElem hk
      have hgt : M.toArray[j / 2]! = M[j / 2] := by rw [getElem!_pos M.toArray (j / 2) (by simpa using hk)]; simp
      obtain ⟨d0, d1⟩ := lfCs_at M _ _ hx
      rw [Array.getElem?_toList, ← hcell]
      rcases Nat.mod_two_eq_zero_or_one j with h2 | h2
      · have e : j = j / 2 * 2 := by omega
        have h0 := SortLeaf.hold0 hr.holds (i := j / 2) (by simpa using hk)
        rw [hgt, ← e] at h0
        rw [h0]
        rw [← e] at d0
        exact d0.symm
      · have e : j = j / 2 * 2 + 1 := by omega
        have h0 := SortLeaf.hold1 hr.holds (i := j / 2) (by simpa using hk)
        rw [hgt, ← e] at h0
        rw [h0]
        rw [← e] at d1
        exact d1.symm
    · rw [if_neg hj, List.getElem?_eq_none (by rw [lfCs_len, hM]; omega)]

open Go.Shelf Go.Sort SortBase SortLay SortSlice TabPlain in
set_option maxHeartbeats 1000000 in
theorem sort_own (T : List Lf) (v : Value) (A : Option Addr) (c B Bs : Nat) (w : World) (hv : v = .slice A T.length c) (hown : w.ownsRow B 51 2 v T.length (lfCs T)) (hn : T.Nodup) (hl : T.length ≤ 1073741824) (hs : w.cell? ⟨Bs, 1, none⟩ = some v) (hBs : Bs < B) :
    Calls Tryz.prog 46 #[.iface 30 v, .func (.func 47) #[] #[.pointer (some ⟨Bs, 0, none⟩)]] w fun e w' =>
      e = .returned (.tuple #[]) ∧ ∃ C : List Lf, Ris C ∧ (∀ l, l ∈ C ↔ l ∈ T) ∧ C.length = T.length ∧ Foot w w' (fun k => k < B ∨ v.ownBlock ≠ some k) ∧ w'.ownsRow B 51 2 v T.length (lfCs C) := by
  rcases hown.2 with ⟨e, h0⟩ | ⟨g, cap, cur, e, hb, hg, _⟩
  · obtain rfl : T = [] := List.eq_nil_of_length_eq_zero h0
    subst e
    have hS := Any.sort_Slice_tiny (P := Tryz.prog) (ρ := ren) lays 30 51 hT hE (by kernel_rfl) (by kernel_rfl) (by kernel_rfl) (by kernel_rfl) 25 (fun _ => by kernel_rfl) none 0 0 (by omega) (92 + 0) (by rw [show Go.Lib.swapperK 0 hE 25 = 0 + 1 by simp [Go.Lib.swapperK]]; exact fn_tiny 0 (by omega)) (.func 47) #[] #[.pointer (some ⟨Bs, 0, none⟩)] w
    refine hS.mono ?_
    rintro e w' ⟨rfl, os, rfl⟩
    have hb : Go.RowKit.Below w.heap.size w (Sort.grow w os) := ⟨rfl, rfl, rfl, by rw [size_grow]; omega, fun k hk => by
      show (w.heap ++ os)[k]? = _
      rw [Array.getElem?_append_left hk]⟩
    exact ⟨rfl, [], List.Pairwise.nil, fun l => Iff.rfl, rfl, Foot.ofBelow hb _, own_below hown hb⟩
  · subst hv
    simp only [Value.slice.injEq] at e
    obtain ⟨rfl, _, rfl⟩ := e
    have hlt : g < w.heap.size := (Array.getElem?_eq_some_iff.1 hg).1
    have hBw : Bs < w.heap.size := by omega
    have hS := slice_any g c Bs T.toArray w (own_holds hown) hlt (by simp; omega) (by simpa using hs) hBw (by omega)
    simp only [List.size_toArray] at hS
    refine hS.mono ?_
    rintro e w' ⟨rfl, d', ⟨p1, _, p3⟩, hsd, hr⟩
    have hsz : d'.size = T.length := by simpa using p1
    have hp : d'.toList.Perm T := by
      have e1 : d'.extract 0 T.length = d' := by rw [← hsz]; exact Array.extract_size
      have e2 : T.toArray.extract 0 T.length = T.toArray := by
        have := Array.extract_size (xs := T.toArray)
        rw [List.size_toArray] at this
        exact this
      rw [e1, e2] at p3
      simpa using p3
    refine ⟨rfl, d'.toList, ris_sorted (hp.nodup_iff.2 hn) (by rw [hsz]; exact hsd), fun l => hp.mem_iff, by simpa using hsz, hr.foot.imp fun k _ hk => ?_, own_of_row hown (M := d'.toList) (by simpa using hr)⟩
    rcases hk with hk | hk
    · omega
    · intro e
      subst e
      exact hk rfl
end Go.Proofs.YtfpikilhbkeajaaGreatDoor.TabMem

namespace Go.Proofs.YtfpikilhbkeajaaGreatDoor.IntsLay
open Go.Shelf
set_option maxRecDepth 100000

def ren : Go.Shelf.Ren := ⟨fun | 191 => 75 | 189 => 111 | 125 => 73 | 257 => 121 | 128 => 101 | 129 => 102 | 294 => 124 | 295 => 125 | 296 => 126 | 297 => 127 | 298 => 128 | 299 => 129 | 216 => 130 | 300 => 131 | 301 => 132 | 328 => 133 | 329 => 134 | 330 => 135 | 331 => 136 | 332 => 137 | 215 => 138 | 343 => 139 | n => n, fun | 28 => 23 | 0 => 0 | 3 => 3 | 46 => 154 | 51 => 175 | 53 => 24 | 4 => 4 | 183 => 210 | 182 => 209 | 131 => 106 | 5 => 5 | 9 => 9 | 218 => 217 | 222 => 197 | 228 => 220 | 229 => 206 | n => n, fun n => n⟩
theorem lays : Lays.n191 Tryz.prog ren := {
  mixed := by kernel_rfl,
  f125 := Tryz.func73.trans (congrArg some (by kernel_rfl)),
  f128 := Tryz.func101.trans (congrArg some (by kernel_rfl)),
  f129 := Tryz.func102.trans (congrArg some (by kernel_rfl)),
  f189 := Tryz.func111.trans (congrArg some (by kernel_rfl)),
  f191 := Tryz.func75.trans (congrArg some (by kernel_rfl)),
  f215 := Tryz.func138.trans (congrArg some (by kernel_rfl)),
  f216 := Tryz.func130.trans (congrArg some (by kernel_rfl)),
  f257 := Tryz.func121.trans (congrArg some (by kernel_rfl)),
  f294 := Tryz.func124.trans (congrArg some (by kernel_rfl)),
  f295 := Tryz.func125.trans (congrArg some (by kernel_rfl)),
  f296 := Tryz.func126.trans (congrArg some (by kernel_rfl)),
  f297 := Tryz.func127.trans (congrArg some (by kernel_rfl)),
  f298 := Tryz.func128.trans (congrArg some (by kernel_rfl)),
  f299 := Tryz.func129.trans (congrArg some (by kernel_rfl)),
  f300 := Tryz.func131.trans (congrArg some (by kernel_rfl)),
  f301 := Tryz.func132.trans (congrArg some (by kernel_rfl)),
  f328 := Tryz.func133.trans (congrArg some (by kernel_rfl)),
  f329 := Tryz.func134.trans (congrArg some (by kernel_rfl)),
  f330 := Tryz.func135.trans (congrArg some (by kernel_rfl)),
  f331 := Tryz.func136.trans (congrArg some (by kernel_rfl)),
  f332 := Tryz.func137.trans (congrArg some (by kernel_rfl)),
  f343 := Tryz.func139.trans (congrArg some (by kernel_rfl)),
  t0 := Tryz.underlying0,
  a0 := Tryz.isAgg0,
  z0 := Tryz.sizeOf0,
  v0 := Tryz.zeroValue0,
  t3 := Tryz.underlying3,
  a3 := Tryz.isAgg3,
  z3 := Tryz.sizeOf3,
  v3 := Tryz.zeroValue3,
  t4 := Tryz.underlying4,
  a4 := Tryz.isAgg4,
  z4 := Tryz.sizeOf4,
  v4 := Tryz.zeroValue4,
  t5 := Tryz.underlying5,
  a5 := Tryz.isAgg5,
  z5 := Tryz.sizeOf5,
  v5 := Tryz.zeroValue5,
  t9 := Tryz.underlying9,
  a9 := Tryz.isAgg9,
  z9 := Tryz.sizeOf9,
  v9 := Tryz.zeroValue9,
  t28 := Tryz.underlying23,
  a28 := Tryz.isAgg23,
  z28 := Tryz.sizeOf23,
  v28 := Tryz.zeroValue23,
  t46 := Tryz.underlying154,
  a46 := Tryz.isAgg154,
  z46 := Tryz.sizeOf154,
  v46 := Tryz.zeroValue154,
  t51 := Tryz.underlying175,
  a51 := Tryz.isAgg175,
  z51 := Tryz.sizeOf175,
  v51 := Tryz.zeroValue175,
  t53 := Tryz.underlying24,
  a53 := Tryz.isAgg24,
  z53 := Tryz.sizeOf24,
  v53 := Tryz.zeroValue24,
  t131 := Tryz.underlying106,
  a131 := Tryz.isAgg106,
  z131 := Tryz.sizeOf106,
  v131 := Tryz.zeroValue106,
  t182 := Tryz.underlying209,
  a182 := Tryz.isAgg209,
  z182 := Tryz.sizeOf209,
  v182 := Tryz.zeroValue209,
  t183 := Tryz.underlying210,
  a183 := Tryz.isAgg210,
  z183 := Tryz.sizeOf210,
  v183 := Tryz.zeroValue210,
  t218 := Tryz.underlying217,
  a218 := Tryz.isAgg217,
  z218 := Tryz.sizeOf217,
  v218 := Tryz.zeroValue217,
  t222 := Tryz.underlying197,
  a222 := Tryz.isAgg197,
  z222 := Tryz.sizeOf197,
  v222 := Tryz.zeroValue197,
  t228 := Tryz.underlying220,
  a228 := Tryz.isAgg220,
  z228 := Tryz.sizeOf220,
  v228 := Tryz.zeroValue220,
  t229 := Tryz.underlying206,
  a229 := Tryz.isAgg206,
  z229 := Tryz.sizeOf206,
  v229 := Tryz.zeroValue206 }
end Go.Proofs.YtfpikilhbkeajaaGreatDoor.IntsLay
