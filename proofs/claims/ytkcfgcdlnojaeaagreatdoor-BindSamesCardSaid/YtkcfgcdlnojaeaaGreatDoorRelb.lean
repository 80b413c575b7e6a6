/-
  As Rel, where the kind of an operation's value may tell of the values of operations that come ahead of it in every order.
-/
import Derived.Test.YtkcfgcdlnojaeaaGreatDoorRel
namespace Go.Proofs.YtkcfgcdlnojaeaaGreatDoor.Relb
open Rel

abbrev Facts := Nat → (Nat → Value) → World → Prop

section
variable {P : Program} {ops : Array Oper}

def before (ops : Array Oper) (k : Nat) (js : List Nat) : Bool := js.all fun j => decide (j < k) && reach ops ops.size k j

def stepV (P : Program) (ops : Array Oper) (C : World → Prop) (le : World → World → Prop) (a0 : Act) (S : Facts) (k : Nat) (o : Oper) (T : List Value → Fact) (locs js : List Nat) : Prop :=
  ∀ vs w, C w → (∀ j ∈ js, S j vs w) → ∀ K : Act → World → Prop, (∀ v w', C w' → le w w' → T (locs.map vs) v w' → K ((putAll ops vs (deps ops k o) a0).put o.dst v) w') →
    if Region.wanted o (yielded ops (putAll ops vs (deps ops k o) a0).tmps) then o.wp P (putAll ops vs (deps ops k o) a0) w K (fun _ _ _ => False) else K ((putAll ops vs (deps ops k o) a0).put o.dst undef) w

def walkB (P : Program) (ops : Array Oper) (C : World → Prop) (le : World → World → Prop) (a0 : Act) (fin : Facts → Prop) : List Oper → Nat → Facts → Prop
  | [], _, S => fin S
  | o :: rest, k, S => ∃ (locs js : List Nat) (T : List Value → Fact), before ops k locs = true ∧ before ops k js = true ∧ (∀ l v w w', le w w' → T l v w → T l v w') ∧ stepV P ops C le a0 S k o T locs js ∧
      walkB P ops C le a0 fin rest (k + 1) (fun j => if j = k then fun vs w => T (locs.map vs) (vs k) w else S j)

/-- Does S j look at no other values than those of j and of what comes ahead of it? -/
def Local (ops : Array Oper) (S : Facts) (j : Nat) : Prop := ∀ vs vs' w, (∀ i, i = j ∨ (i < j ∧ reach ops ops.size j i = true) → vs i = vs' i) → S j vs w → S j vs' w

theorem before_mem {k j : Nat} {js : List Nat} (h : before ops k js = true) (hj : j ∈ js) : j < k ∧ reach ops ops.size k j = true := by
  have := List.all_eq_true.1 h j hj
  rw [Bool.and_eq_true] at this
  exact ⟨of_decide_eq_true this.1, this.2⟩

theorem walkB_all {C : World → Prop} {le : World → World → Prop} {a0 : Act} {fin : Facts → Prop} : ∀ (l : List Oper) (k : Nat) (S : Facts), (∀ j, l[j]? = ops[k + j]?) → walkB P ops C le a0 fin l k S →
    ∃ S' : Facts, (∀ j, j < k → S' j = S j) ∧ (∀ j o, k ≤ j → ops[j]? = some o → (∀ vs w w', le w w' → S' j vs w → S' j vs w') ∧ Local ops S' j ∧
      ∃ (locs js : List Nat) (T : List Value → Fact), before ops j locs = true ∧ before ops j js = true ∧ (∀ vs w, S' j vs w ↔ T (locs.map vs) (vs j) w) ∧ stepV P ops C le a0 S' j o T locs js) ∧ fin S'
  | [], k, S, hl, h => ⟨S, fun _ _ => rfl, fun j o hk ho => by
      have := hl (j - k)
      rw [show k + (j - k) = j by omega, ho] at this
      simp at this, h⟩
  | o :: rest, k, S, hl, ⟨locs, js, T, hlo, hjs, hT, hs, hr⟩ => by
    obtain ⟨S', h1, h2, h3⟩ := walkB_all rest (k + 1) _ (fun j => by have := hl (j + 1); simpa [Nat.add_assoc, Nat.add_comm 1 j] using this) hr
    have hk : S' k = fun vs w => T (locs.map vs) (vs k) w := by rw [h1 k (by omega)]; simp
    have hlt : ∀ j, j < k → S' j = S j := fun j hj => by rw [h1 j (by omega)]; simp [Nat.ne_of_lt hj]
    refine ⟨S', hlt, fun j o' hj ho => ?_, h3⟩
    rcases Nat.lt_or_ge k j with hlt' | hge
    · exact h2 j o' hlt' ho
    · obtain rfl : j = k := by omega
      have e : o' = o := by have := hl 0; simp at this; rw [ho] at this; exact (Option.some.inj this).symm
      subst e
      refine ⟨fun vs w w' hle h => ?_, fun vs vs' w he h => ?_, locs, js, T, hlo, hjs, fun vs w => by rw [hk], fun vs w hw hf => hs vs w hw fun i hi => ?_⟩
      · rw [hk] at h ⊢; exact hT _ _ _ _ hle h
      · rw [hk] at h ⊢
        have e1 : locs.map vs = locs.map vs' := List.map_congr_left fun i hi => he i (.inr (before_mem hlo hi))
        show T (locs.map vs') (vs' j) w
        rw [← e1, ← he j (.inl rfl)]
        exact h
      · rw [← hlt i (before_mem hjs hi).1]; exact hf i hi

structure InvB (ops : Array Oper) (C : World → Prop) (a0 : Act) (S : Facts) (vs : Nat → Value) (listed : Array Bool) (a : Act) (w : World) : Prop where
  inv : Inv ops C a0 (fun _ _ _ => True) vs listed a w
  facts : ∀ j, listed.getD j false = true → S j vs w

theorem relAnyB {size : Nat} (ok : Ok ops size) {C : World → Prop} {le : World → World → Prop} {a0 : Act} {S : Facts} {Q : Exit → Act → World → Prop} (h0 : a0.tmps.size = size)
    (hstep : ∀ j o, ops[j]? = some o → (∀ vs w w', le w w' → S j vs w → S j vs w') ∧ Local ops S j ∧
      ∃ (locs js : List Nat) (T : List Value → Fact), before ops j locs = true ∧ before ops j js = true ∧ (∀ vs w, S j vs w ↔ T (locs.map vs) (vs j) w) ∧ stepV P ops C le a0 S j o T locs js) (hrefl : ∀ w, le w w)
    (hfin : ∀ (vs : Nat → Value) w, C w → (∀ j, j < ops.size → S j vs w) → Q .normal (putAll ops vs (List.range ops.size) a0) w) :
    ∀ (fuel : Nat) (listed : Array Bool) (vs : Nat → Value) (a : Act) (w : World), undone ops listed ≤ fuel → InvB ops C a0 S vs listed a w → wpAny P .any ops Q fuel listed a w := by
  have hend : ∀ (listed : Array Bool) (vs : Nat → Value) (a : Act) (w : World), InvB ops C a0 S vs listed a w → (∀ j, j < ops.size → listed.getD j false = true) → Q .normal a w := by
    intro listed vs a w invB hall
    obtain ⟨inv, hfc⟩ := invB
    have hq := hfin vs w inv.cls fun j hj => hfc j (hall j hj)
    obtain ⟨h1, h2, h3, h4⟩ := putAll_spec ok vs (List.range ops.size) a0 h0 List.nodup_range (fun j hj => List.mem_range.1 hj)
    have e : putAll ops vs (List.range ops.size) a0 = a := by
      cases a with
      | mk tm df =>
        cases hp : putAll ops vs (List.range ops.size) a0 with
        | mk tm' df' =>
          rw [hp] at h1 h2 h3 h4
          have hd : df' = df := by have := inv.defers; simp only at this h1; rw [h1, this]
          have ht : tm' = tm := by
            refine Array.ext_getElem? fun t => ?_
            by_cases hex : ∃ j, j < ops.size ∧ dstOf ops j = some t
            · obtain ⟨j, hj, hd⟩ := hex
              have := inv.new j t (hall j hj) hd
              simp only at this
              rw [this]
              exact h4 j (List.mem_range.2 hj) t hd
            · have hno : ∀ j, dstOf ops j ≠ some t := fun j he => hex ⟨j, by
                unfold dstOf at he
                cases ho' : ops[j]? with
                | none => rw [ho'] at he; cases he
                | some o' => exact (Array.getElem?_eq_some_iff.1 ho').1, he⟩
              have := inv.old t (fun j _ => hno j)
              simp only at this
              rw [this]
              exact h3 t fun j _ => hno j
          rw [hd, ht]
    rw [e] at hq
    exact hq
  intro fuel
  induction fuel with
  | zero =>
    intro listed vs a w hu inv
    have hall : ∀ j, j < ops.size → listed.getD j false = true := fun j hj => by
      have h1 : undone ops listed = 0 := by omega
      have := List.countP_eq_zero.1 h1 j (List.mem_range.2 hj)
      simpa using this
    refine ⟨?_, hend listed vs a w inv hall⟩
    cases hr : Region.ready .any ops listed with
    | nil => rfl
    | cons i r =>
      have hi : i ∈ Region.ready .any ops listed := by rw [hr]; simp
      obtain ⟨h1, o, ho, _⟩ := mem_ready.1 hi
      have hlt : i < ops.size := (Array.getElem?_eq_some_iff.1 ho).1
      have h2 := hall i hlt
      rw [getD_false_iff (by rw [inv.inv.lsize]; exact hlt) false true, h1] at h2
      cases h2
  | succ fuel ih =>
    intro listed vs a w hu invB
    obtain ⟨inv, hfc⟩ := invB
    refine ⟨fun hr => hend listed vs a w ⟨inv, hfc⟩ (ready_all ok inv.lsize hr), fun i hi => ?_⟩
    obtain ⟨hun, o, ho, hl⟩ := mem_ready.1 hi
    have hlt : i < ops.size := (Array.getElem?_eq_some_iff.1 ho).1
    obtain ⟨hdep, hag⟩ := look_agree ok h0 inv ho hl
    obtain ⟨hst, hloc, locs, js, T, hlo, hjs, hST, hs⟩ := hstep i o ho
    obtain ⟨d, hd, hds⟩ := ok.dst ho
    have hil : i < listed.size := by rw [inv.lsize]; exact hlt
    have hun' : listed.getD i false = false := by rw [getD_false_iff hil false true]; exact hun
    have hlist : ∀ {j : Nat}, listed.getD j false = true → ∃ o', ops[j]? = some o' := fun {j} hjl => by
      have hjs : j < ops.size := by
        rcases Nat.lt_or_ge j listed.size with h | h
        · rw [inv.lsize] at h; exact h
        · simp [Array.getElem?_eq_none h] at hjl
      exact ⟨_, Array.getElem?_eq_getElem hjs⟩
    have hjl : ∀ j ∈ js, listed.getD j false = true := fun j hj => reach_listed inv _ i j o ho hl (before_mem hjs hj).2
    have hdone : undone ops (listed.setIfInBounds i true) ≤ fuel := by
      have : undone ops (listed.setIfInBounds i true) < undone ops listed := by
        refine count_lt (i := i) (List.mem_range.2 hlt) ?_ ?_ ?_
        · rw [hun']; rfl
        · rw [getD_set_self hil]; rfl
        · intro x hx
          cases hb : listed.getD x false with
          | false => rfl
          | true => rw [getD_set_true hb] at hx; cases hx
      omega
    have key := hs vs w inv.cls fun j hj => hfc j (hjl j hj)
    have hgo : ∀ v w', C w' → le w w' → T (locs.map vs) v w' → wpAny P .any ops Q fuel (listed.setIfInBounds i true) (a.put o.dst v) w' := fun v w' hC hle hv => by
      refine ih _ (fun j => if j = i then v else vs j) _ _ hdone ⟨inv.next ok h0 ho hun hl hC (fun _ _ _ => trivial) trivial, fun j hj => ?_⟩
      by_cases hji : j = i
      · subst hji
        refine (hST _ _).2 ?_
        have e1 : locs.map (fun j' => if j' = j then v else vs j') = locs.map vs := List.map_congr_left fun q hq => by rw [if_neg (by have := (before_mem hlo hq).1; omega)]
        rw [e1]; simpa using hv
      · rw [getD_set_ne false (Ne.symm hji)] at hj
        obtain ⟨o', ho'⟩ := hlist hj
        obtain ⟨hst', hloc', _⟩ := hstep j o' ho'
        refine hloc' vs _ w' (fun q hq => ?_) (hst' vs w w' hle (hfc j hj))
        have hql : listed.getD q false = true := by
          rcases hq with rfl | ⟨_, hq⟩
          · exact hj
          · exact reach_listed inv _ j q o' ho' (inv.closed j o' ho' hj) hq
        rw [if_neg (fun e => by rw [e, hun'] at hql; cases hql)]
    have hsz : (putAll ops vs (deps ops i o) a0).tmps.size = size := (putAll_spec ok vs (deps ops i o) a0 h0 (List.Pairwise.filter _ List.nodup_range) (fun j hj => by have := deps_lt hj; omega)).2.1
    have key2 := key (fun b w' => b.defers = (putAll ops vs (deps ops i o) a0).defers ∧ (C w' ∧ le w w' ∧ T (locs.map vs) (b.tmps.getD d undef) w')) fun v w' h1 h2 h3 => ⟨by rw [hd]; rfl, h1, h2, by rw [hd]; simpa [Act.put, hsz, hds] using h3⟩
    unfold wpOp
    simp only [ho]
    rw [wanted_agree hag] at key2
    by_cases hw : Region.wanted o (yielded ops a.tmps) = true
    · rw [if_pos hw] at key2
      rw [if_pos hw]
      exact .inl (wp_agree (R := fun v w' => C w' ∧ le w w' ∧ T (locs.map vs) v w') hd (by rw [hsz]; exact hds) (execOp_agree (Region.noSelect_spec ok.nosel i o · · ho) hag) key2 fun v w' ⟨h1, h2, h3⟩ => hgo v w' h1 h2 h3)
    · rw [if_neg hw] at key2
      rw [if_neg hw]
      obtain ⟨_, h1, h2, h3⟩ := key2
      have e : ((putAll ops vs (deps ops i o) a0).put o.dst undef).tmps.getD d undef = undef := by rw [hd]; simp [Act.put, hsz, hds]
      rw [e] at h3
      exact hgo undef w h1 h2 h3

/-- **One walk in the order of the text.** -/
theorem wp_region_relb {id : Nat} {Q : Exit → Act → World → Prop} {a : Act} {w : World} {l : List Oper} (C : World → Prop) (le : World → World → Prop) (hm : P.follows .mixedOrders = true) (hB : okB l.toArray a.tmps.size = true)
    (hC : C { w with drawn := w.drawn + 1 }) (hrefl : ∀ w, le w w)
    (h : walkB P l.toArray C le a (fun S => ∀ vs w', C w' → (∀ j, j < l.length → S j vs w') → Q .normal (putAll l.toArray vs (List.range l.length) a) w') l 0 (fun _ _ _ => True)) : (Code.region id l.toArray true).wp P Q a w := by
  have ok := okB_spec hB
  obtain ⟨S, _, h2, h3⟩ := walkB_all l 0 _ (by simp) h
  refine wp_region_any hm (relAnyB ok rfl (S := S) (fun j o ho => h2 j o (Nat.zero_le _) ho) hrefl (fun vs w' hw' hf => ?_) _ _ (fun _ => undef) _ _ ?_ ⟨?_, ?_⟩)
  · have := h3 vs w' hw' fun j hj => hf j (by simpa using hj)
    simpa using this
  · unfold undone
    exact Nat.le_trans (List.countP_le_length) (by simp)
  · refine ⟨hC, rfl, rfl, by simp, fun j o ho hj => ?_, fun t _ => rfl, fun j d hj => ?_, fun j hj => ?_⟩
    all_goals
      rw [getD_rep] at hj
      cases hj
  · intro j hj
    rw [getD_rep] at hj
    cases hj

/-- The slots written out. -/
def putD (vs : Nat → Value) : List (Nat × Tmp) → Act → Act
  | [], a => a
  | p :: js, a => putD vs js (a.put (some p.2) (vs p.1))
theorem putD_eq {vs : Nat → Value} : ∀ (js : List (Nat × Tmp)) (a : Act), js.all (fun p => dstOf ops p.1 == some p.2) = true → putAll ops vs (js.map (·.1)) a = putD vs js a
  | [], _, _ => rfl
  | p :: js, a, hd => by
    rw [List.all_cons, Bool.and_eq_true] at hd
    rw [List.map_cons, putAll, eq_of_beq hd.1]
    exact putD_eq js _ hd.2

theorem relb_kind {C : World → Prop} {le : World → World → Prop} {a0 : Act} {fin : Facts → Prop} {k : Nat} {S : Facts} {o : Oper} {rest : List Oper} (ds : List (Nat × Tmp)) (locs js : List Nat) (T : List Value → Fact)
    (hj : deps ops k o = ds.map (·.1)) (hd : ds.all (fun p => dstOf ops p.1 == some p.2) = true) (hlo : before ops k locs = true) (hjs : before ops k js = true) (hT : ∀ l v w w', le w w' → T l v w → T l v w')
    (hs : ∀ vs w, C w → (∀ j ∈ js, S j vs w) → ∀ K : Act → World → Prop, (∀ v w', C w' → le w w' → T (locs.map vs) v w' → K ((putD vs ds a0).put o.dst v) w') →
      if Region.wanted o (yielded ops (putD vs ds a0).tmps) then o.wp P (putD vs ds a0) w K (fun _ _ _ => False) else K ((putD vs ds a0).put o.dst undef) w)
    (hr : walkB P ops C le a0 fin rest (k + 1) (fun j => if j = k then fun vs w => T (locs.map vs) (vs k) w else S j)) : walkB P ops C le a0 fin (o :: rest) k S :=
  ⟨locs, js, T, hlo, hjs, hT, fun vs w hw hf K hK => by
    have := hs vs w hw hf K
    rw [hj, putD_eq ds a0 hd] at *
    exact this hK, hr⟩
theorem relb_one {C : World → Prop} {le : World → World → Prop} {a0 : Act} {fin : Facts → Prop} {k : Nat} {S : Facts} {o : Oper} {rest : List Oper} {u : Value} (ds : List (Nat × Tmp)) (js : List Nat)
    (hj : deps ops k o = ds.map (·.1)) (hd : ds.all (fun p => dstOf ops p.1 == some p.2) = true) (hjs : before ops k js = true)
    (hs : ∀ vs w, C w → (∀ j ∈ js, S j vs w) → ∀ K : Act → World → Prop, (∀ v w', C w' → le w w' → v = u → K ((putD vs ds a0).put o.dst v) w') →
      if Region.wanted o (yielded ops (putD vs ds a0).tmps) then o.wp P (putD vs ds a0) w K (fun _ _ _ => False) else K ((putD vs ds a0).put o.dst undef) w)
    (hr : walkB P ops C le a0 fin rest (k + 1) (fun j => if j = k then fun vs _ => vs k = u else S j)) : walkB P ops C le a0 fin (o :: rest) k S :=
  relb_kind ds [] js (fun _ v _ => v = u) hj hd (by rfl) hjs (fun _ _ _ _ _ h => h) hs hr
theorem relb_end {C : World → Prop} {le : World → World → Prop} {a0 : Act} {n k : Nat} {S : Facts} {Q : Exit → Act → World → Prop} (ds : List (Nat × Tmp)) (hn : List.range n = ds.map (·.1)) (hd : ds.all (fun p => dstOf ops p.1 == some p.2) = true)
    (h : ∀ vs w', C w' → (∀ j, j < n → S j vs w') → Q .normal (putD vs ds a0) w') :
    walkB P ops C le a0 (fun S => ∀ vs w', C w' → (∀ j, j < n → S j vs w') → Q .normal (putAll ops vs (List.range n) a0) w') [] k S :=
  fun vs w' hw hf => by rw [hn, putD_eq ds a0 hd]; exact h vs w' hw hf
end
end Go.Proofs.YtkcfgcdlnojaeaaGreatDoor.Relb
