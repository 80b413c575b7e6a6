/-
  As Relb, where the last operations of the region come behind all the others in every order: these are walked one behind the other.
-/
import Derived.Test.YtkcfgcdlnojaeaaGreatDoorRelb
import Derived.Tactics
namespace Go.Proofs.YtkcfgcdlnojaeaaGreatDoor.RelbT
open Rel Relb

section
variable {P : Program} {ops : Array Oper}

/-- As Rel.Ok, of the first m operations. -/
def okTB (ops : Array Oper) (size m : Nat) : Bool :=
  Region.noSelect ops &&
  ((List.range ops.size).all fun k => match ops[k]? with
    | some o => (o.after.all fun e => !Region.binds .any e || decide (e.on < k)) && (!decide (k < m) || ((match o.dst with | some d => decide (d < size) | none => false) &&
        ((List.range m).all fun j => match dstOf ops j with
          | some d => (j == k || o.dst != some d) && (!(o.looksAt ops).contains d || (decide (j < k) && reach ops 4 k j))
          | none => true)))
    | none => true)

structure OkT (ops : Array Oper) (size m : Nat) : Prop where
  nosel : Region.noSelect ops = true
  dst : ∀ {k : Nat} {o : Oper}, k < m → ops[k]? = some o → ∃ d, o.dst = some d ∧ d < size
  back : ∀ {k : Nat} {o : Oper}, ops[k]? = some o → ∀ e ∈ o.after, Region.binds .any e = true → e.on < k
  one : ∀ {k j : Nat} {o o' : Oper} {d : Tmp}, k < m → j < m → ops[k]? = some o → ops[j]? = some o' → o.dst = some d → o'.dst = some d → j = k
  look : ∀ {k j : Nat} {o o' : Oper} {d : Tmp}, k < m → j < m → ops[k]? = some o → ops[j]? = some o' → o'.dst = some d → d ∈ o.looksAt ops → j < k ∧ reach ops 4 k j = true

theorem okTB_spec {size m : Nat} (h : okTB ops size m = true) : OkT ops size m := by
  unfold okTB at h
  rw [Bool.and_eq_true] at h
  have hk : ∀ {k : Nat} {o : Oper}, ops[k]? = some o → ((o.after.all fun e => !Region.binds .any e || decide (e.on < k)) && (!decide (k < m) || ((match o.dst with | some d => decide (d < size) | none => false) &&
        ((List.range m).all fun j => match dstOf ops j with
          | some d => (j == k || o.dst != some d) && (!(o.looksAt ops).contains d || (decide (j < k) && reach ops 4 k j))
          | none => true)))) = true := fun {k o} ho => by
    have := List.all_eq_true.1 h.2 k (List.mem_range.2 (Array.getElem?_eq_some_iff.1 ho).1)
    simp only [ho] at this
    exact this
  have hk2 : ∀ {k : Nat} {o : Oper}, k < m → ops[k]? = some o → ((match o.dst with | some d => decide (d < size) | none => false) &&
        ((List.range m).all fun j => match dstOf ops j with
          | some d => (j == k || o.dst != some d) && (!(o.looksAt ops).contains d || (decide (j < k) && reach ops 4 k j))
          | none => true)) = true := fun {k o} hkm ho => by
    have := hk ho
    rw [Bool.and_eq_true] at this
    have h2 := this.2
    rw [decide_eq_true hkm] at h2
    simpa only [Bool.not_true, Bool.false_or] using h2
  have hj : ∀ {k j : Nat} {o o' : Oper} {d : Tmp}, k < m → j < m → ops[k]? = some o → ops[j]? = some o' → o'.dst = some d → ((j == k || o.dst != some d) && (!(o.looksAt ops).contains d || (decide (j < k) && reach ops 4 k j))) = true := fun {k j o o' d} hkm hjm ho ho' hd => by
    have h1 := hk2 hkm ho
    rw [Bool.and_eq_true] at h1
    have h2 := List.all_eq_true.1 h1.2 j (List.mem_range.2 hjm)
    have e : dstOf ops j = some d := by unfold dstOf; rw [ho']; exact hd
    simp only [e] at h2
    exact h2
  refine ⟨h.1, fun {k o} hkm ho => ?_, fun {k o} ho e he hb => ?_, fun {k j o o' d} hkm hjm ho ho' hd hd' => ?_, fun {k j o o' d} hkm hjm ho ho' hd hl => ?_⟩
  · have h1 := hk2 hkm ho
    rw [Bool.and_eq_true] at h1
    have h2 := h1.1
    cases hd : o.dst with
    | none => simp [hd] at h2
    | some d => simp only [hd] at h2; exact ⟨d, rfl, of_decide_eq_true h2⟩
  · have h1 := hk ho
    rw [Bool.and_eq_true] at h1
    have h2 := Array.all_eq_true_iff_forall_mem.1 h1.1 e he
    simp only [hb, Bool.not_true, Bool.false_or] at h2
    exact of_decide_eq_true h2
  · have h1 := hj hkm hjm ho ho' hd'
    rw [Bool.and_eq_true] at h1
    have h2 := h1.1
    rw [hd] at h2
    simpa using h2
  · have h1 := hj hkm hjm ho ho' hd
    rw [Bool.and_eq_true] at h1
    have h2 := h1.2
    rw [Bool.or_eq_true, Bool.and_eq_true] at h2
    rcases h2 with h2 | h2
    · simp [hl] at h2
    · exact ⟨of_decide_eq_true h2.1, h2.2⟩

theorem putAll_specT {size m : Nat} (ok : OkT ops size m) (hms : m ≤ ops.size) (vs : Nat → Value) : ∀ (js : List Nat) (a : Act), a.tmps.size = size → js.Nodup → (∀ j ∈ js, j < m) →
    (putAll ops vs js a).defers = a.defers ∧ (putAll ops vs js a).tmps.size = size ∧ (∀ t, (∀ j ∈ js, dstOf ops j ≠ some t) → (putAll ops vs js a).tmps[t]? = a.tmps[t]?) ∧ (∀ j ∈ js, ∀ d, dstOf ops j = some d → (putAll ops vs js a).tmps[d]? = some (vs j))
  | [], a, hs, _, _ => ⟨rfl, hs, fun _ _ => rfl, fun _ h => by cases h⟩
  | j :: js, a, hs, hn, hl => by
    have hjm : j < m := hl j (by simp)
    have hj : j < ops.size := Nat.lt_of_lt_of_le hjm hms
    obtain ⟨o, ho⟩ : ∃ o, ops[j]? = some o := ⟨_, Array.getElem?_eq_getElem hj⟩
    obtain ⟨d, hd, hds⟩ := ok.dst hjm ho
    have e : dstOf ops j = some d := by unfold dstOf; rw [ho]; exact hd
    have hs' : (a.put (dstOf ops j) (vs j)).tmps.size = size := by rw [e]; simpa [Act.put] using hs
    obtain ⟨h1, h2, h3, h4⟩ := putAll_specT ok hms vs js _ hs' (List.nodup_cons.1 hn).2 fun i hi => hl i (by simp [hi])
    refine ⟨by rw [putAll, h1, e]; rfl, h2, fun t ht => ?_, fun i hi d' hd' => ?_⟩
    · rw [putAll, h3 t fun i hi => ht i (by simp [hi]), e]
      have hne : d ≠ t := fun e' => ht j (by simp) (by rw [e, e'])
      simp [Act.put, Array.getElem?_setIfInBounds_ne hne]
    · rcases List.mem_cons.1 hi with rfl | hi'
      · rw [e] at hd'
        obtain rfl := Option.some.inj hd'
        rw [putAll, h3 d fun i' hi' he => ?_, e]
        · simp [Act.put, Array.getElem?_setIfInBounds, hs, hds]
        · obtain ⟨o', ho'⟩ : ∃ o', ops[i']? = some o' := ⟨_, Array.getElem?_eq_getElem (Nat.lt_of_lt_of_le (hl i' (by simp [hi'])) hms)⟩
          have : i' = i := ok.one hjm (hl i' (by simp [hi'])) ho ho' hd (by unfold dstOf at he; rw [ho'] at he; exact he)
          subst this
          exact (List.nodup_cons.1 hn).1 hi'
      · exact h4 i hi' d' hd'

/-- The frame of the operation, out of what lies in its own. -/
theorem look_agreeT {size m : Nat} (ok : OkT ops size m) (hms : m ≤ ops.size) {C : World → Prop} {a0 : Act} {S : Nat → Fact} {vs : Nat → Value} {listed : Array Bool} {a : Act} {w : World} (h0 : a0.tmps.size = size) (inv : Inv ops C a0 S vs listed a w)
    (htl : ∀ j, m ≤ j → listed.getD j false = false) {k : Nat} {o : Oper} (hkm : k < m) (ho : ops[k]? = some o) (hl : ∀ e ∈ o.after, Region.binds .any e = true → listed.getD e.on false = true) :
    (∀ j ∈ deps ops k o, listed.getD j false = true) ∧ ∀ t ∈ o.looksAt ops, (putAll ops vs (deps ops k o) a0).tmps[t]? = a.tmps[t]? := by
  have hdl : ∀ j ∈ deps ops k o, j < m := fun j hj => by have := deps_lt hj; omega
  have hdep : ∀ j ∈ deps ops k o, listed.getD j false = true := fun j hj => by
    obtain ⟨o', ho'⟩ : ∃ o', ops[j]? = some o' := ⟨_, Array.getElem?_eq_getElem (Nat.lt_of_lt_of_le (hdl j hj) hms)⟩
    obtain ⟨d, hd, _⟩ := ok.dst (hdl j hj) ho'
    have h2 := (List.mem_filter.1 hj).2
    have e : dstOf ops j = some d := by unfold dstOf; rw [ho']; exact hd
    simp only [e] at h2
    exact reach_listed inv 4 k j o ho hl (ok.look hkm (hdl j hj) ho ho' hd (by simpa using h2)).2
  refine ⟨hdep, fun t ht => ?_⟩
  obtain ⟨_, _, h3, h4⟩ := putAll_specT ok hms vs (deps ops k o) a0 h0 (List.Pairwise.filter _ List.nodup_range) hdl
  by_cases hex : ∃ j, j < m ∧ dstOf ops j = some t
  · obtain ⟨j, hj, hd⟩ := hex
    obtain ⟨o', ho'⟩ : ∃ o', ops[j]? = some o' := ⟨_, Array.getElem?_eq_getElem (Nat.lt_of_lt_of_le hj hms)⟩
    have hd' : o'.dst = some t := by unfold dstOf at hd; rw [ho'] at hd; exact hd
    have hlk := ok.look hkm hj ho ho' hd' ht
    have hm : j ∈ deps ops k o := List.mem_filter.2 ⟨List.mem_range.2 hlk.1, by simp only [hd]; simpa using ht⟩
    rw [h4 j hm t hd, inv.new j t (hdep j hm) hd]
  · have hno : ∀ j, j < m → dstOf ops j ≠ some t := fun j hj he => hex ⟨j, hj, he⟩
    rw [h3 t (fun j hj => hno j (hdl j hj)), inv.old t (fun j hj => hno j (by
      rcases Nat.lt_or_ge j m with h | h
      · exact h
      · rw [htl j h] at hj; cases hj))]

theorem Inv.nextT {size m : Nat} (ok : OkT ops size m) {C : World → Prop} {a0 : Act} {S : Nat → Fact} {vs : Nat → Value} {listed : Array Bool} {a : Act} {w w' : World} (h0 : a0.tmps.size = size) (inv : Inv ops C a0 S vs listed a w)
    (htl : ∀ j, m ≤ j → listed.getD j false = false) {k : Nat} {o : Oper} (hkm : k < m) (ho : ops[k]? = some o) (hun : listed.getD k true = false) (hl : ∀ e ∈ o.after, Region.binds .any e = true → listed.getD e.on false = true) {v : Value}
    (hC : C w') (hst : ∀ j, listed.getD j false = true → S j (vs j) w → S j (vs j) w') (hv : S k v w') : Inv ops C a0 S (fun j => if j = k then v else vs j) (listed.setIfInBounds k true) (a.put o.dst v) w' := by
  have hk : k < ops.size := (Array.getElem?_eq_some_iff.1 ho).1
  have hkl : k < listed.size := by rw [inv.lsize]; exact hk
  obtain ⟨d, hd, hds⟩ := ok.dst hkm ho
  have ed : dstOf ops k = some d := by unfold dstOf; rw [ho]; exact hd
  have hne : ∀ {j : Nat}, j < m → j ≠ k → dstOf ops j ≠ some d := fun {j} hjm hj he => by
    unfold dstOf at he
    cases ho' : ops[j]? with
    | none => rw [ho'] at he; cases he
    | some o' => rw [ho'] at he; exact hj (ok.one hkm hjm ho ho' hd he)
  have hun' : listed.getD k false = false := by rw [getD_false_iff hkl false true]; exact hun
  refine ⟨hC, ?_, ?_, by simpa using inv.lsize, fun j o' ho' hj e he hb => ?_, fun t ht => ?_, fun j d' hj hd' => ?_, fun j hj => ?_⟩
  · rw [hd]; simpa [Act.put] using inv.size
  · rw [hd]; exact inv.defers
  · by_cases hjk : k = j
    · subst hjk
      rw [ho] at ho'
      obtain rfl := Option.some.inj ho'
      exact getD_set_true (hl e he hb)
    · rw [getD_set_ne false hjk] at hj
      exact getD_set_true (inv.closed j o' ho' hj e he hb)
  · have hdt : d ≠ t := fun e => ht k (getD_set_self hkl false) (by rw [ed, e])
    rw [hd]
    simp only [Act.put, Array.getElem?_setIfInBounds_ne hdt]
    exact inv.old t fun j hj => ht j (getD_set_true hj)
  · by_cases hjk : j = k
    · subst hjk
      rw [ed] at hd'
      obtain rfl := Option.some.inj hd'
      rw [hd]
      simp [Act.put, inv.size, h0, hds]
    · rw [getD_set_ne false (Ne.symm hjk)] at hj
      have hdd : d ≠ d' := fun e => hne (by
        rcases Nat.lt_or_ge j m with h | h
        · exact h
        · rw [htl j h] at hj; cases hj) hjk (by rw [hd', e])
      rw [hd]
      simp only [Act.put, Array.getElem?_setIfInBounds_ne hdd, if_neg hjk]
      exact inv.new j d' hj hd'
  · by_cases hjk : j = k
    · subst hjk; simpa using hv
    · rw [getD_set_ne false (Ne.symm hjk)] at hj
      simp only [if_neg hjk]
      exact hst j hj (inv.facts j hj)

theorem ready_allT {size m : Nat} (ok : OkT ops size m) {listed : Array Bool} (hs : listed.size = ops.size) (h : Region.ready .any ops listed = []) : ∀ j, j < ops.size → listed.getD j false = true := by
  intro j
  induction j using Nat.strongRecOn with
  | _ j ih =>
    intro hj
    obtain ⟨o, ho⟩ : ∃ o, ops[j]? = some o := ⟨_, Array.getElem?_eq_getElem hj⟩
    cases hb : listed.getD j false with
    | true => rfl
    | false =>
      have : j ∈ Region.ready .any ops listed := mem_ready.2 ⟨by rw [getD_false_iff (by omega) true false]; exact hb, o, ho, fun e he hbd => by
        have hlt := ok.back ho e he hbd
        exact ih e.on hlt (by omega)⟩
      rw [h] at this
      cases this

/-- From number m on, each operation comes behind all that stand ahead of it. -/
def tailOk (ops : Array Oper) (m : Nat) : Bool := (List.range ops.size).all fun j => decide (j < m) || (List.range j).all fun i => reach ops ops.size j i
theorem tailOk_spec {m : Nat} (h : tailOk ops m = true) {j i : Nat} (hj : j < ops.size) (hm : m ≤ j) (hi : i < j) : reach ops ops.size j i = true := by
  have h1 := List.all_eq_true.1 h j (List.mem_range.2 hj)
  rw [Bool.or_eq_true] at h1
  rcases h1 with h1 | h1
  · have := of_decide_eq_true h1; omega
  · exact List.all_eq_true.1 h1 i (List.mem_range.2 hi)

theorem reach_closed {listed : Array Bool} (hc : ∀ j o, ops[j]? = some o → listed.getD j false = true → ∀ e ∈ o.after, Region.binds .any e = true → listed.getD e.on false = true) :
    ∀ (f k j : Nat) (o : Oper), ops[k]? = some o → (∀ e ∈ o.after, Region.binds .any e = true → listed.getD e.on false = true) → reach ops f k j = true → listed.getD j false = true
  | 0, _, _, _, _, _, h => by cases h
  | f + 1, k, j, o, ho, hl, h => by
    simp only [reach, ho] at h
    obtain ⟨e, he, hh⟩ := Array.any_eq_true'.1 h
    rw [Bool.and_eq_true, Bool.or_eq_true] at hh
    have hle := hl e he hh.1
    rcases hh.2 with h1 | h1
    · rw [← eq_of_beq h1]; exact hle
    · cases ho' : ops[e.on]? with
      | none =>
        cases f with
        | zero => cases h1
        | succ f => simp [reach, ho'] at h1
      | some o' => exact reach_closed hc f e.on j o' ho' (hc e.on o' ho' hle) h1

theorem tail_any {size m : Nat} {Q : Exit → Act → World → Prop} (ok : OkT ops size m) (ht : tailOk ops m = true) : ∀ (l : List Oper) (q : Nat) (fuel : Nat) (listed : Array Bool) (a : Act) (w : World), (∀ j, l[j]? = ops[q + j]?) → m ≤ q → listed.size = ops.size →
    (∀ j, j < ops.size → listed.getD j false = decide (j < q)) → ops.size - q ≤ fuel → wpList P ops Q l a w → wpAny P .any ops Q fuel listed a w
  | [], q, fuel, listed, a, w, hl, hm, hs, hf, hfu, h => by
    have hq : ops.size ≤ q := by
      have := hl 0
      simp only [List.getElem?_nil, Nat.add_zero] at this
      exact Array.getElem?_eq_none_iff.1 this.symm
    have hno : ∀ i, i ∈ Region.ready .any ops listed → False := fun i hi => by
      obtain ⟨h1, o, ho, _⟩ := mem_ready.1 hi
      have hlt : i < ops.size := (Array.getElem?_eq_some_iff.1 ho).1
      have h2 := hf i hlt
      rw [decide_eq_true (by omega : i < q), getD_false_iff (by rw [hs]; exact hlt) false true, h1] at h2
      cases h2
    have hn : Region.ready .any ops listed = [] := by
      cases hr : Region.ready .any ops listed with
      | nil => rfl
      | cons i r => exact (hno i (by rw [hr]; simp)).elim
    cases fuel with
    | zero => exact ⟨hn, h⟩
    | succ fuel => exact ⟨fun _ => h, fun i hi => (hno i hi).elim⟩
  | o :: rest, q, fuel, listed, a, w, hl, hm, hs, hf, hfu, h => by
    have hoq : ops[q]? = some o := by have := hl 0; simpa using this.symm
    have hq : q < ops.size := (Array.getElem?_eq_some_iff.1 hoq).1
    have hqf : listed.getD q false = false := by rw [hf q hq]; exact decide_eq_false (by omega)
    have hc : ∀ j o, ops[j]? = some o → listed.getD j false = true → ∀ e ∈ o.after, Region.binds .any e = true → listed.getD e.on false = true := fun j o' ho' hj e he hb => by
      have hjs : j < ops.size := (Array.getElem?_eq_some_iff.1 ho').1
      have h1 := hf j hjs
      rw [hj] at h1
      have h2 := of_decide_eq_true h1.symm
      have h3 := ok.back ho' e he hb
      rw [hf e.on (by omega)]
      exact decide_eq_true (by omega)
    cases fuel with
    | zero => omega
    | succ fuel =>
      refine ⟨fun hr => ?_, fun i hi => ?_⟩
      · have := ready_allT ok hs hr q hq
        rw [hqf] at this
        cases this
      · obtain ⟨hun, o', ho', hal⟩ := mem_ready.1 hi
        have hlt : i < ops.size := (Array.getElem?_eq_some_iff.1 ho').1
        have hif : listed.getD i false = false := by rw [getD_false_iff (by rw [hs]; exact hlt) false true]; exact hun
        have hge : q ≤ i := by
          rcases Nat.lt_or_ge i q with hlt' | hge
          · rw [hf i hlt, decide_eq_true hlt'] at hif; cases hif
          · exact hge
        have hiq : i = q := by
          rcases Nat.lt_or_ge q i with hlt' | hge'
          · have := reach_closed hc _ i q o' ho' hal (tailOk_spec ht hlt (by omega) hlt')
            rw [hqf] at this; cases this
          · omega
        subst hiq
        rw [ho'] at hoq
        obtain rfl := Option.some.inj hoq
        have hnext : ∀ a w, wpList P ops Q rest a w → wpAny P .any ops Q fuel (listed.setIfInBounds i true) a w := fun a w hh =>
          tail_any ok ht rest (i + 1) fuel _ a w (fun j => by have := hl (j + 1); simpa [Nat.add_assoc, Nat.add_comm 1 j] using this) (by omega) (by simpa using hs) (fun j hj => by
            by_cases e : i = j
            · subst e
              rw [getD_set_self (by rw [hs]; exact hlt)]
              exact (decide_eq_true (by omega)).symm
            · rw [getD_set_ne false e, hf j hj]
              by_cases hji : j < i
              · rw [decide_eq_true hji, decide_eq_true (by omega : j < i + 1)]
              · rw [decide_eq_false hji, decide_eq_false (by omega : ¬ j < i + 1)]) (by omega) hh
        unfold wpOp
        simp only [ho']
        unfold wpList at h
        by_cases hw : Region.wanted o' (yielded ops a.tmps) = true
        · rw [if_pos hw] at h ⊢
          rcases h with h | h
          · exact .inl (Oper.wp_mono (fun a w hh => hnext a w hh) h)
          · exact .inr h
        · rw [if_neg hw] at h ⊢
          exact hnext _ _ h

theorem walkB_all' {C : World → Prop} {le : World → World → Prop} {a0 : Act} {fin : Facts → Prop} : ∀ (l : List Oper) (k : Nat) (S : Facts), (∀ j, j < l.length → l[j]? = ops[k + j]?) → walkB P ops C le a0 fin l k S →
    ∃ S' : Facts, (∀ j, j < k → S' j = S j) ∧ (∀ j o, k ≤ j → j < k + l.length → ops[j]? = some o → (∀ vs w w', le w w' → S' j vs w → S' j vs w') ∧ Local ops S' j ∧
      ∃ (locs js : List Nat) (T : List Value → Fact), before ops j locs = true ∧ before ops j js = true ∧ (∀ vs w, S' j vs w ↔ T (locs.map vs) (vs j) w) ∧ stepV P ops C le a0 S' j o T locs js) ∧ fin S'
  | [], k, S, hl, h => ⟨S, fun _ _ => rfl, fun j o hk hj ho => by simp at hj; omega, h⟩
  | o :: rest, k, S, hl, ⟨locs, js, T, hlo, hjs, hT, hs, hr⟩ => by
    obtain ⟨S', h1, h2, h3⟩ := walkB_all' rest (k + 1) _ (fun j hj => by have := hl (j + 1) (by simpa using hj); simpa [Nat.add_assoc, Nat.add_comm 1 j] using this) hr
    have hk : S' k = fun vs w => T (locs.map vs) (vs k) w := by rw [h1 k (by omega)]; simp
    have hlt : ∀ j, j < k → S' j = S j := fun j hj => by rw [h1 j (by omega)]; simp [Nat.ne_of_lt hj]
    refine ⟨S', hlt, fun j o' hj hjl ho => ?_, h3⟩
    rcases Nat.lt_or_ge k j with hlt' | hge
    · exact h2 j o' hlt' (by simp at hjl; omega) ho
    · obtain rfl : j = k := by omega
      have e : o' = o := by have := hl 0 (by simp); simp at this; rw [ho] at this; exact (Option.some.inj this).symm
      subst e
      refine ⟨fun vs w w' hle h => ?_, fun vs vs' w he h => ?_, locs, js, T, hlo, hjs, fun vs w => by rw [hk], fun vs w hw hf => hs vs w hw fun i hi => ?_⟩
      · rw [hk] at h ⊢; exact hT _ _ _ _ hle h
      · rw [hk] at h ⊢
        have e1 : locs.map vs = locs.map vs' := List.map_congr_left fun i hi => he i (.inr (before_mem hlo hi))
        show T (locs.map vs') (vs' j) w
        rw [← e1, ← he j (.inl rfl)]
        exact h
      · rw [← hlt i (before_mem hjs hi).1]; exact hf i hi

theorem relAnyBT {size m : Nat} (ok : OkT ops size m) (ht : tailOk ops m = true) (hms : m ≤ ops.size) {C : World → Prop} {le : World → World → Prop} {a0 : Act} {S : Facts} {Q : Exit → Act → World → Prop} (h0 : a0.tmps.size = size) (l2 : List Oper) (hl2 : ∀ j, l2[j]? = ops[m + j]?)
    (hstep : ∀ j o, j < m → ops[j]? = some o → (∀ vs w w', le w w' → S j vs w → S j vs w') ∧ Local ops S j ∧
      ∃ (locs js : List Nat) (T : List Value → Fact), before ops j locs = true ∧ before ops j js = true ∧ (∀ vs w, S j vs w ↔ T (locs.map vs) (vs j) w) ∧ stepV P ops C le a0 S j o T locs js)
    (hfin : ∀ (vs : Nat → Value) w, C w → (∀ j, j < m → S j vs w) → wpList P ops Q l2 (putAll ops vs (List.range m) a0) w) :
    ∀ (fuel : Nat) (listed : Array Bool) (vs : Nat → Value) (a : Act) (w : World), undone ops listed ≤ fuel → (∀ j, m ≤ j → listed.getD j false = false) → InvB ops C a0 S vs listed a w → wpAny P .any ops Q fuel listed a w := by
  have hend : ∀ (fuel : Nat) (listed : Array Bool) (vs : Nat → Value) (a : Act) (w : World), undone ops listed ≤ fuel → (∀ j, m ≤ j → listed.getD j false = false) → InvB ops C a0 S vs listed a w → (∀ j, j < m → listed.getD j false = true) → wpAny P .any ops Q fuel listed a w := by
    intro fuel listed vs a w hu htl invB hall
    obtain ⟨inv, hfc⟩ := invB
    have hq := hfin vs w inv.cls fun j hj => hfc j (hall j hj)
    obtain ⟨h1, h2, h3, h4⟩ := putAll_specT ok hms vs (List.range m) a0 h0 List.nodup_range (fun j hj => by exact List.mem_range.1 hj)
    have e : putAll ops vs (List.range m) a0 = a := by
      cases a with
      | mk tm df =>
        cases hp : putAll ops vs (List.range m) a0 with
        | mk tm' df' =>
          rw [hp] at h1 h2 h3 h4
          have hd : df' = df := by have := inv.defers; simp only at this h1; rw [h1, this]
          have ht : tm' = tm := by
            refine Array.ext_getElem? fun t => ?_
            by_cases hex : ∃ j, j < m ∧ dstOf ops j = some t
            · obtain ⟨j, hj, hd⟩ := hex
              have := inv.new j t (hall j hj) hd
              simp only at this
              rw [this]
              exact h4 j (List.mem_range.2 hj) t hd
            · have hno : ∀ j, j < m → dstOf ops j ≠ some t := fun j hj he => hex ⟨j, hj, he⟩
              have := inv.old t (fun j hj => hno j (by
                rcases Nat.lt_or_ge j m with h | h
                · exact h
                · rw [htl j h] at hj; cases hj))
              simp only at this
              rw [this]
              exact h3 t fun j hj => hno j (List.mem_range.1 hj)
          rw [hd, ht]
    rw [e] at hq
    refine tail_any ok ht l2 m fuel listed a w hl2 (Nat.le_refl _) inv.lsize (fun j hj => ?_) ?_ hq
    · rcases Nat.lt_or_ge j m with h | h
      · rw [hall j h, decide_eq_true h]
      · rw [htl j h, decide_eq_false (by omega)]
    · have hc : (List.range ops.size).countP (fun j => !listed.getD j false) ≤ fuel := hu
      have h5 : ops.size - m ≤ (List.range ops.size).countP (fun j => !listed.getD j false) := by
        have e2 : List.range ops.size = List.range m ++ (List.range (ops.size - m)).map (m + ·) := by
          rw [show ops.size = m + (ops.size - m) by omega, List.range_add]; simp
        rw [e2, List.countP_append]
        have : (List.map (m + ·) (List.range (ops.size - m))).countP (fun j => !listed.getD j false) = ops.size - m := by
          rw [List.countP_eq_length.2 fun j hj => by
            obtain ⟨i, _, rfl⟩ := List.mem_map.1 hj
            rw [htl (m + i) (by omega)]; rfl]
          simp
        omega
      omega
  intro fuel
  induction fuel with
  | zero =>
    intro listed vs a w hu htl inv
    refine hend 0 listed vs a w hu htl inv fun j hj => ?_
    have h1 : undone ops listed = 0 := by omega
    have := List.countP_eq_zero.1 h1 j (List.mem_range.2 (by omega))
    simpa using this
  | succ fuel ih =>
    intro listed vs a w hu htl invB
    by_cases hall : ∀ j, j < m → listed.getD j false = true
    · exact hend _ listed vs a w hu htl invB hall
    obtain ⟨inv, hfc⟩ := invB
    refine ⟨fun hr => absurd (fun j hj => ready_allT ok inv.lsize hr j (by omega)) hall, fun i hi => ?_⟩
    obtain ⟨hun, o, ho, hl⟩ := mem_ready.1 hi
    have hlt : i < ops.size := (Array.getElem?_eq_some_iff.1 ho).1
    have him : i < m := by
      rcases Nat.lt_or_ge i m with h | h
      · exact h
      · exact absurd (fun j hj => reach_listed inv _ i j o ho hl (tailOk_spec ht hlt h (by omega))) hall
    obtain ⟨hdep, hag⟩ := look_agreeT ok hms h0 inv htl him ho hl
    obtain ⟨hst, hloc, locs, js, T, hlo, hjs, hST, hs⟩ := hstep i o him ho
    obtain ⟨d, hd, hds⟩ := ok.dst him ho
    have hil : i < listed.size := by rw [inv.lsize]; exact hlt
    have hun' : listed.getD i false = false := by rw [getD_false_iff hil false true]; exact hun
    have hlist : ∀ {j : Nat}, listed.getD j false = true → ∃ o', ops[j]? = some o' := fun {j} hjl => by
      have hjs : j < ops.size := by
        rcases Nat.lt_or_ge j listed.size with h | h
        · rw [inv.lsize] at h; exact h
        · simp [Array.getElem?_eq_none h] at hjl
      exact ⟨_, Array.getElem?_eq_getElem hjs⟩
    have hjl : ∀ j ∈ js, listed.getD j false = true := fun j hj => reach_listed inv _ i j o ho hl (before_mem hjs hj).2
    have hdone : undone ops (listed.setIfInBounds i true) ≤ fuel := by
      have : undone ops (listed.setIfInBounds i true) < undone ops listed := by
        refine count_lt (i := i) (List.mem_range.2 hlt) ?_ ?_ ?_
        · rw [hun']; rfl
        · rw [getD_set_self hil]; rfl
        · intro x hx
          cases hb : listed.getD x false with
          | false => rfl
          | true => rw [getD_set_true hb] at hx; cases hx
      omega
    have key := hs vs w inv.cls fun j hj => hfc j (hjl j hj)
    have hgo : ∀ v w', C w' → le w w' → T (locs.map vs) v w' → wpAny P .any ops Q fuel (listed.setIfInBounds i true) (a.put o.dst v) w' := fun v w' hC hle hv => by
      refine ih _ (fun j => if j = i then v else vs j) _ _ hdone (fun j hj => by rw [getD_set_ne false (by omega)]; exact htl j hj) ⟨RelbT.Inv.nextT ok h0 inv htl him ho hun hl hC (fun _ _ _ => trivial) trivial, fun j hj => ?_⟩
      by_cases hji : j = i
      · subst hji
        refine (hST _ _).2 ?_
        have e1 : locs.map (fun j' => if j' = j then v else vs j') = locs.map vs := List.map_congr_left fun q hq => by rw [if_neg (by have := (before_mem hlo hq).1; omega)]
        rw [e1]; simpa using hv
      · rw [getD_set_ne false (Ne.symm hji)] at hj
        obtain ⟨o', ho'⟩ := hlist hj
        have hjm : j < m := by
          rcases Nat.lt_or_ge j m with h | h
          · exact h
          · rw [htl j h] at hj; cases hj
        obtain ⟨hst', hloc', _⟩ := hstep j o' hjm ho'
        refine hloc' vs _ w' (fun q hq => ?_) (hst' vs w w' hle (hfc j hj))
        have hql : listed.getD q false = true := by
          rcases hq with rfl | ⟨_, hq⟩
          · exact hj
          · exact reach_listed inv _ j q o' ho' (inv.closed j o' ho' hj) hq
        rw [if_neg (fun e => by rw [e, hun'] at hql; cases hql)]
    have hsz : (putAll ops vs (deps ops i o) a0).tmps.size = size := (putAll_specT ok hms vs (deps ops i o) a0 h0 (List.Pairwise.filter _ List.nodup_range) (fun j hj => by have := deps_lt hj; omega)).2.1
    have key2 := key (fun b w' => b.defers = (putAll ops vs (deps ops i o) a0).defers ∧ (C w' ∧ le w w' ∧ T (locs.map vs) (b.tmps.getD d undef) w')) fun v w' h1 h2 h3 => ⟨by rw [hd]; rfl, h1, h2, by rw [hd]; simpa [Act.put, hsz, hds] using h3⟩
    unfold wpOp
    simp only [ho]
    rw [wanted_agree hag] at key2
    by_cases hw : Region.wanted o (yielded ops a.tmps) = true
    · rw [if_pos hw] at key2
      rw [if_pos hw]
      exact .inl (wp_agree (R := fun v w' => C w' ∧ le w w' ∧ T (locs.map vs) v w') hd (by rw [hsz]; exact hds) (execOp_agree (Region.noSelect_spec ok.nosel i o · · ho) hag) key2 fun v w' ⟨h1, h2, h3⟩ => hgo v w' h1 h2 h3)
    · rw [if_neg hw] at key2
      rw [if_neg hw]
      obtain ⟨_, h1, h2, h3⟩ := key2
      have e : ((putAll ops vs (deps ops i o) a0).put o.dst undef).tmps.getD d undef = undef := by rw [hd]; simp [Act.put, hsz, hds]
      rw [e] at h3
      exact hgo undef w h1 h2 h3


/-- **One walk in the order of the text, the last operations one behind the other.** -/
theorem wp_region_relbt {id : Nat} {Q : Exit → Act → World → Prop} {a : Act} {w : World} {l : List Oper} (m : Nat) (C : World → Prop) (le : World → World → Prop) (hm : P.follows .mixedOrders = true) (hB : okTB l.toArray a.tmps.size m = true) (ht : tailOk l.toArray m = true) (hml : m ≤ l.length)
    (hC : C { w with drawn := w.drawn + 1 })
    (h : walkB P l.toArray C le a (fun S => ∀ vs w', C w' → (∀ j, j < m → S j vs w') → wpList P l.toArray Q (l.drop m) (putAll l.toArray vs (List.range m) a) w') (l.take m) 0 (fun _ _ _ => True)) : (Code.region id l.toArray true).wp P Q a w := by
  have ok := okTB_spec hB
  obtain ⟨S, _, h2, h3⟩ := walkB_all' (l.take m) 0 _ (fun j hj => by
    rw [List.length_take] at hj
    rw [List.getElem?_take, if_pos (by omega)]; simp) h
  refine wp_region_any hm (relAnyBT ok ht (by simpa using hml) rfl (S := S) (l.drop m) (fun j => by rw [List.getElem?_drop]; simp) (fun j o hj ho => h2 j o (Nat.zero_le _) (by rw [List.length_take]; omega) ho) (fun vs w' hw' hf => h3 vs w' hw' hf) _ _ (fun _ => undef) _ _ ?_ ?_ ⟨?_, ?_⟩)
  · unfold undone
    exact Nat.le_trans (List.countP_le_length) (by simp)
  · intro j _
    exact getD_rep ..
  · refine ⟨hC, rfl, rfl, by simp, fun j o ho hj => ?_, fun t _ => rfl, fun j d hj => ?_, fun j hj => ?_⟩
    all_goals
      rw [getD_rep] at hj
      cases hj
  · intro j hj
    rw [getD_rep] at hj
    cases hj
theorem relbt_end {C : World → Prop} {le : World → World → Prop} {a0 : Act} {n k : Nat} {S : Facts} {Q : Exit → Act → World → Prop} {l2 : List Oper} (ds : List (Nat × Tmp)) (hn : List.range n = ds.map (·.1)) (hd : ds.all (fun p => dstOf ops p.1 == some p.2) = true)
    (h : ∀ vs w', C w' → (∀ j, j < n → S j vs w') → wpList P ops Q l2 (putD vs ds a0) w') :
    walkB P ops C le a0 (fun S => ∀ vs w', C w' → (∀ j, j < n → S j vs w') → wpList P ops Q l2 (putAll ops vs (List.range n) a0) w') [] k S :=
  fun vs w' hw hf => by rw [hn, putD_eq ds a0 hd]; exact h vs w' hw hf
end
end Go.Proofs.YtkcfgcdlnojaeaaGreatDoor.RelbT
