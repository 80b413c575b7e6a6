/-
  A region that draws its order, none of whose operations takes back what another has brought about: one walk in the order of the text serves every order, where an operation may hand back any value of a kind that is told beforehand.
  As Rel, where the kind of an operation's value may tell of the values of operations that come ahead of it in every order.
  As Relb, where the last operations of the region come behind all the others in every order: these are walked one behind the other.
-/
import Derived.Orders
import Derived.Tactics
set_option linter.unusedVariables false
set_option linter.unusedSimpArgs false
namespace Go.Proofs.YtfpikilhbkeajaaGreatDoor.Rel

abbrev Fact := Value → World → Prop

section
variable {P : Program} {ops : Array Oper}

def dstOf (ops : Array Oper) (j : Nat) : Option Tmp := (ops[j]?).bind (·.dst)

def deps (ops : Array Oper) (k : Nat) (o : Oper) : List Nat :=
  (List.range k).filter fun j => match dstOf ops j with
    | some d => (o.looksAt ops).contains d
    | none => false

def putAll (ops : Array Oper) (vs : Nat → Value) : List Nat → Act → Act
  | [], a => a
  | j :: js, a => putAll ops vs js (a.put (dstOf ops j) (vs j))

def withVals (ops : Array Oper) (S : Nat → Fact) (w : World) (k : Act → Prop) : List Nat → Act → Prop
  | [], a => k a
  | j :: js, a => ∀ v, S j v w → withVals ops S w k js (a.put (dstOf ops j) v)

theorem withVals_spec {S : Nat → Fact} {w : World} {k : Act → Prop} {vs : Nat → Value} : ∀ (js : List Nat) (a : Act), withVals ops S w k js a → (∀ j ∈ js, S j (vs j) w) → k (putAll ops vs js a)
  | [], _, h, _ => h
  | j :: js, _, h, hs => withVals_spec js _ (h _ (hs j (by simp))) fun i hi => hs i (by simp [hi])

theorem withVals_congr {S S' : Nat → Fact} {w : World} {k : Act → Prop} : ∀ (js : List Nat) (a : Act), (∀ j ∈ js, S j = S' j) → withVals ops S w k js a → withVals ops S' w k js a
  | [], _, _, h => h
  | j :: js, _, e, h => fun v hv => withVals_congr js _ (fun i hi => e i (by simp [hi])) (h v (by rw [e j (by simp)]; exact hv))

def stepOk (P : Program) (ops : Array Oper) (C : World → Prop) (le : World → World → Prop) (a0 : Act) (S : Nat → Fact) (T : Fact) (o : Oper) (js : List Nat) : Prop :=
  ∀ w, C w → withVals ops S w (fun f => ∀ K : Act → World → Prop, (∀ v w', C w' → le w w' → T v w' → K (f.put o.dst v) w') →
    if Region.wanted o (yielded ops f.tmps) then o.wp P f w K (fun _ _ _ => False) else K (f.put o.dst undef) w) js a0

def relWalk (P : Program) (ops : Array Oper) (C : World → Prop) (le : World → World → Prop) (a0 : Act) (fin : (Nat → Fact) → Prop) : List Oper → Nat → (Nat → Fact) → Prop
  | [], _, S => fin S
  | o :: rest, k, S => ∃ T : Fact, (∀ v w w', le w w' → T v w → T v w') ∧ stepOk P ops C le a0 S T o (deps ops k o) ∧ relWalk P ops C le a0 fin rest (k + 1) (fun j => if j = k then T else S j)

theorem relWalk_nil {C : World → Prop} {le : World → World → Prop} {a0 : Act} {fin : (Nat → Fact) → Prop} {k : Nat} {S : Nat → Fact} (h : fin S) : relWalk P ops C le a0 fin [] k S := h
theorem relWalk_cons {C : World → Prop} {le : World → World → Prop} {a0 : Act} {fin : (Nat → Fact) → Prop} {k : Nat} {S : Nat → Fact} {o : Oper} {rest : List Oper} (js : List Nat) (T : Fact)
    (hj : deps ops k o = js) (hT : ∀ v w w', le w w' → T v w → T v w') (hs : stepOk P ops C le a0 S T o js) (hr : relWalk P ops C le a0 fin rest (k + 1) (fun j => if j = k then T else S j)) : relWalk P ops C le a0 fin (o :: rest) k S :=
  ⟨T, hT, by rw [hj]; exact hs, hr⟩

theorem deps_lt {k j : Nat} {o : Oper} (h : j ∈ deps ops k o) : j < k := by
  unfold deps at h
  exact List.mem_range.1 (List.mem_filter.1 h).1

theorem relWalk_all {C : World → Prop} {le : World → World → Prop} {a0 : Act} {fin : (Nat → Fact) → Prop} : ∀ (l : List Oper) (k : Nat) (S : Nat → Fact), (∀ j, l[j]? = ops[k + j]?) → relWalk P ops C le a0 fin l k S →
    ∃ S' : Nat → Fact, (∀ j, j < k → S' j = S j) ∧ (∀ j o, k ≤ j → ops[j]? = some o → (∀ v w w', le w w' → S' j v w → S' j v w') ∧ stepOk P ops C le a0 S' (S' j) o (deps ops j o)) ∧ fin S'
  | [], k, S, hl, h => ⟨S, fun _ _ => rfl, fun j o hk ho => by
      have := hl (j - k)
      rw [show k + (j - k) = j by omega, ho] at this
      simp at this, h⟩
  | o :: rest, k, S, hl, ⟨T, hT, hs, hr⟩ => by
    obtain ⟨S', h1, h2, h3⟩ := relWalk_all rest (k + 1) _ (fun j => by have := hl (j + 1); simpa [Nat.add_assoc, Nat.add_comm 1 j] using this) hr
    have hk : S' k = T := by rw [h1 k (by omega)]; simp
    have hlt : ∀ j, j < k → S' j = S j := fun j hj => by rw [h1 j (by omega)]; simp [Nat.ne_of_lt hj]
    refine ⟨S', hlt, fun j o' hj ho => ?_, h3⟩
    rcases Nat.lt_or_ge k j with hlt' | hge
    · exact h2 j o' hlt' ho
    · obtain rfl : j = k := by omega
      have e : o' = o := by have := hl 0; simp at this; rw [ho] at this; exact (Option.some.inj this).symm
      subst e
      rw [hk]
      exact ⟨hT, fun w hw => withVals_congr _ _ (fun i hi => (hlt i (deps_lt hi)).symm) (hs w hw)⟩

def reach (ops : Array Oper) : Nat → Nat → Nat → Bool
  | 0, _, _ => false
  | f + 1, k, j => match ops[k]? with
    | some o => o.after.any fun e => Region.binds .any e && (e.on == j || reach ops f e.on j)
    | none => false

def okB (ops : Array Oper) (size : Nat) : Bool :=
  Region.noSelect ops &&
  ((List.range ops.size).all fun k => match ops[k]? with
    | some o => (match o.dst with | some d => decide (d < size) | none => false) && (o.after.all fun e => !Region.binds .any e || decide (e.on < k)) &&
        ((List.range ops.size).all fun j => match dstOf ops j with
          | some d => (j == k || o.dst != some d) && (!(o.looksAt ops).contains d || (decide (j < k) && reach ops 4 k j))
          | none => true)
    | none => true)

structure Ok (ops : Array Oper) (size : Nat) : Prop where
  nosel : Region.noSelect ops = true
  dst : ∀ {k : Nat} {o : Oper}, ops[k]? = some o → ∃ d, o.dst = some d ∧ d < size
  back : ∀ {k : Nat} {o : Oper}, ops[k]? = some o → ∀ e ∈ o.after, Region.binds .any e = true → e.on < k
  one : ∀ {k j : Nat} {o o' : Oper} {d : Tmp}, ops[k]? = some o → ops[j]? = some o' → o.dst = some d → o'.dst = some d → j = k
  look : ∀ {k j : Nat} {o o' : Oper} {d : Tmp}, ops[k]? = some o → ops[j]? = some o' → o'.dst = some d → d ∈ o.looksAt ops → j < k ∧ reach ops 4 k j = true

theorem okB_spec {size : Nat} (h : okB ops size = true) : Ok ops size := by
  unfold okB at h
  rw [Bool.and_eq_true] at h
  have hk : ∀ {k : Nat} {o : Oper}, ops[k]? = some o → _ := fun {k o} ho => List.all_eq_true.1 h.2 k (List.mem_range.2 (Array.getElem?_eq_some_iff.1 ho).1)
  have hk2 : ∀ {k : Nat} {o : Oper}, ops[k]? = some o → ((match o.dst with | some d => decide (d < size) | none => false) && (o.after.all fun e => !Region.binds .any e || decide (e.on < k)) &&
        ((List.range ops.size).all fun j => match dstOf ops j with
          | some d => (j == k || o.dst != some d) && (!(o.looksAt ops).contains d || (decide (j < k) && reach ops 4 k j))
          | none => true)) = true := fun {k o} ho => by have := hk ho; simp only [ho] at this; exact this
  have hj : ∀ {k j : Nat} {o o' : Oper} {d : Tmp}, ops[k]? = some o → ops[j]? = some o' → o'.dst = some d → ((j == k || o.dst != some d) && (!(o.looksAt ops).contains d || (decide (j < k) && reach ops 4 k j))) = true := fun {k j o o' d} ho ho' hd => by
    have h1 := hk2 ho
    rw [Bool.and_eq_true] at h1
    have h2 := List.all_eq_true.1 h1.2 j (List.mem_range.2 (Array.getElem?_eq_some_iff.1 ho').1)
    have e : dstOf ops j = some d := by unfold dstOf; rw [ho']; exact hd
    simp only [e] at h2
    exact h2
  refine ⟨h.1, fun {k o} ho => ?_, fun {k o} ho e he hb => ?_, fun {k j o o' d} ho ho' hd hd' => ?_, fun {k j o o' d} ho ho' hd hl => ?_⟩
  · have h1 := hk2 ho
    rw [Bool.and_eq_true, Bool.and_eq_true] at h1
    have h2 := h1.1.1
    cases hd : o.dst with
    | none => simp [hd] at h2
    | some d => simp only [hd] at h2; exact ⟨d, rfl, of_decide_eq_true h2⟩
  · have h1 := hk2 ho
    rw [Bool.and_eq_true, Bool.and_eq_true] at h1
    have h2 := Array.all_eq_true_iff_forall_mem.1 h1.1.2 e he
    simp only [hb, Bool.not_true, Bool.false_or] at h2
    exact of_decide_eq_true h2
  · have h1 := hj ho ho' hd'
    rw [Bool.and_eq_true] at h1
    have h2 := h1.1
    rw [hd] at h2
    simpa using h2
  · have h1 := hj ho ho' hd
    rw [Bool.and_eq_true] at h1
    have h2 := h1.2
    rw [Bool.or_eq_true, Bool.and_eq_true] at h2
    rcases h2 with h2 | h2
    · simp [hl] at h2
    · exact ⟨of_decide_eq_true h2.1, h2.2⟩

theorem count_lt {l : List Nat} {p q : Nat → Bool} {i : Nat} (hi : i ∈ l) (hp : p i = true) (hq : q i = false) (h : ∀ x, q x = true → p x = true) : l.countP q < l.countP p := by
  induction l with
  | nil => cases hi
  | cons x l ih =>
    rw [List.countP_cons, List.countP_cons]
    have hle : ∀ m : List Nat, m.countP q ≤ m.countP p := fun m => List.countP_mono_left fun x _ hx => h x hx
    rcases List.mem_cons.1 hi with rfl | hi'
    · have := hle l
      rw [hp, hq]; simp; omega
    · have h1 := ih hi'
      cases hqx : q x
      · cases hpx : p x <;> simp <;> omega
      · rw [h x hqx]; simp; omega

theorem putAll_spec {size : Nat} (ok : Ok ops size) (vs : Nat → Value) : ∀ (js : List Nat) (a : Act), a.tmps.size = size → js.Nodup → (∀ j ∈ js, j < ops.size) →
    (putAll ops vs js a).defers = a.defers ∧ (putAll ops vs js a).tmps.size = size ∧ (∀ t, (∀ j ∈ js, dstOf ops j ≠ some t) → (putAll ops vs js a).tmps[t]? = a.tmps[t]?) ∧ (∀ j ∈ js, ∀ d, dstOf ops j = some d → (putAll ops vs js a).tmps[d]? = some (vs j))
  | [], a, hs, _, _ => ⟨rfl, hs, fun _ _ => rfl, fun _ h => by cases h⟩
  | j :: js, a, hs, hn, hl => by
    have hj : j < ops.size := hl j (by simp)
    obtain ⟨o, ho⟩ : ∃ o, ops[j]? = some o := ⟨_, Array.getElem?_eq_getElem hj⟩
    obtain ⟨d, hd, hds⟩ := ok.dst ho
    have e : dstOf ops j = some d := by unfold dstOf; rw [ho]; exact hd
    have hs' : (a.put (dstOf ops j) (vs j)).tmps.size = size := by rw [e]; simpa [Act.put] using hs
    obtain ⟨h1, h2, h3, h4⟩ := putAll_spec ok vs js _ hs' (List.nodup_cons.1 hn).2 fun i hi => hl i (by simp [hi])
    refine ⟨by rw [putAll, h1, e]; rfl, h2, fun t ht => ?_, fun i hi d' hd' => ?_⟩
    · rw [putAll, h3 t fun i hi => ht i (by simp [hi]), e]
      have hne : d ≠ t := fun e' => ht j (by simp) (by rw [e, e'])
      simp [Act.put, Array.getElem?_setIfInBounds_ne hne]
    · rcases List.mem_cons.1 hi with rfl | hi'
      · rw [e] at hd'
        obtain rfl := Option.some.inj hd'
        rw [putAll, h3 d fun i' hi' he => ?_, e]
        · simp [Act.put, Array.getElem?_setIfInBounds, hs, hds]
        · obtain ⟨o', ho'⟩ : ∃ o', ops[i']? = some o' := ⟨_, Array.getElem?_eq_getElem (hl i' (by simp [hi']))⟩
          have : i' = i := ok.one ho ho' hd (by unfold dstOf at he; rw [ho'] at he; exact he)
          subst this
          exact (List.nodup_cons.1 hn).1 hi'
      · exact h4 i hi' d' hd'

structure Inv (ops : Array Oper) (C : World → Prop) (a0 : Act) (S : Nat → Fact) (vs : Nat → Value) (listed : Array Bool) (a : Act) (w : World) : Prop where
  cls : C w
  size : a.tmps.size = a0.tmps.size
  defers : a.defers = a0.defers
  lsize : listed.size = ops.size
  closed : ∀ j o, ops[j]? = some o → listed.getD j false = true → ∀ e ∈ o.after, Region.binds .any e = true → listed.getD e.on false = true
  old : ∀ t, (∀ j, listed.getD j false = true → dstOf ops j ≠ some t) → a.tmps[t]? = a0.tmps[t]?
  new : ∀ j d, listed.getD j false = true → dstOf ops j = some d → a.tmps[d]? = some (vs j)
  facts : ∀ j, listed.getD j false = true → S j (vs j) w

theorem reach_listed {C : World → Prop} {a0 : Act} {S : Nat → Fact} {vs : Nat → Value} {listed : Array Bool} {a : Act} {w : World} (inv : Inv ops C a0 S vs listed a w) :
    ∀ (f k j : Nat) (o : Oper), ops[k]? = some o → (∀ e ∈ o.after, Region.binds .any e = true → listed.getD e.on false = true) → reach ops f k j = true → listed.getD j false = true
  | 0, _, _, _, _, _, h => by cases h
  | f + 1, k, j, o, ho, hl, h => by
    simp only [reach, ho] at h
    obtain ⟨e, he, hh⟩ := Array.any_eq_true'.1 h
    rw [Bool.and_eq_true, Bool.or_eq_true] at hh
    have hle := hl e he hh.1
    rcases hh.2 with h1 | h1
    · rw [← eq_of_beq h1]; exact hle
    · cases ho' : ops[e.on]? with
      | none =>
        cases f with
        | zero => cases h1
        | succ f => simp [reach, ho'] at h1
      | some o' => exact reach_listed inv f e.on j o' ho' (inv.closed e.on o' ho' hle) h1

theorem execOp_agree {o : Oper} {a a' : Act} (hs : ∀ cs b, o.op ≠ .select cs b) (h : ∀ t ∈ o.looksAt ops, a.tmps[t]? = a'.tmps[t]?) : execOp a.eval o = execOp a'.eval o :=
  execOp_congr o hs fun x hx => by
    cases x with
    | tmp t =>
      have := h t (List.mem_append_left _ (List.mem_filterMap.2 ⟨.tmp t, by simpa using hx, rfl⟩))
      simp only [Act.eval, Array.getD_eq_getD_getElem?, this]
    | _ => rfl
theorem wanted_agree {o : Oper} {a a' : Act} (h : ∀ t ∈ o.looksAt ops, a.tmps[t]? = a'.tmps[t]?) : Region.wanted o (yielded ops a.tmps) = Region.wanted o (yielded ops a'.tmps) := by
  unfold Region.wanted
  cases hg : o.guard with
  | none => rfl
  | some gw =>
    obtain ⟨g, want⟩ := gw
    have hy : yielded ops a.tmps g = yielded ops a'.tmps g := by
      unfold yielded
      cases ht : (ops[g]?).bind (·.dst) with
      | none => rfl
      | some t =>
        have := h t (List.mem_append_right _ (by simp [hg, ht]))
        simp [this]
    simp only [hy]

theorem wp_agree {o : Oper} {a a' : Act} {w : World} {d : Tmp} (hd : o.dst = some d) (hds : d < a.tmps.size) (he : execOp a.eval o = execOp a'.eval o) {R : Fact} {K : Act → World → Prop} {Q : Exit → Act → World → Prop}
    (h : o.wp P a w (fun b w' => b.defers = a.defers ∧ R (b.tmps.getD d undef) w') (fun _ _ _ => False)) (hK : ∀ v w', R v w' → K (a'.put o.dst v) w') : o.wp P a' w K Q := by
  have hget : ∀ v, (a.put o.dst v).tmps.getD d undef = v := fun v => by rw [hd]; simp [Act.put, hds]
  unfold Oper.wp at *
  rw [← he]
  generalize (execOp a.eval o).run P w = r at *
  cases r with
  | ok n w' =>
    cases n <;> simp only [Oper.upon] at h ⊢
    case value u => exact hK _ _ (by have := h.2; rw [hget] at this; exact this)
    case skip => exact hK _ _ (by have := h.2; rw [hget] at this; exact this)
    case defer dd => exact absurd h.1 (by rw [hd]; simp [Act.put])
    case enter f args =>
      refine Calls.mono h fun e w'' he => ?_
      cases e with
      | returned u => exact hK _ _ (by simp only [hget] at he; exact he.2)
      | panicked c => exact he.elim
      | outgrown => obtain ⟨_, _, hf⟩ := he; exact hf.elim
    case row row args => exact Rows.mono h fun u w'' he => hK _ _ (by have := he.2; rw [hget] at this; exact this)
  | halt x w' =>
    cases x <;> simp only [Oper.upon] at h ⊢

theorem getD_rep (m j : Nat) : (Array.replicate m false).getD j false = false := by
  rcases Nat.lt_or_ge j m with h | h
  · simp [h]
  · simp [h]
theorem getD_set_self {listed : Array Bool} {i : Nat} (h : i < listed.size) (d : Bool) : (listed.setIfInBounds i true).getD i d = true := by
  simp [h]
theorem getD_false_iff {listed : Array Bool} {i : Nat} (h : i < listed.size) (d d' : Bool) : listed.getD i d = listed.getD i d' := by simp [h]

def undone (ops : Array Oper) (listed : Array Bool) : Nat := (List.range ops.size).countP fun j => !listed.getD j false

theorem look_agree {size : Nat} (ok : Ok ops size) {C : World → Prop} {a0 : Act} {S : Nat → Fact} {vs : Nat → Value} {listed : Array Bool} {a : Act} {w : World} (h0 : a0.tmps.size = size) (inv : Inv ops C a0 S vs listed a w)
    {k : Nat} {o : Oper} (ho : ops[k]? = some o) (hl : ∀ e ∈ o.after, Region.binds .any e = true → listed.getD e.on false = true) :
    (∀ j ∈ deps ops k o, listed.getD j false = true) ∧ ∀ t ∈ o.looksAt ops, (putAll ops vs (deps ops k o) a0).tmps[t]? = a.tmps[t]? := by
  have hdl : ∀ j ∈ deps ops k o, j < ops.size := fun j hj => by have := deps_lt hj; have := (Array.getElem?_eq_some_iff.1 ho).1; omega
  have hdep : ∀ j ∈ deps ops k o, listed.getD j false = true := fun j hj => by
    obtain ⟨o', ho'⟩ : ∃ o', ops[j]? = some o' := ⟨_, Array.getElem?_eq_getElem (hdl j hj)⟩
    obtain ⟨d, hd, _⟩ := ok.dst ho'
    have h2 := (List.mem_filter.1 hj).2
    have e : dstOf ops j = some d := by unfold dstOf; rw [ho']; exact hd
    simp only [e] at h2
    exact reach_listed inv 4 k j o ho hl (ok.look ho ho' hd (by simpa using h2)).2
  refine ⟨hdep, fun t ht => ?_⟩
  obtain ⟨_, _, h3, h4⟩ := putAll_spec ok vs (deps ops k o) a0 h0 (List.Pairwise.filter _ List.nodup_range) hdl
  by_cases hex : ∃ j, j < ops.size ∧ dstOf ops j = some t
  · obtain ⟨j, hj, hd⟩ := hex
    obtain ⟨o', ho'⟩ : ∃ o', ops[j]? = some o' := ⟨_, Array.getElem?_eq_getElem hj⟩
    have hd' : o'.dst = some t := by unfold dstOf at hd; rw [ho'] at hd; exact hd
    have hlk := ok.look ho ho' hd' ht
    have hm : j ∈ deps ops k o := List.mem_filter.2 ⟨List.mem_range.2 hlk.1, by simp only [hd]; simpa using ht⟩
    rw [h4 j hm t hd, inv.new j t (hdep j hm) hd]
  · have hno : ∀ j, dstOf ops j ≠ some t := fun j he => hex ⟨j, by
      unfold dstOf at he
      cases ho' : ops[j]? with
      | none => rw [ho'] at he; cases he
      | some o' => exact (Array.getElem?_eq_some_iff.1 ho').1, he⟩
    rw [h3 t (fun j _ => hno j), inv.old t (fun j _ => hno j)]

theorem Inv.next {size : Nat} (ok : Ok ops size) {C : World → Prop} {a0 : Act} {S : Nat → Fact} {vs : Nat → Value} {listed : Array Bool} {a : Act} {w w' : World} (h0 : a0.tmps.size = size) (inv : Inv ops C a0 S vs listed a w)
    {k : Nat} {o : Oper} (ho : ops[k]? = some o) (hun : listed.getD k true = false) (hl : ∀ e ∈ o.after, Region.binds .any e = true → listed.getD e.on false = true) {v : Value}
    (hC : C w') (hst : ∀ j, listed.getD j false = true → S j (vs j) w → S j (vs j) w') (hv : S k v w') : Inv ops C a0 S (fun j => if j = k then v else vs j) (listed.setIfInBounds k true) (a.put o.dst v) w' := by
  have hk : k < ops.size := (Array.getElem?_eq_some_iff.1 ho).1
  have hkl : k < listed.size := by rw [inv.lsize]; exact hk
  obtain ⟨d, hd, hds⟩ := ok.dst ho
  have ed : dstOf ops k = some d := by unfold dstOf; rw [ho]; exact hd
  have hne : ∀ {j : Nat}, j ≠ k → dstOf ops j ≠ some d := fun {j} hj he => by
    unfold dstOf at he
    cases ho' : ops[j]? with
    | none => rw [ho'] at he; cases he
    | some o' => rw [ho'] at he; exact hj (ok.one ho ho' hd he)
  have hun' : listed.getD k false = false := by rw [getD_false_iff hkl false true]; exact hun
  refine ⟨hC, ?_, ?_, by simpa using inv.lsize, fun j o' ho' hj e he hb => ?_, fun t ht => ?_, fun j d' hj hd' => ?_, fun j hj => ?_⟩
  · rw [hd]; simpa [Act.put] using inv.size
  · rw [hd]; exact inv.defers
  · by_cases hjk : k = j
    · subst hjk
      rw [ho] at ho'
      obtain rfl := Option.some.inj ho'
      exact getD_set_true (hl e he hb)
    · rw [getD_set_ne false hjk] at hj
      exact getD_set_true (inv.closed j o' ho' hj e he hb)
  · have hdt : d ≠ t := fun e => ht k (getD_set_self hkl false) (by rw [ed, e])
    rw [hd]
    simp only [Act.put, Array.getElem?_setIfInBounds_ne hdt]
    exact inv.old t fun j hj => ht j (getD_set_true hj)
  · by_cases hjk : j = k
    · subst hjk
      rw [ed] at hd'
      obtain rfl := Option.some.inj hd'
      rw [hd]
      simp [Act.put, inv.size, h0, hds]
    · rw [getD_set_ne false (Ne.symm hjk)] at hj
      have hdd : d ≠ d' := fun e => hne hjk (by rw [hd', e])
      rw [hd]
      simp only [Act.put, Array.getElem?_setIfInBounds_ne hdd, if_neg hjk]
      exact inv.new j d' hj hd'
  · by_cases hjk : j = k
    · subst hjk; simpa using hv
    · rw [getD_set_ne false (Ne.symm hjk)] at hj
      simp only [if_neg hjk]
      exact hst j hj (inv.facts j hj)

theorem ready_all {size : Nat} (ok : Ok ops size) {listed : Array Bool} (hs : listed.size = ops.size) (h : Region.ready .any ops listed = []) : ∀ j, j < ops.size → listed.getD j false = true := by
  intro j
  induction j using Nat.strongRecOn with
  | _ j ih =>
    intro hj
    obtain ⟨o, ho⟩ : ∃ o, ops[j]? = some o := ⟨_, Array.getElem?_eq_getElem hj⟩
    cases hb : listed.getD j false with
    | true => rfl
    | false =>
      have : j ∈ Region.ready .any ops listed := mem_ready.2 ⟨by rw [getD_false_iff (by omega) true false]; exact hb, o, ho, fun e he hbd => by
        have hlt := ok.back ho e he hbd
        exact ih e.on hlt (by omega)⟩
      rw [h] at this
      cases this

theorem relAny {size : Nat} (ok : Ok ops size) {C : World → Prop} {le : World → World → Prop} {a0 : Act} {S : Nat → Fact} {Q : Exit → Act → World → Prop} (h0 : a0.tmps.size = size)
    (hstep : ∀ j o, ops[j]? = some o → (∀ v w w', le w w' → S j v w → S j v w') ∧ stepOk P ops C le a0 S (S j) o (deps ops j o)) (hrefl : ∀ w, le w w)
    (hfin : ∀ (vs : Nat → Value) w, C w → (∀ j, j < ops.size → S j (vs j) w) → Q .normal (putAll ops vs (List.range ops.size) a0) w) :
    ∀ (fuel : Nat) (listed : Array Bool) (vs : Nat → Value) (a : Act) (w : World), undone ops listed ≤ fuel → Inv ops C a0 S vs listed a w → wpAny P .any ops Q fuel listed a w := by
  have hend : ∀ (listed : Array Bool) (vs : Nat → Value) (a : Act) (w : World), Inv ops C a0 S vs listed a w → (∀ j, j < ops.size → listed.getD j false = true) → Q .normal a w := by
    intro listed vs a w inv hall
    have hq := hfin vs w inv.cls fun j hj => inv.facts j (hall j hj)
    obtain ⟨h1, h2, h3, h4⟩ := putAll_spec ok vs (List.range ops.size) a0 h0 List.nodup_range (fun j hj => List.mem_range.1 hj)
    have e : putAll ops vs (List.range ops.size) a0 = a := by
      cases a with
      | mk tm df =>
        cases hp : putAll ops vs (List.range ops.size) a0 with
        | mk tm' df' =>
          rw [hp] at h1 h2 h3 h4
          have hd : df' = df := by have := inv.defers; simp only at this h1; rw [h1, this]
          have ht : tm' = tm := by
            refine Array.ext_getElem? fun t => ?_
            by_cases hex : ∃ j, j < ops.size ∧ dstOf ops j = some t
            · obtain ⟨j, hj, hd⟩ := hex
              have := inv.new j t (hall j hj) hd
              simp only at this
              rw [this]
              exact h4 j (List.mem_range.2 hj) t hd
            · have hno : ∀ j, dstOf ops j ≠ some t := fun j he => hex ⟨j, by
                unfold dstOf at he
                cases ho' : ops[j]? with
                | none => rw [ho'] at he; cases he
                | some o' => exact (Array.getElem?_eq_some_iff.1 ho').1, he⟩
              have := inv.old t (fun j _ => hno j)
              simp only at this
              rw [this]
              exact h3 t fun j _ => hno j
          rw [hd, ht]
    rw [e] at hq
    exact hq
  intro fuel
  induction fuel with
  | zero =>
    intro listed vs a w hu inv
    have hall : ∀ j, j < ops.size → listed.getD j false = true := fun j hj => by
      have h1 : undone ops listed = 0 := by omega
      have := List.countP_eq_zero.1 h1 j (List.mem_range.2 hj)
      simpa using this
    refine ⟨?_, hend listed vs a w inv hall⟩
    cases hr : Region.ready .any ops listed with
    | nil => rfl
    | cons i r =>
      have hi : i ∈ Region.ready .any ops listed := by rw [hr]; simp
      obtain ⟨h1, o, ho, _⟩ := mem_ready.1 hi
      have hlt : i < ops.size := (Array.getElem?_eq_some_iff.1 ho).1
      have h2 := hall i hlt
      rw [getD_false_iff (by rw [inv.lsize]; exact hlt) false true, h1] at h2
      cases h2
  | succ fuel ih =>
    intro listed vs a w hu inv
    refine ⟨fun hr => hend listed vs a w inv (ready_all ok inv.lsize hr), fun i hi => ?_⟩
    obtain ⟨hun, o, ho, hl⟩ := mem_ready.1 hi
    have hlt : i < ops.size := (Array.getElem?_eq_some_iff.1 ho).1
    obtain ⟨hdep, hag⟩ := look_agree ok h0 inv ho hl
    obtain ⟨hst, hs⟩ := hstep i o ho
    obtain ⟨d, hd, hds⟩ := ok.dst ho
    have hstall : ∀ w', le w w' → ∀ j, listed.getD j false = true → S j (vs j) w → S j (vs j) w' := fun w' hle j hjl hj => by
      have hjs : j < ops.size := by
        rcases Nat.lt_or_ge j listed.size with h | h
        · rw [inv.lsize] at h; exact h
        · simp [Array.getElem?_eq_none h] at hjl
      exact (hstep j _ (Array.getElem?_eq_getElem hjs)).1 _ _ _ hle hj
    have hdone : undone ops (listed.setIfInBounds i true) ≤ fuel := by
      have : undone ops (listed.setIfInBounds i true) < undone ops listed := by
        refine count_lt (i := i) (List.mem_range.2 hlt) ?_ ?_ ?_
        · rw [getD_false_iff (by rw [inv.lsize]; exact hlt) false true, hun]; rfl
        · rw [getD_set_self (by rw [inv.lsize]; exact hlt)]; rfl
        · intro x hx
          cases hb : listed.getD x false with
          | false => rfl
          | true => rw [getD_set_true hb] at hx; cases hx
      omega
    have key := withVals_spec _ _ (hs w inv.cls) (vs := vs) fun j hj => inv.facts j (hdep j hj)
    have hgo : ∀ v w', C w' → le w w' → S i v w' → wpAny P .any ops Q fuel (listed.setIfInBounds i true) (a.put o.dst v) w' := fun v w' hC hle hv =>
      ih _ _ _ _ hdone (inv.next ok h0 ho hun hl hC (hstall w' hle) hv)
    have hsz : (putAll ops vs (deps ops i o) a0).tmps.size = size := (putAll_spec ok vs (deps ops i o) a0 h0 (List.Pairwise.filter _ List.nodup_range) (fun j hj => by have := deps_lt hj; omega)).2.1
    have key2 := key (fun b w' => b.defers = (putAll ops vs (deps ops i o) a0).defers ∧ (C w' ∧ le w w' ∧ S i (b.tmps.getD d undef) w')) fun v w' h1 h2 h3 => ⟨by rw [hd]; rfl, h1, h2, by rw [hd]; simpa [Act.put, hsz, hds] using h3⟩
    unfold wpOp
    simp only [ho]
    rw [wanted_agree hag] at key2
    by_cases hw : Region.wanted o (yielded ops a.tmps) = true
    · rw [if_pos hw] at key2
      rw [if_pos hw]
      exact .inl (wp_agree (R := fun v w' => C w' ∧ le w w' ∧ S i v w') hd (by rw [hsz]; exact hds) (execOp_agree (Region.noSelect_spec ok.nosel i o · · ho) hag) key2 fun v w' ⟨h1, h2, h3⟩ => hgo v w' h1 h2 h3)
    · rw [if_neg hw] at key2
      rw [if_neg hw]
      obtain ⟨_, h1, h2, h3⟩ := key2
      have e : ((putAll ops vs (deps ops i o) a0).put o.dst undef).tmps.getD d undef = undef := by rw [hd]; simp [Act.put, hsz, hds]
      rw [e] at h3
      exact hgo undef w h1 h2 h3

theorem wp_region_rel {id : Nat} {Q : Exit → Act → World → Prop} {a : Act} {w : World} {l : List Oper} (C : World → Prop) (le : World → World → Prop) (hm : P.follows .mixedOrders = true) (hB : okB l.toArray a.tmps.size = true)
    (hC : C { w with drawn := w.drawn + 1 }) (hrefl : ∀ w, le w w)
    (h : relWalk P l.toArray C le a (fun S => ∀ w', C w' → withVals l.toArray S w' (fun f => Q .normal f w') (List.range l.length) a) l 0 (fun _ _ _ => True)) : (Code.region id l.toArray true).wp P Q a w := by
  have ok := okB_spec hB
  obtain ⟨S, _, h2, h3⟩ := relWalk_all l 0 _ (by simp) h
  refine wp_region_any hm (relAny ok rfl (S := S) (fun j o ho => h2 j o (Nat.zero_le _) ho) hrefl (fun vs w' hw' hf => ?_) _ _ (fun _ => undef) _ _ ?_ ?_)
  · have := withVals_spec (vs := vs) _ _ (h3 w' hw') fun j hj => hf j (by simpa using hj)
    simpa using this
  · unfold undone
    exact Nat.le_trans (List.countP_le_length) (by simp)
  · refine ⟨hC, rfl, rfl, by simp, fun j o ho hj => ?_, fun t _ => rfl, fun j d hj => ?_, fun j hj => ?_⟩
    all_goals
      rw [getD_rep] at hj
      cases hj

def valsD (S : Nat → Fact) (w : World) (k : Act → Prop) : List (Nat × Tmp) → Act → Prop
  | [], a => k a
  | p :: js, a => ∀ v, S p.1 v w → valsD S w k js (a.put (some p.2) v)

theorem valsD_ret {S : Nat → Fact} {w : World} {k : Act → Prop} {a : Act} (h : k a) : valsD S w k [] a := h
theorem valsD_iff {S : Nat → Fact} {w : World} {k : Act → Prop} : ∀ (js : List (Nat × Tmp)) (a : Act), js.all (fun p => dstOf ops p.1 == some p.2) = true → valsD S w k js a → withVals ops S w k (js.map (·.1)) a
  | [], _, _, h => h
  | p :: js, _, hd, h => fun v hv => by
    rw [List.all_cons, Bool.and_eq_true] at hd
    rw [eq_of_beq hd.1]
    exact valsD_iff js _ hd.2 (h v hv)

def stepD (P : Program) (ops : Array Oper) (C : World → Prop) (le : World → World → Prop) (a0 : Act) (S : Nat → Fact) (T : Fact) (o : Oper) (js : List (Nat × Tmp)) : Prop :=
  ∀ w, C w → valsD S w (fun f => ∀ K : Act → World → Prop, (∀ v w', C w' → le w w' → T v w' → K (f.put o.dst v) w') →
    if Region.wanted o (yielded ops f.tmps) then o.wp P f w K (fun _ _ _ => False) else K (f.put o.dst undef) w) js a0

theorem rel_kind {C : World → Prop} {le : World → World → Prop} {a0 : Act} {fin : (Nat → Fact) → Prop} {k : Nat} {S : Nat → Fact} {o : Oper} {rest : List Oper} (js : List (Nat × Tmp)) (T : Fact)
    (hj : deps ops k o = js.map (·.1)) (hd : js.all (fun p => dstOf ops p.1 == some p.2) = true) (hT : ∀ v w w', le w w' → T v w → T v w') (hs : stepD P ops C le a0 S T o js)
    (hr : relWalk P ops C le a0 fin rest (k + 1) (fun j => if j = k then T else S j)) : relWalk P ops C le a0 fin (o :: rest) k S :=
  relWalk_cons (js.map (·.1)) T hj hT (fun w hw => valsD_iff js a0 hd (hs w hw)) hr
theorem rel_one {C : World → Prop} {le : World → World → Prop} {a0 : Act} {fin : (Nat → Fact) → Prop} {k : Nat} {S : Nat → Fact} {o : Oper} {rest : List Oper} {u : Value} (js : List (Nat × Tmp))
    (hj : deps ops k o = js.map (·.1)) (hd : js.all (fun p => dstOf ops p.1 == some p.2) = true) (hs : stepD P ops C le a0 S (fun v _ => v = u) o js)
    (hr : relWalk P ops C le a0 fin rest (k + 1) (fun j => if j = k then fun v _ => v = u else S j)) : relWalk P ops C le a0 fin (o :: rest) k S :=
  rel_kind js _ hj hd (fun _ _ _ _ h => h) hs hr
theorem rel_end {C : World → Prop} {le : World → World → Prop} {a0 : Act} {k n : Nat} {S : Nat → Fact} {Q : World → Act → Prop} (js : List (Nat × Tmp)) (hn : List.range n = js.map (·.1)) (hd : js.all (fun p => dstOf ops p.1 == some p.2) = true)
    (h : ∀ w', C w' → valsD S w' (Q w') js a0) : relWalk P ops C le a0 (fun S => ∀ w', C w' → withVals ops S w' (Q w') (List.range n) a0) [] k S :=
  fun w' hw => by rw [hn]; exact valsD_iff js a0 hd (h w' hw)

theorem upd_eq {α : Type} {k : Nat} {T : α} {S : Nat → α} : (fun j => bif Nat.beq j k then T else S j) = fun j => if j = k then T else S j := by
  funext j
  cases hb : Nat.beq j k with
  | true => rw [if_pos (Nat.eq_of_beq_eq_true hb)]; rfl
  | false => rw [if_neg (Nat.ne_of_beq_eq_false hb)]; rfl
theorem rel_kind2 {C : World → Prop} {le : World → World → Prop} {a0 : Act} {fin : (Nat → Fact) → Prop} {k : Nat} {S : Nat → Fact} {o : Oper} {rest : List Oper} (k' : Nat) (js : List (Nat × Tmp)) (T : Fact) (hk : k + 1 = k')
    (hj : deps ops k o = js.map (·.1)) (hd : js.all (fun p => dstOf ops p.1 == some p.2) = true) (hT : ∀ v w w', le w w' → T v w → T v w') (hs : stepD P ops C le a0 S T o js)
    (hr : relWalk P ops C le a0 fin rest k' (fun j => bif Nat.beq j k then T else S j)) : relWalk P ops C le a0 fin (o :: rest) k S := by
  subst hk
  rw [upd_eq] at hr
  exact rel_kind js T hj hd hT hs hr
theorem rel_one2 {C : World → Prop} {le : World → World → Prop} {a0 : Act} {fin : (Nat → Fact) → Prop} {k : Nat} {S : Nat → Fact} {o : Oper} {rest : List Oper} {u : Value} (k' : Nat) (js : List (Nat × Tmp)) (hk : k + 1 = k')
    (hj : deps ops k o = js.map (·.1)) (hd : js.all (fun p => dstOf ops p.1 == some p.2) = true) (hs : stepD P ops C le a0 S (fun v _ => v = u) o js)
    (hr : relWalk P ops C le a0 fin rest k' (fun j => bif Nat.beq j k then fun v _ => v = u else S j)) : relWalk P ops C le a0 fin (o :: rest) k S :=
  rel_kind2 k' js _ hk hj hd (fun _ _ _ _ h => h) hs hr
end
end Go.Proofs.YtfpikilhbkeajaaGreatDoor.Rel

namespace Go.Proofs.YtfpikilhbkeajaaGreatDoor.Relb
open Rel

abbrev Facts := Nat → (Nat → Value) → World → Prop

section
variable {P : Program} {ops : Array Oper}

def before (ops : Array Oper) (k : Nat) (js : List Nat) : Bool := js.all fun j => decide (j < k) && reach ops ops.size k j

def stepV (P : Program) (ops : Array Oper) (C : World → Prop) (le : World → World → Prop) (a0 : Act) (S : Facts) (k : Nat) (o : Oper) (T : List Value → Fact) (locs js : List Nat) : Prop :=
  ∀ vs w, C w → (∀ j ∈ js, S j vs w) → ∀ K : Act → World → Prop, (∀ v w', C w' → le w w' → T (locs.map vs) v w' → K ((putAll ops vs (deps ops k o) a0).put o.dst v) w') →
    if Region.wanted o (yielded ops (putAll ops vs (deps ops k o) a0).tmps) then o.wp P (putAll ops vs (deps ops k o) a0) w K (fun _ _ _ => False) else K ((putAll ops vs (deps ops k o) a0).put o.dst undef) w

def walkB (P : Program) (ops : Array Oper) (C : World → Prop) (le : World → World → Prop) (a0 : Act) (fin : Facts → Prop) : List Oper → Nat → Facts → Prop
  | [], _, S => fin S
  | o :: rest, k, S => ∃ (locs js : List Nat) (T : List Value → Fact), before ops k locs = true ∧ before ops k js = true ∧ (∀ l v w w', le w w' → T l v w → T l v w') ∧ stepV P ops C le a0 S k o T locs js ∧
      walkB P ops C le a0 fin rest (k + 1) (fun j => if j = k then fun vs w => T (locs.map vs) (vs k) w else S j)

def Local (ops : Array Oper) (S : Facts) (j : Nat) : Prop := ∀ vs vs' w, (∀ i, i = j ∨ (i < j ∧ reach ops ops.size j i = true) → vs i = vs' i) → S j vs w → S j vs' w

theorem before_mem {k j : Nat} {js : List Nat} (h : before ops k js = true) (hj : j ∈ js) : j < k ∧ reach ops ops.size k j = true := by
  have := List.all_eq_true.1 h j hj
  rw [Bool.and_eq_true] at this
  exact ⟨of_decide_eq_true this.1, this.2⟩

theorem walkB_all {C : World → Prop} {le : World → World → Prop} {a0 : Act} {fin : Facts → Prop} : ∀ (l : List Oper) (k : Nat) (S : Facts), (∀ j, l[j]? = ops[k + j]?) → walkB P ops C le a0 fin l k S →
    ∃ S' : Facts, (∀ j, j < k → S' j = S j) ∧ (∀ j o, k ≤ j → ops[j]? = some o → (∀ vs w w', le w w' → S' j vs w → S' j vs w') ∧ Local ops S' j ∧
      ∃ (locs js : List Nat) (T : List Value → Fact), before ops j locs = true ∧ before ops j js = true ∧ (∀ vs w, S' j vs w ↔ T (locs.map vs) (vs j) w) ∧ stepV P ops C le a0 S' j o T locs js) ∧ fin S'
  | [], k, S, hl, h => ⟨S, fun _ _ => rfl, fun j o hk ho => by
      have := hl (j - k)
      rw [show k + (j - k) = j by omega, ho] at this
      simp at this, h⟩
  | o :: rest, k, S, hl, ⟨locs, js, T, hlo, hjs, hT, hs, hr⟩ => by
    obtain ⟨S', h1, h2, h3⟩ := walkB_all rest (k + 1) _ (fun j => by have := hl (j + 1); simpa [Nat.add_assoc, Nat.add_comm 1 j] using this) hr
    have hk : S' k = fun vs w => T (locs.map vs) (vs k) w := by rw [h1 k (by omega)]; simp
    have hlt : ∀ j, j < k → S' j = S j := fun j hj => by rw [h1 j (by omega)]; simp [Nat.ne_of_lt hj]
    refine ⟨S', hlt, fun j o' hj ho => ?_, h3⟩
    rcases Nat.lt_or_ge k j with hlt' | hge
    · exact h2 j o' hlt' ho
    · obtain rfl : j = k := by omega
      have e : o' = o := by have := hl 0; simp at this; rw [ho] at this; exact (Option.some.inj this).symm
      subst e
      refine ⟨fun vs w w' hle h => ?_, fun vs vs' w he h => ?_, locs, js, T, hlo, hjs, fun vs w => by rw [hk], fun vs w hw hf => hs vs w hw fun i hi => ?_⟩
      · rw [hk] at h ⊢; exact hT _ _ _ _ hle h
      · rw [hk] at h ⊢
        have e1 : locs.map vs = locs.map vs' := List.map_congr_left fun i hi => he i (.inr (before_mem hlo hi))
        show T (locs.map vs') (vs' j) w
        rw [← e1, ← he j (.inl rfl)]
        exact h
      · rw [← hlt i (before_mem hjs hi).1]; exact hf i hi

structure InvB (ops : Array Oper) (C : World → Prop) (a0 : Act) (S : Facts) (vs : Nat → Value) (listed : Array Bool) (a : Act) (w : World) : Prop where
  inv : Inv ops C a0 (fun _ _ _ => True) vs listed a w
  facts : ∀ j, listed.getD j false = true → S j vs w

theorem relAnyB {size : Nat} (ok : Ok ops size) {C : World → Prop} {le : World → World → Prop} {a0 : Act} {S : Facts} {Q : Exit → Act → World → Prop} (h0 : a0.tmps.size = size)
    (hstep : ∀ j o, ops[j]? = some o → (∀ vs w w', le w w' → S j vs w → S j vs w') ∧ Local ops S j ∧
      ∃ (locs js : List Nat) (T : List Value → Fact), before ops j locs = true ∧ before ops j js = true ∧ (∀ vs w, S j vs w ↔ T (locs.map vs) (vs j) w) ∧ stepV P ops C le a0 S j o T locs js) (hrefl : ∀ w, le w w)
    (hfin : ∀ (vs : Nat → Value) w, C w → (∀ j, j < ops.size → S j vs w) → Q .normal (putAll ops vs (List.range ops.size) a0) w) :
    ∀ (fuel : Nat) (listed : Array Bool) (vs : Nat → Value) (a : Act) (w : World), undone ops listed ≤ fuel → InvB ops C a0 S vs listed a w → wpAny P .any ops Q fuel listed a w := by
  have hend : ∀ (listed : Array Bool) (vs : Nat → Value) (a : Act) (w : World), InvB ops C a0 S vs listed a w → (∀ j, j < ops.size → listed.getD j false = true) → Q .normal a w := by
    intro listed vs a w invB hall
    obtain ⟨inv, hfc⟩ := invB
    have hq := hfin vs w inv.cls fun j hj => hfc j (hall j hj)
    obtain ⟨h1, h2, h3, h4⟩ := putAll_spec ok vs (List.range ops.size) a0 h0 List.nodup_range (fun j hj => List.mem_range.1 hj)
    have e : putAll ops vs (List.range ops.size) a0 = a := by
      cases a with
      | mk tm df =>
        cases hp : putAll ops vs (List.range ops.size) a0 with
        | mk tm' df' =>
          rw [hp] at h1 h2 h3 h4
          have hd : df' = df := by have := inv.defers; simp only at this h1; rw [h1, this]
          have ht : tm' = tm := by
            refine Array.ext_getElem? fun t => ?_
            by_cases hex : ∃ j, j < ops.size ∧ dstOf ops j = some t
            · obtain ⟨j, hj, hd⟩ := hex
              have := inv.new j t (hall j hj) hd
              simp only at this
              rw [this]
              exact h4 j (List.mem_range.2 hj) t hd
            · have hno : ∀ j, dstOf ops j ≠ some t := fun j he => hex ⟨j, by
                unfold dstOf at he
                cases ho' : ops[j]? with
                | none => rw [ho'] at he; cases he
                | some o' => exact (Array.getElem?_eq_some_iff.1 ho').1, he⟩
              have := inv.old t (fun j _ => hno j)
              simp only at this
              rw [this]
              exact h3 t fun j _ => hno j
          rw [hd, ht]
    rw [e] at hq
    exact hq
  intro fuel
  induction fuel with
  | zero =>
    intro listed vs a w hu inv
    have hall : ∀ j, j < ops.size → listed.getD j false = true := fun j hj => by
      have h1 : undone ops listed = 0 := by omega
      have := List.countP_eq_zero.1 h1 j (List.mem_range.2 hj)
      simpa using this
    refine ⟨?_, hend listed vs a w inv hall⟩
    cases hr : Region.ready .any ops listed with
    | nil => rfl
    | cons i r =>
      have hi : i ∈ Region.ready .any ops listed := by rw [hr]; simp
      obtain ⟨h1, o, ho, _⟩ := mem_ready.1 hi
      have hlt : i < ops.size := (Array.getElem?_eq_some_iff.1 ho).1
      have h2 := hall i hlt
      rw [getD_false_iff (by rw [inv.inv.lsize]; exact hlt) false true, h1] at h2
      cases h2
  | succ fuel ih =>
    intro listed vs a w hu invB
    obtain ⟨inv, hfc⟩ := invB
    refine ⟨fun hr => hend listed vs a w ⟨inv, hfc⟩ (ready_all ok inv.lsize hr), fun i hi => ?_⟩
    obtain ⟨hun, o, ho, hl⟩ := mem_ready.1 hi
    have hlt : i < ops.size := (Array.getElem?_eq_some_iff.1 ho).1
    obtain ⟨hdep, hag⟩ := look_agree ok h0 inv ho hl
    obtain ⟨hst, hloc, locs, js, T, hlo, hjs, hST, hs⟩ := hstep i o ho
    obtain ⟨d, hd, hds⟩ := ok.dst ho
    have hil : i < listed.size := by rw [inv.lsize]; exact hlt
    have hun' : listed.getD i false = false := by rw [getD_false_iff hil false true]; exact hun
    have hlist : ∀ {j : Nat}, listed.getD j false = true → ∃ o', ops[j]? = some o' := fun {j} hjl => by
      have hjs : j < ops.size := by
        rcases Nat.lt_or_ge j listed.size with h | h
        · rw [inv.lsize] at h; exact h
        · simp [Array.getElem?_eq_none h] at hjl
      exact ⟨_, Array.getElem?_eq_getElem hjs⟩
    have hjl : ∀ j ∈ js, listed.getD j false = true := fun j hj => reach_listed inv _ i j o ho hl (before_mem hjs hj).2
    have hdone : undone ops (listed.setIfInBounds i true) ≤ fuel := by
      have : undone ops (listed.setIfInBounds i true) < undone ops listed := by
        refine count_lt (i := i) (List.mem_range.2 hlt) ?_ ?_ ?_
        · rw [hun']; rfl
        · rw [getD_set_self hil]; rfl
        · intro x hx
          cases hb : listed.getD x false with
          | false => rfl
          | true => rw [getD_set_true hb] at hx; cases hx
      omega
    have key := hs vs w inv.cls fun j hj => hfc j (hjl j hj)
    have hgo : ∀ v w', C w' → le w w' → T (locs.map vs) v w' → wpAny P .any ops Q fuel (listed.setIfInBounds i true) (a.put o.dst v) w' := fun v w' hC hle hv => by
      refine ih _ (fun j => if j = i then v else vs j) _ _ hdone ⟨inv.next ok h0 ho hun hl hC (fun _ _ _ => trivial) trivial, fun j hj => ?_⟩
      by_cases hji : j = i
      · subst hji
        refine (hST _ _).2 ?_
        have e1 : locs.map (fun j' => if j' = j then v else vs j') = locs.map vs := List.map_congr_left fun q hq => by rw [if_neg (by have := (before_mem hlo hq).1; omega)]
        rw [e1]; simpa using hv
      · rw [getD_set_ne false (Ne.symm hji)] at hj
        obtain ⟨o', ho'⟩ := hlist hj
        obtain ⟨hst', hloc', _⟩ := hstep j o' ho'
        refine hloc' vs _ w' (fun q hq => ?_) (hst' vs w w' hle (hfc j hj))
        have hql : listed.getD q false = true := by
          rcases hq with rfl | ⟨_, hq⟩
          · exact hj
          · exact reach_listed inv _ j q o' ho' (inv.closed j o' ho' hj) hq
        rw [if_neg (fun e => by rw [e, hun'] at hql; cases hql)]
    have hsz : (putAll ops vs (deps ops i o) a0).tmps.size = size := (putAll_spec ok vs (deps ops i o) a0 h0 (List.Pairwise.filter _ List.nodup_range) (fun j hj => by have := deps_lt hj; omega)).2.1
    have key2 := key (fun b w' => b.defers = (putAll ops vs (deps ops i o) a0).defers ∧ (C w' ∧ le w w' ∧ T (locs.map vs) (b.tmps.getD d undef) w')) fun v w' h1 h2 h3 => ⟨by rw [hd]; rfl, h1, h2, by rw [hd]; simpa [Act.put, hsz, hds] using h3⟩
    unfold wpOp
    simp only [ho]
    rw [wanted_agree hag] at key2
    by_cases hw : Region.wanted o (yielded ops a.tmps) = true
    · rw [if_pos hw] at key2
      rw [if_pos hw]
      exact .inl (wp_agree (R := fun v w' => C w' ∧ le w w' ∧ T (locs.map vs) v w') hd (by rw [hsz]; exact hds) (execOp_agree (Region.noSelect_spec ok.nosel i o · · ho) hag) key2 fun v w' ⟨h1, h2, h3⟩ => hgo v w' h1 h2 h3)
    · rw [if_neg hw] at key2
      rw [if_neg hw]
      obtain ⟨_, h1, h2, h3⟩ := key2
      have e : ((putAll ops vs (deps ops i o) a0).put o.dst undef).tmps.getD d undef = undef := by rw [hd]; simp [Act.put, hsz, hds]
      rw [e] at h3
      exact hgo undef w h1 h2 h3

theorem wp_region_relb {id : Nat} {Q : Exit → Act → World → Prop} {a : Act} {w : World} {l : List Oper} (C : World → Prop) (le : World → World → Prop) (hm : P.follows .mixedOrders = true) (hB : okB l.toArray a.tmps.size = true)
    (hC : C { w with drawn := w.drawn + 1 }) (hrefl : ∀ w, le w w)
    (h : walkB P l.toArray C le a (fun S => ∀ vs w', C w' → (∀ j, j < l.length → S j vs w') → Q .normal (putAll l.toArray vs (List.range l.length) a) w') l 0 (fun _ _ _ => True)) : (Code.region id l.toArray true).wp P Q a w := by
  have ok := okB_spec hB
  obtain ⟨S, _, h2, h3⟩ := walkB_all l 0 _ (by simp) h
  refine wp_region_any hm (relAnyB ok rfl (S := S) (fun j o ho => h2 j o (Nat.zero_le _) ho) hrefl (fun vs w' hw' hf => ?_) _ _ (fun _ => undef) _ _ ?_ ⟨?_, ?_⟩)
  · have := h3 vs w' hw' fun j hj => hf j (by simpa using hj)
    simpa using this
  · unfold undone
    exact Nat.le_trans (List.countP_le_length) (by simp)
  · refine ⟨hC, rfl, rfl, by simp, fun j o ho hj => ?_, fun t _ => rfl, fun j d hj => ?_, fun j hj => ?_⟩
    all_goals
      rw [getD_rep] at hj
      cases hj
  · intro j hj
    rw [getD_rep] at hj
    cases hj

def putD (vs : Nat → Value) : List (Nat × Tmp) → Act → Act
  | [], a => a
  | p :: js, a => putD vs js (a.put (some p.2) (vs p.1))
theorem putD_eq {vs : Nat → Value} : ∀ (js : List (Nat × Tmp)) (a : Act), js.all (fun p => dstOf ops p.1 == some p.2) = true → putAll ops vs (js.map (·.1)) a = putD vs js a
  | [], _, _ => rfl
  | p :: js, a, hd => by
    rw [List.all_cons, Bool.and_eq_true] at hd
    rw [List.map_cons, putAll, eq_of_beq hd.1]
    exact putD_eq js _ hd.2

theorem relb_kind {C : World → Prop} {le : World → World → Prop} {a0 : Act} {fin : Facts → Prop} {k : Nat} {S : Facts} {o : Oper} {rest : List Oper} (ds : List (Nat × Tmp)) (locs js : List Nat) (T : List Value → Fact)
    (hj : deps ops k o = ds.map (·.1)) (hd : ds.all (fun p => dstOf ops p.1 == some p.2) = true) (hlo : before ops k locs = true) (hjs : before ops k js = true) (hT : ∀ l v w w', le w w' → T l v w → T l v w')
    (hs : ∀ vs w, C w → (∀ j ∈ js, S j vs w) → ∀ K : Act → World → Prop, (∀ v w', C w' → le w w' → T (locs.map vs) v w' → K ((putD vs ds a0).put o.dst v) w') →
      if Region.wanted o (yielded ops (putD vs ds a0).tmps) then o.wp P (putD vs ds a0) w K (fun _ _ _ => False) else K ((putD vs ds a0).put o.dst undef) w)
    (hr : walkB P ops C le a0 fin rest (k + 1) (fun j => if j = k then fun vs w => T (locs.map vs) (vs k) w else S j)) : walkB P ops C le a0 fin (o :: rest) k S :=
  ⟨locs, js, T, hlo, hjs, hT, fun vs w hw hf K hK => by
    have := hs vs w hw hf K
    rw [hj, putD_eq ds a0 hd] at *
    exact this hK, hr⟩
theorem relb_one {C : World → Prop} {le : World → World → Prop} {a0 : Act} {fin : Facts → Prop} {k : Nat} {S : Facts} {o : Oper} {rest : List Oper} {u : Value} (ds : List (Nat × Tmp)) (js : List Nat)
    (hj : deps ops k o = ds.map (·.1)) (hd : ds.all (fun p => dstOf ops p.1 == some p.2) = true) (hjs : before ops k js = true)
    (hs : ∀ vs w, C w → (∀ j ∈ js, S j vs w) → ∀ K : Act → World → Prop, (∀ v w', C w' → le w w' → v = u → K ((putD vs ds a0).put o.dst v) w') →
      if Region.wanted o (yielded ops (putD vs ds a0).tmps) then o.wp P (putD vs ds a0) w K (fun _ _ _ => False) else K ((putD vs ds a0).put o.dst undef) w)
    (hr : walkB P ops C le a0 fin rest (k + 1) (fun j => if j = k then fun vs _ => vs k = u else S j)) : walkB P ops C le a0 fin (o :: rest) k S :=
  relb_kind ds [] js (fun _ v _ => v = u) hj hd (by rfl) hjs (fun _ _ _ _ _ h => h) hs hr
theorem relb_end {C : World → Prop} {le : World → World → Prop} {a0 : Act} {n k : Nat} {S : Facts} {Q : Exit → Act → World → Prop} (ds : List (Nat × Tmp)) (hn : List.range n = ds.map (·.1)) (hd : ds.all (fun p => dstOf ops p.1 == some p.2) = true)
    (h : ∀ vs w', C w' → (∀ j, j < n → S j vs w') → Q .normal (putD vs ds a0) w') :
    walkB P ops C le a0 (fun S => ∀ vs w', C w' → (∀ j, j < n → S j vs w') → Q .normal (putAll ops vs (List.range n) a0) w') [] k S :=
  fun vs w' hw hf => by rw [hn, putD_eq ds a0 hd]; exact h vs w' hw hf
end
end Go.Proofs.YtfpikilhbkeajaaGreatDoor.Relb

namespace Go.Proofs.YtfpikilhbkeajaaGreatDoor.RelbT
open Rel Relb

section
variable {P : Program} {ops : Array Oper}

def okTB (ops : Array Oper) (size m : Nat) : Bool :=
  Region.noSelect ops &&
  ((List.range ops.size).all fun k => match ops[k]? with
    | some o => (o.after.all fun e => !Region.binds .any e || decide (e.on < k)) && (!decide (k < m) || ((match o.dst with | some d => decide (d < size) | none => false) &&
        ((List.range m).all fun j => match dstOf ops j with
          | some d => (j == k || o.dst != some d) && (!(o.looksAt ops).contains d || (decide (j < k) && reach ops 4 k j))
          | none => true)))
    | none => true)

structure OkT (ops : Array Oper) (size m : Nat) : Prop where
  nosel : Region.noSelect ops = true
  dst : ∀ {k : Nat} {o : Oper}, k < m → ops[k]? = some o → ∃ d, o.dst = some d ∧ d < size
  back : ∀ {k : Nat} {o : Oper}, ops[k]? = some o → ∀ e ∈ o.after, Region.binds .any e = true → e.on < k
  one : ∀ {k j : Nat} {o o' : Oper} {d : Tmp}, k < m → j < m → ops[k]? = some o → ops[j]? = some o' → o.dst = some d → o'.dst = some d → j = k
  look : ∀ {k j : Nat} {o o' : Oper} {d : Tmp}, k < m → j < m → ops[k]? = some o → ops[j]? = some o' → o'.dst = some d → d ∈ o.looksAt ops → j < k ∧ reach ops 4 k j = true

theorem okTB_spec {size m : Nat} (h : okTB ops size m = true) : OkT ops size m := by
  unfold okTB at h
  rw [Bool.and_eq_true] at h
  have hk : ∀ {k : Nat} {o : Oper}, ops[k]? = some o → ((o.after.all fun e => !Region.binds .any e || decide (e.on < k)) && (!decide (k < m) || ((match o.dst with | some d => decide (d < size) | none => false) &&
        ((List.range m).all fun j => match dstOf ops j with
          | some d => (j == k || o.dst != some d) && (!(o.looksAt ops).contains d || (decide (j < k) && reach ops 4 k j))
          | none => true)))) = true := fun {k o} ho => by
    have := List.all_eq_true.1 h.2 k (List.mem_range.2 (Array.getElem?_eq_some_iff.1 ho).1)
    simp only [ho] at this
    exact this
  have hk2 : ∀ {k : Nat} {o : Oper}, k < m → ops[k]? = some o → ((match o.dst with | some d => decide (d < size) | none => false) &&
        ((List.range m).all fun j => match dstOf ops j with
          | some d => (j == k || o.dst != some d) && (!(o.looksAt ops).contains d || (decide (j < k) && reach ops 4 k j))
          | none => true)) = true := fun {k o} hkm ho => by
    have := hk ho
    rw [Bool.and_eq_true] at this
    have h2 := this.2
    rw [decide_eq_true hkm] at h2
    simpa only [Bool.not_true, Bool.false_or] using h2
  have hj : ∀ {k j : Nat} {o o' : Oper} {d : Tmp}, k < m → j < m → ops[k]? = some o → ops[j]? = some o' → o'.dst = some d → ((j == k || o.dst != some d) && (!(o.looksAt ops).contains d || (decide (j < k) && reach ops 4 k j))) = true := fun {k j o o' d} hkm hjm ho ho' hd => by
    have h1 := hk2 hkm ho
    rw [Bool.and_eq_true] at h1
    have h2 := List.all_eq_true.1 h1.2 j (List.mem_range.2 hjm)
    have e : dstOf ops j = some d := by unfold dstOf; rw [ho']; exact hd
    simp only [e] at h2
    exact h2
  refine ⟨h.1, fun {k o} hkm ho => ?_, fun {k o} ho e he hb => ?_, fun {k j o o' d} hkm hjm ho ho' hd hd' => ?_, fun {k j o o' d} hkm hjm ho ho' hd hl => ?_⟩
  · have h1 := hk2 hkm ho
    rw [Bool.and_eq_true] at h1
    have h2 := h1.1
    cases hd : o.dst with
    | none => simp [hd] at h2
    | some d => simp only [hd] at h2; exact ⟨d, rfl, of_decide_eq_true h2⟩
  · have h1 := hk ho
    rw [Bool.and_eq_true] at h1
    have h2 := Array.all_eq_true_iff_forall_mem.1 h1.1 e he
    simp only [hb, Bool.not_true, Bool.false_or] at h2
    exact of_decide_eq_true h2
  · have h1 := hj hkm hjm ho ho' hd'
    rw [Bool.and_eq_true] at h1
    have h2 := h1.1
    rw [hd] at h2
    simpa using h2
  · have h1 := hj hkm hjm ho ho' hd
    rw [Bool.and_eq_true] at h1
    have h2 := h1.2
    rw [Bool.or_eq_true, Bool.and_eq_true] at h2
    rcases h2 with h2 | h2
    · simp [hl] at h2
    · exact ⟨of_decide_eq_true h2.1, h2.2⟩

theorem putAll_specT {size m : Nat} (ok : OkT ops size m) (hms : m ≤ ops.size) (vs : Nat → Value) : ∀ (js : List Nat) (a : Act), a.tmps.size = size → js.Nodup → (∀ j ∈ js, j < m) →
    (putAll ops vs js a).defers = a.defers ∧ (putAll ops vs js a).tmps.size = size ∧ (∀ t, (∀ j ∈ js, dstOf ops j ≠ some t) → (putAll ops vs js a).tmps[t]? = a.tmps[t]?) ∧ (∀ j ∈ js, ∀ d, dstOf ops j = some d → (putAll ops vs js a).tmps[d]? = some (vs j))
  | [], a, hs, _, _ => ⟨rfl, hs, fun _ _ => rfl, fun _ h => by cases h⟩
  | j :: js, a, hs, hn, hl => by
    have hjm : j < m := hl j (by simp)
    have hj : j < ops.size := Nat.lt_of_lt_of_le hjm hms
    obtain ⟨o, ho⟩ : ∃ o, ops[j]? = some o := ⟨_, Array.getElem?_eq_getElem hj⟩
    obtain ⟨d, hd, hds⟩ := ok.dst hjm ho
    have e : dstOf ops j = some d := by unfold dstOf; rw [ho]; exact hd
    have hs' : (a.put (dstOf ops j) (vs j)).tmps.size = size := by rw [e]; simpa [Act.put] using hs
    obtain ⟨h1, h2, h3, h4⟩ := putAll_specT ok hms vs js _ hs' (List.nodup_cons.1 hn).2 fun i hi => hl i (by simp [hi])
    refine ⟨by rw [putAll, h1, e]; rfl, h2, fun t ht => ?_, fun i hi d' hd' => ?_⟩
    · rw [putAll, h3 t fun i hi => ht i (by simp [hi]), e]
      have hne : d ≠ t := fun e' => ht j (by simp) (by rw [e, e'])
      simp [Act.put, Array.getElem?_setIfInBounds_ne hne]
    · rcases List.mem_cons.1 hi with rfl | hi'
      · rw [e] at hd'
        obtain rfl := Option.some.inj hd'
        rw [putAll, h3 d fun i' hi' he => ?_, e]
        · simp [Act.put, Array.getElem?_setIfInBounds, hs, hds]
        · obtain ⟨o', ho'⟩ : ∃ o', ops[i']? = some o' := ⟨_, Array.getElem?_eq_getElem (Nat.lt_of_lt_of_le (hl i' (by simp [hi'])) hms)⟩
          have : i' = i := ok.one hjm (hl i' (by simp [hi'])) ho ho' hd (by unfold dstOf at he; rw [ho'] at he; exact he)
          subst this
          exact (List.nodup_cons.1 hn).1 hi'
      · exact h4 i hi' d' hd'

theorem look_agreeT {size m : Nat} (ok : OkT ops size m) (hms : m ≤ ops.size) {C : World → Prop} {a0 : Act} {S : Nat → Fact} {vs : Nat → Value} {listed : Array Bool} {a : Act} {w : World} (h0 : a0.tmps.size = size) (inv : Inv ops C a0 S vs listed a w)
    (htl : ∀ j, m ≤ j → listed.getD j false = false) {k : Nat} {o : Oper} (hkm : k < m) (ho : ops[k]? = some o) (hl : ∀ e ∈ o.after, Region.binds .any e = true → listed.getD e.on false = true) :
    (∀ j ∈ deps ops k o, listed.getD j false = true) ∧ ∀ t ∈ o.looksAt ops, (putAll ops vs (deps ops k o) a0).tmps[t]? = a.tmps[t]? := by
  have hdl : ∀ j ∈ deps ops k o, j < m := fun j hj => by have := deps_lt hj; omega
  have hdep : ∀ j ∈ deps ops k o, listed.getD j false = true := fun j hj => by
    obtain ⟨o', ho'⟩ : ∃ o', ops[j]? = some o' := ⟨_, Array.getElem?_eq_getElem (Nat.lt_of_lt_of_le (hdl j hj) hms)⟩
    obtain ⟨d, hd, _⟩ := ok.dst (hdl j hj) ho'
    have h2 := (List.mem_filter.1 hj).2
    have e : dstOf ops j = some d := by unfold dstOf; rw [ho']; exact hd
    simp only [e] at h2
    exact reach_listed inv 4 k j o ho hl (ok.look hkm (hdl j hj) ho ho' hd (by simpa using h2)).2
  refine ⟨hdep, fun t ht => ?_⟩
  obtain ⟨_, _, h3, h4⟩ := putAll_specT ok hms vs (deps ops k o) a0 h0 (List.Pairwise.filter _ List.nodup_range) hdl
  by_cases hex : ∃ j, j < m ∧ dstOf ops j = some t
  · obtain ⟨j, hj, hd⟩ := hex
    obtain ⟨o', ho'⟩ : ∃ o', ops[j]? = some o' := ⟨_, Array.getElem?_eq_getElem (Nat.lt_of_lt_of_le hj hms)⟩
    have hd' : o'.dst = some t := by unfold dstOf at hd; rw [ho'] at hd; exact hd
    have hlk := ok.look hkm hj ho ho' hd' ht
    have hm : j ∈ deps ops k o := List.mem_filter.2 ⟨List.mem_range.2 hlk.1, by simp only [hd]; simpa using ht⟩
    rw [h4 j hm t hd, inv.new j t (hdep j hm) hd]
  · have hno : ∀ j, j < m → dstOf ops j ≠ some t := fun j hj he => hex ⟨j, hj, he⟩
    rw [h3 t (fun j hj => hno j (hdl j hj)), inv.old t (fun j hj => hno j (by
      rcases Nat.lt_or_ge j m with h | h
      · exact h
      · rw [htl j h] at hj; cases hj))]

theorem Inv.nextT {size m : Nat} (ok : OkT ops size m) {C : World → Prop} {a0 : Act} {S : Nat → Fact} {vs : Nat → Value} {listed : Array Bool} {a : Act} {w w' : World} (h0 : a0.tmps.size = size) (inv : Inv ops C a0 S vs listed a w)
    (htl : ∀ j, m ≤ j → listed.getD j false = false) {k : Nat} {o : Oper} (hkm : k < m) (ho : ops[k]? = some o) (hun : listed.getD k true = false) (hl : ∀ e ∈ o.after, Region.binds .any e = true → listed.getD e.on false = true) {v : Value}
    (hC : C w') (hst : ∀ j, listed.getD j false = true → S j (vs j) w → S j (vs j) w') (hv : S k v w') : Inv ops C a0 S (fun j => if j = k then v else vs j) (listed.setIfInBounds k true) (a.put o.dst v) w' := by
  have hk : k < ops.size := (Array.getElem?_eq_some_iff.1 ho).1
  have hkl : k < listed.size := by rw [inv.lsize]; exact hk
  obtain ⟨d, hd, hds⟩ := ok.dst hkm ho
  have ed : dstOf ops k = some d := by unfold dstOf; rw [ho]; exact hd
  have hne : ∀ {j : Nat}, j < m → j ≠ k → dstOf ops j ≠ some d := fun {j} hjm hj he => by
    unfold dstOf at he
    cases ho' : ops[j]? with
    | none => rw [ho'] at he; cases he
    | some o' => rw [ho'] at he; exact hj (ok.one hkm hjm ho ho' hd he)
  have hun' : listed.getD k false = false := by rw [getD_false_iff hkl false true]; exact hun
  refine ⟨hC, ?_, ?_, by simpa using inv.lsize, fun j o' ho' hj e he hb => ?_, fun t ht => ?_, fun j d' hj hd' => ?_, fun j hj => ?_⟩
  · rw [hd]; simpa [Act.put] using inv.size
  · rw [hd]; exact inv.defers
  · by_cases hjk : k = j
    · subst hjk
      rw [ho] at ho'
      obtain rfl := Option.some.inj ho'
      exact getD_set_true (hl e he hb)
    · rw [getD_set_ne false hjk] at hj
      exact getD_set_true (inv.closed j o' ho' hj e he hb)
  · have hdt : d ≠ t := fun e => ht k (getD_set_self hkl false) (by rw [ed, e])
    rw [hd]
    simp only [Act.put, Array.getElem?_setIfInBounds_ne hdt]
    exact inv.old t fun j hj => ht j (getD_set_true hj)
  · by_cases hjk : j = k
    · subst hjk
      rw [ed] at hd'
      obtain rfl := Option.some.inj hd'
      rw [hd]
      simp [Act.put, inv.size, h0, hds]
    · rw [getD_set_ne false (Ne.symm hjk)] at hj
      have hdd : d ≠ d' := fun e => hne (by
        rcases Nat.lt_or_ge j m with h | h
        · exact h
        · rw [htl j h] at hj; cases hj) hjk (by rw [hd', e])
      rw [hd]
      simp only [Act.put, Array.getElem?_setIfInBounds_ne hdd, if_neg hjk]
      exact inv.new j d' hj hd'
  · by_cases hjk : j = k
    · subst hjk; simpa using hv
    · rw [getD_set_ne false (Ne.symm hjk)] at hj
      simp only [if_neg hjk]
      exact hst j hj (inv.facts j hj)

theorem ready_allT {size m : Nat} (ok : OkT ops size m) {listed : Array Bool} (hs : listed.size = ops.size) (h : Region.ready .any ops listed = []) : ∀ j, j < ops.size → listed.getD j false = true := by
  intro j
  induction j using Nat.strongRecOn with
  | _ j ih =>
    intro hj
    obtain ⟨o, ho⟩ : ∃ o, ops[j]? = some o := ⟨_, Array.getElem?_eq_getElem hj⟩
    cases hb : listed.getD j false with
    | true => rfl
    | false =>
      have : j ∈ Region.ready .any ops listed := mem_ready.2 ⟨by rw [getD_false_iff (by omega) true false]; exact hb, o, ho, fun e he hbd => by
        have hlt := ok.back ho e he hbd
        exact ih e.on hlt (by omega)⟩
      rw [h] at this
      cases this

def tailOk (ops : Array Oper) (m : Nat) : Bool := (List.range ops.size).all fun j => decide (j < m) || (List.range j).all fun i => reach ops ops.size j i
theorem tailOk_spec {m : Nat} (h : tailOk ops m = true) {j i : Nat} (hj : j < ops.size) (hm : m ≤ j) (hi : i < j) : reach ops ops.size j i = true := by
  have h1 := List.all_eq_true.1 h j (List.mem_range.2 hj)
  rw [Bool.or_eq_true] at h1
  rcases h1 with h1 | h1
  · have := of_decide_eq_true h1; omega
  · exact List.all_eq_true.1 h1 i (List.mem_range.2 hi)

theorem reach_closed {listed : Array Bool} (hc : ∀ j o, ops[j]? = some o → listed.getD j false = true → ∀ e ∈ o.after, Region.binds .any e = true → listed.getD e.on false = true) :
    ∀ (f k j : Nat) (o : Oper), ops[k]? = some o → (∀ e ∈ o.after, Region.binds .any e = true → listed.getD e.on false = true) → reach ops f k j = true → listed.getD j false = true
  | 0, _, _, _, _, _, h => by cases h
  | f + 1, k, j, o, ho, hl, h => by
    simp only [reach, ho] at h
    obtain ⟨e, he, hh⟩ := Array.any_eq_true'.1 h
    rw [Bool.and_eq_true, Bool.or_eq_true] at hh
    have hle := hl e he hh.1
    rcases hh.2 with h1 | h1
    · rw [← eq_of_beq h1]; exact hle
    · cases ho' : ops[e.on]? with
      | none =>
        cases f with
        | zero => cases h1
        | succ f => simp [reach, ho'] at h1
      | some o' => exact reach_closed hc f e.on j o' ho' (hc e.on o' ho' hle) h1

theorem tail_any {size m : Nat} {Q : Exit → Act → World → Prop} (ok : OkT ops size m) (ht : tailOk ops m = true) : ∀ (l : List Oper) (q : Nat) (fuel : Nat) (listed : Array Bool) (a : Act) (w : World), (∀ j, l[j]? = ops[q + j]?) → m ≤ q → listed.size = ops.size →
    (∀ j, j < ops.size → listed.getD j false = decide (j < q)) → ops.size - q ≤ fuel → wpList P ops Q l a w → wpAny P .any ops Q fuel listed a w
  | [], q, fuel, listed, a, w, hl, hm, hs, hf, hfu, h => by
    have hq : ops.size ≤ q := by
      have := hl 0
      simp only [List.getElem?_nil, Nat.add_zero] at this
      exact Array.getElem?_eq_none_iff.1 this.symm
    have hno : ∀ i, i ∈ Region.ready .any ops listed → False := fun i hi => by
      obtain ⟨h1, o, ho, _⟩ := mem_ready.1 hi
      have hlt : i < ops.size := (Array.getElem?_eq_some_iff.1 ho).1
      have h2 := hf i hlt
      rw [decide_eq_true (by omega : i < q), getD_false_iff (by rw [hs]; exact hlt) false true, h1] at h2
      cases h2
    have hn : Region.ready .any ops listed = [] := by
      cases hr : Region.ready .any ops listed with
      | nil => rfl
      | cons i r => exact (hno i (by rw [hr]; simp)).elim
    cases fuel with
    | zero => exact ⟨hn, h⟩
    | succ fuel => exact ⟨fun _ => h, fun i hi => (hno i hi).elim⟩
  | o :: rest, q, fuel, listed, a, w, hl, hm, hs, hf, hfu, h => by
    have hoq : ops[q]? = some o := by have := hl 0; simpa using this.symm
    have hq : q < ops.size := (Array.getElem?_eq_some_iff.1 hoq).1
    have hqf : listed.getD q false = false := by rw [hf q hq]; exact decide_eq_false (by omega)
    have hc : ∀ j o, ops[j]? = some o → listed.getD j false = true → ∀ e ∈ o.after, Region.binds .any e = true → listed.getD e.on false = true := fun j o' ho' hj e he hb => by
      have hjs : j < ops.size := (Array.getElem?_eq_some_iff.1 ho').1
      have h1 := hf j hjs
      rw [hj] at h1
      have h2 := of_decide_eq_true h1.symm
      have h3 := ok.back ho' e he hb
      rw [hf e.on (by omega)]
      exact decide_eq_true (by omega)
    cases fuel with
    | zero => omega
    | succ fuel =>
      refine ⟨fun hr => ?_, fun i hi => ?_⟩
      · have := ready_allT ok hs hr q hq
        rw [hqf] at this
        cases this
      · obtain ⟨hun, o', ho', hal⟩ := mem_ready.1 hi
        have hlt : i < ops.size := (Array.getElem?_eq_some_iff.1 ho').1
        have hif : listed.getD i false = false := by rw [getD_false_iff (by rw [hs]; exact hlt) false true]; exact hun
        have hge : q ≤ i := by
          rcases Nat.lt_or_ge i q with hlt' | hge
          · rw [hf i hlt, decide_eq_true hlt'] at hif; cases hif
          · exact hge
        have hiq : i = q := by
          rcases Nat.lt_or_ge q i with hlt' | hge'
          · have := reach_closed hc _ i q o' ho' hal (tailOk_spec ht hlt (by omega) hlt')
            rw [hqf] at this; cases this
          · omega
        subst hiq
        rw [ho'] at hoq
        obtain rfl := Option.some.inj hoq
        have hnext : ∀ a w, wpList P ops Q rest a w → wpAny P .any ops Q fuel (listed.setIfInBounds i true) a w := fun a w hh =>
          tail_any ok ht rest (i + 1) fuel _ a w (fun j => by have := hl (j + 1); simpa [Nat.add_assoc, Nat.add_comm 1 j] using this) (by omega) (by simpa using hs) (fun j hj => by
            by_cases e : i = j
            · subst e
              rw [getD_set_self (by rw [hs]; exact hlt)]
              exact (decide_eq_true (by omega)).symm
            · rw [getD_set_ne false e, hf j hj]
              by_cases hji : j < i
              · rw [decide_eq_true hji, decide_eq_true (by omega : j < i + 1)]
              · rw [decide_eq_false hji, decide_eq_false (by omega : ¬ j < i + 1)]) (by omega) hh
        unfold wpOp
        simp only [ho']
        unfold wpList at h
        by_cases hw : Region.wanted o' (yielded ops a.tmps) = true
        · rw [if_pos hw] at h ⊢
          rcases h with h | h
          · exact .inl (Oper.wp_mono (fun a w hh => hnext a w hh) h)
          · exact .inr h
        · rw [if_neg hw] at h ⊢
          exact hnext _ _ h

theorem walkB_all' {C : World → Prop} {le : World → World → Prop} {a0 : Act} {fin : Facts → Prop} : ∀ (l : List Oper) (k : Nat) (S : Facts), (∀ j, j < l.length → l[j]? = ops[k + j]?) → walkB P ops C le a0 fin l k S →
    ∃ S' : Facts, (∀ j, j < k → S' j = S j) ∧ (∀ j o, k ≤ j → j < k + l.length → ops[j]? = some o → (∀ vs w w', le w w' → S' j vs w → S' j vs w') ∧ Local ops S' j ∧
      ∃ (locs js : List Nat) (T : List Value → Fact), before ops j locs = true ∧ before ops j js = true ∧ (∀ vs w, S' j vs w ↔ T (locs.map vs) (vs j) w) ∧ stepV P ops C le a0 S' j o T locs js) ∧ fin S'
  | [], k, S, hl, h => ⟨S, fun _ _ => rfl, fun j o hk hj ho => by simp at hj; omega, h⟩
  | o :: rest, k, S, hl, ⟨locs, js, T, hlo, hjs, hT, hs, hr⟩ => by
    obtain ⟨S', h1, h2, h3⟩ := walkB_all' rest (k + 1) _ (fun j hj => by have := hl (j + 1) (by simpa using hj); simpa [Nat.add_assoc, Nat.add_comm 1 j] using this) hr
    have hk : S' k = fun vs w => T (locs.map vs) (vs k) w := by rw [h1 k (by omega)]; simp
    have hlt : ∀ j, j < k → S' j = S j := fun j hj => by rw [h1 j (by omega)]; simp [Nat.ne_of_lt hj]
    refine ⟨S', hlt, fun j o' hj hjl ho => ?_, h3⟩
    rcases Nat.lt_or_ge k j with hlt' | hge
    · exact h2 j o' hlt' (by simp at hjl; omega) ho
    · obtain rfl : j = k := by omega
      have e : o' = o := by have := hl 0 (by simp); simp at this; rw [ho] at this; exact (Option.some.inj this).symm
      subst e
      refine ⟨fun vs w w' hle h => ?_, fun vs vs' w he h => ?_, locs, js, T, hlo, hjs, fun vs w => by rw [hk], fun vs w hw hf => hs vs w hw fun i hi => ?_⟩
      · rw [hk] at h ⊢; exact hT _ _ _ _ hle h
      · rw [hk] at h ⊢
        have e1 : locs.map vs = locs.map vs' := List.map_congr_left fun i hi => he i (.inr (before_mem hlo hi))
        show T (locs.map vs') (vs' j) w
        rw [← e1, ← he j (.inl rfl)]
        exact h
      · rw [← hlt i (before_mem hjs hi).1]; exact hf i hi

theorem relAnyBT {size m : Nat} (ok : OkT ops size m) (ht : tailOk ops m = true) (hms : m ≤ ops.size) {C : World → Prop} {le : World → World → Prop} {a0 : Act} {S : Facts} {Q : Exit → Act → World → Prop} (h0 : a0.tmps.size = size) (l2 : List Oper) (hl2 : ∀ j, l2[j]? = ops[m + j]?)
    (hstep : ∀ j o, j < m → ops[j]? = some o → (∀ vs w w', le w w' → S j vs w → S j vs w') ∧ Local ops S j ∧
      ∃ (locs js : List Nat) (T : List Value → Fact), before ops j locs = true ∧ before ops j js = true ∧ (∀ vs w, S j vs w ↔ T (locs.map vs) (vs j) w) ∧ stepV P ops C le a0 S j o T locs js)
    (hfin : ∀ (vs : Nat → Value) w, C w → (∀ j, j < m → S j vs w) → wpList P ops Q l2 (putAll ops vs (List.range m) a0) w) :
    ∀ (fuel : Nat) (listed : Array Bool) (vs : Nat → Value) (a : Act) (w : World), undone ops listed ≤ fuel → (∀ j, m ≤ j → listed.getD j false = false) → InvB ops C a0 S vs listed a w → wpAny P .any ops Q fuel listed a w := by
  have hend : ∀ (fuel : Nat) (listed : Array Bool) (vs : Nat → Value) (a : Act) (w : World), undone ops listed ≤ fuel → (∀ j, m ≤ j → listed.getD j false = false) → InvB ops C a0 S vs listed a w → (∀ j, j < m → listed.getD j false = true) → wpAny P .any ops Q fuel listed a w := by
    intro fuel listed vs a w hu htl invB hall
    obtain ⟨inv, hfc⟩ := invB
    have hq := hfin vs w inv.cls fun j hj => hfc j (hall j hj)
    obtain ⟨h1, h2, h3, h4⟩ := putAll_specT ok hms vs (List.range m) a0 h0 List.nodup_range (fun j hj => by exact List.mem_range.1 hj)
    have e : putAll ops vs (List.range m) a0 = a := by
      cases a with
      | mk tm df =>
        cases hp : putAll ops vs (List.range m) a0 with
        | mk tm' df' =>
          rw [hp] at h1 h2 h3 h4
          have hd : df' = df := by have := inv.defers; simp only at this h1; rw [h1, this]
          have ht : tm' = tm := by
            refine Array.ext_getElem? fun t => ?_
            by_cases hex : ∃ j, j < m ∧ dstOf ops j = some t
            · obtain ⟨j, hj, hd⟩ := hex
              have := inv.new j t (hall j hj) hd
              simp only at this
              rw [this]
              exact h4 j (List.mem_range.2 hj) t hd
            · have hno : ∀ j, j < m → dstOf ops j ≠ some t := fun j hj he => hex ⟨j, hj, he⟩
              have := inv.old t (fun j hj => hno j (by
                rcases Nat.lt_or_ge j m with h | h
                · exact h
                · rw [htl j h] at hj; cases hj))
              simp only at this
              rw [this]
              exact h3 t fun j hj => hno j (List.mem_range.1 hj)
          rw [hd, ht]
    rw [e] at hq
    refine tail_any ok ht l2 m fuel listed a w hl2 (Nat.le_refl _) inv.lsize (fun j hj => ?_) ?_ hq
    · rcases Nat.lt_or_ge j m with h | h
      · rw [hall j h, decide_eq_true h]
      · rw [htl j h, decide_eq_false (by omega)]
    · have hc : (List.range ops.size).countP (fun j => !listed.getD j false) ≤ fuel := hu
      have h5 : ops.size - m ≤ (List.range ops.size).countP (fun j => !listed.getD j false) := by
        have e2 : List.range ops.size = List.range m ++ (List.range (ops.size - m)).map (m + ·) := by
          rw [show ops.size = m + (ops.size - m) by omega, List.range_add]; simp
        rw [e2, List.countP_append]
        have : (List.map (m + ·) (List.range (ops.size - m))).countP (fun j => !listed.getD j false) = ops.size - m := by
          rw [List.countP_eq_length.2 fun j hj => by
            obtain ⟨i, _, rfl⟩ := List.mem_map.1 hj
            rw [htl (m + i) (by omega)]; rfl]
          simp
        omega
      omega
  intro fuel
  induction fuel with
  | zero =>
    intro listed vs a w hu htl inv
    refine hend 0 listed vs a w hu htl inv fun j hj => ?_
    have h1 : undone ops listed = 0 := by omega
    have := List.countP_eq_zero.1 h1 j (List.mem_range.2 (by omega))
    simpa using this
  | succ fuel ih =>
    intro listed vs a w hu htl invB
    by_cases hall : ∀ j, j < m → listed.getD j false = true
    · exact hend _ listed vs a w hu htl invB hall
    obtain ⟨inv, hfc⟩ := invB
    refine ⟨fun hr => absurd (fun j hj => ready_allT ok inv.lsize hr j (by omega)) hall, fun i hi => ?_⟩
    obtain ⟨hun, o, ho, hl⟩ := mem_ready.1 hi
    have hlt : i < ops.size := (Array.getElem?_eq_some_iff.1 ho).1
    have him : i < m := by
      rcases Nat.lt_or_ge i m with h | h
      · exact h
      · exact absurd (fun j hj => reach_listed inv _ i j o ho hl (tailOk_spec ht hlt h (by omega))) hall
    obtain ⟨hdep, hag⟩ := look_agreeT ok hms h0 inv htl him ho hl
    obtain ⟨hst, hloc, locs, js, T, hlo, hjs, hST, hs⟩ := hstep i o him ho
    obtain ⟨d, hd, hds⟩ := ok.dst him ho
    have hil : i < listed.size := by rw [inv.lsize]; exact hlt
    have hun' : listed.getD i false = false := by rw [getD_false_iff hil false true]; exact hun
    have hlist : ∀ {j : Nat}, listed.getD j false = true → ∃ o', ops[j]? = some o' := fun {j} hjl => by
      have hjs : j < ops.size := by
        rcases Nat.lt_or_ge j listed.size with h | h
        · rw [inv.lsize] at h; exact h
        · simp [Array.getElem?_eq_none h] at hjl
      exact ⟨_, Array.getElem?_eq_getElem hjs⟩
    have hjl : ∀ j ∈ js, listed.getD j false = true := fun j hj => reach_listed inv _ i j o ho hl (before_mem hjs hj).2
    have hdone : undone ops (listed.setIfInBounds i true) ≤ fuel := by
      have : undone ops (listed.setIfInBounds i true) < undone ops listed := by
        refine count_lt (i := i) (List.mem_range.2 hlt) ?_ ?_ ?_
        · rw [hun']; rfl
        · rw [getD_set_self hil]; rfl
        · intro x hx
          cases hb : listed.getD x false with
          | false => rfl
          | true => rw [getD_set_true hb] at hx; cases hx
      omega
    have key := hs vs w inv.cls fun j hj => hfc j (hjl j hj)
    have hgo : ∀ v w', C w' → le w w' → T (locs.map vs) v w' → wpAny P .any ops Q fuel (listed.setIfInBounds i true) (a.put o.dst v) w' := fun v w' hC hle hv => by
      refine ih _ (fun j => if j = i then v else vs j) _ _ hdone (fun j hj => by rw [getD_set_ne false (by omega)]; exact htl j hj) ⟨RelbT.Inv.nextT ok h0 inv htl him ho hun hl hC (fun _ _ _ => trivial) trivial, fun j hj => ?_⟩
      by_cases hji : j = i
      · subst hji
        refine (hST _ _).2 ?_
        have e1 : locs.map (fun j' => if j' = j then v else vs j') = locs.map vs := List.map_congr_left fun q hq => by rw [if_neg (by have := (before_mem hlo hq).1; omega)]
        rw [e1]; simpa using hv
      · rw [getD_set_ne false (Ne.symm hji)] at hj
        obtain ⟨o', ho'⟩ := hlist hj
        have hjm : j < m := by
          rcases Nat.lt_or_ge j m with h | h
          · exact h
          · rw [htl j h] at hj; cases hj
        obtain ⟨hst', hloc', _⟩ := hstep j o' hjm ho'
        refine hloc' vs _ w' (fun q hq => ?_) (hst' vs w w' hle (hfc j hj))
        have hql : listed.getD q false = true := by
          rcases hq with rfl | ⟨_, hq⟩
          · exact hj
          · exact reach_listed inv _ j q o' ho' (inv.closed j o' ho' hj) hq
        rw [if_neg (fun e => by rw [e, hun'] at hql; cases hql)]
    have hsz : (putAll ops vs (deps ops i o) a0).tmps.size = size := (putAll_specT ok hms vs (deps ops i o) a0 h0 (List.Pairwise.filter _ List.nodup_range) (fun j hj => by have := deps_lt hj; omega)).2.1
    have key2 := key (fun b w' => b.defers = (putAll ops vs (deps ops i o) a0).defers ∧ (C w' ∧ le w w' ∧ T (locs.map vs) (b.tmps.getD d undef) w')) fun v w' h1 h2 h3 => ⟨by rw [hd]; rfl, h1, h2, by rw [hd]; simpa [Act.put, hsz, hds] using h3⟩
    unfold wpOp
    simp only [ho]
    rw [wanted_agree hag] at key2
    by_cases hw : Region.wanted o (yielded ops a.tmps) = true
    · rw [if_pos hw] at key2
      rw [if_pos hw]
      exact .inl (wp_agree (R := fun v w' => C w' ∧ le w w' ∧ T (locs.map vs) v w') hd (by rw [hsz]; exact hds) (execOp_agree (Region.noSelect_spec ok.nosel i o · · ho) hag) key2 fun v w' ⟨h1, h2, h3⟩ => hgo v w' h1 h2 h3)
    · rw [if_neg hw] at key2
      rw [if_neg hw]
      obtain ⟨_, h1, h2, h3⟩ := key2
      have e : ((putAll ops vs (deps ops i o) a0).put o.dst undef).tmps.getD d undef = undef := by rw [hd]; simp [Act.put, hsz, hds]
      rw [e] at h3
      exact hgo undef w h1 h2 h3


theorem wp_region_relbt {id : Nat} {Q : Exit → Act → World → Prop} {a : Act} {w : World} {l : List Oper} (m : Nat) (C : World → Prop) (le : World → World → Prop) (hm : P.follows .mixedOrders = true) (hB : okTB l.toArray a.tmps.size m = true) (ht : tailOk l.toArray m = true) (hml : m ≤ l.length)
    (hC : C { w with drawn := w.drawn + 1 })
    (h : walkB P l.toArray C le a (fun S => ∀ vs w', C w' → (∀ j, j < m → S j vs w') → wpList P l.toArray Q (l.drop m) (putAll l.toArray vs (List.range m) a) w') (l.take m) 0 (fun _ _ _ => True)) : (Code.region id l.toArray true).wp P Q a w := by
  have ok := okTB_spec hB
  obtain ⟨S, _, h2, h3⟩ := walkB_all' (l.take m) 0 _ (fun j hj => by
    rw [List.length_take] at hj
    rw [List.getElem?_take, if_pos (by omega)]; simp) h
  refine wp_region_any hm (relAnyBT ok ht (by simpa using hml) rfl (S := S) (l.drop m) (fun j => by rw [List.getElem?_drop]; simp) (fun j o hj ho => h2 j o (Nat.zero_le _) (by rw [List.length_take]; omega) ho) (fun vs w' hw' hf => h3 vs w' hw' hf) _ _ (fun _ => undef) _ _ ?_ ?_ ⟨?_, ?_⟩)
  · unfold undone
    exact Nat.le_trans (List.countP_le_length) (by simp)
  · intro j _
    exact getD_rep ..
  · refine ⟨hC, rfl, rfl, by simp, fun j o ho hj => ?_, fun t _ => rfl, fun j d hj => ?_, fun j hj => ?_⟩
    all_goals
      rw [getD_rep] at hj
      cases hj
  · intro j hj
    rw [getD_rep] at hj
    cases hj
theorem relbt_end {C : World → Prop} {le : World → World → Prop} {a0 : Act} {n k : Nat} {S : Facts} {Q : Exit → Act → World → Prop} {l2 : List Oper} (ds : List (Nat × Tmp)) (hn : List.range n = ds.map (·.1)) (hd : ds.all (fun p => dstOf ops p.1 == some p.2) = true)
    (h : ∀ vs w', C w' → (∀ j, j < n → S j vs w') → wpList P ops Q l2 (putD vs ds a0) w') :
    walkB P ops C le a0 (fun S => ∀ vs w', C w' → (∀ j, j < n → S j vs w') → wpList P ops Q l2 (putAll ops vs (List.range n) a0) w') [] k S :=
  fun vs w' hw hf => by rw [hn, putD_eq ds a0 hd]; exact h vs w' hw hf
end
end Go.Proofs.YtfpikilhbkeajaaGreatDoor.RelbT
