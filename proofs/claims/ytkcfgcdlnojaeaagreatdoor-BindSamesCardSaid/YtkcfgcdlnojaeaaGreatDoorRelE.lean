/-
  As RelD, where what is told of the chain may tell of the values of all that it has done.
-/
import Derived.Test.YtkcfgcdlnojaeaaGreatDoorRelbA
namespace Go.Proofs.YtkcfgcdlnojaeaaGreatDoor.RelE
open Rel Relb
open RelbT (reach_closed)

section
variable {P : Program} {ops : Array Oper}

def chainB (ops : Array Oper) (m : Nat) (ch : List Nat) : Bool :=
  (ch.all fun p => decide (p < m)) && (List.range ch.length).all fun i => match ch[i]?, ch[i + 1]? with
    | some p, some q => decide (p < q) && reach ops ops.size q p
    | _, _ => true
structure ChainOk (ops : Array Oper) (m : Nat) (ch : List Nat) : Prop where
  lt : ∀ p ∈ ch, p < m
  next : ∀ i p q, ch[i]? = some p → ch[i + 1]? = some q → p < q ∧ reach ops ops.size q p = true
theorem chainB_spec {m : Nat} {ch : List Nat} (h : chainB ops m ch = true) : ChainOk ops m ch := by
  unfold chainB at h
  rw [Bool.and_eq_true] at h
  refine ⟨fun p hp => of_decide_eq_true (List.all_eq_true.1 h.1 p hp), fun i p q hp hq => ?_⟩
  have h2 := List.all_eq_true.1 h.2 i (List.mem_range.2 (List.getElem?_eq_some_iff.1 hp).1)
  simp only [hp, hq] at h2
  rw [Bool.and_eq_true] at h2
  exact ⟨of_decide_eq_true h2.1, h2.2⟩
theorem ChainOk.rise {m : Nat} {ch : List Nat} (h : ChainOk ops m ch) : ∀ (n i p q : Nat), ch[i]? = some p → ch[i + n + 1]? = some q → p < q
  | 0, i, p, q, hp, hq => (h.next i p q hp hq).1
  | n + 1, i, p, q, hp, hq => by
    have hlt := (List.getElem?_eq_some_iff.1 hq).1
    obtain ⟨r, hr⟩ : ∃ r, ch[i + n + 1]? = some r := ⟨_, List.getElem?_eq_getElem (by omega)⟩
    exact Nat.lt_trans (h.rise n i p r hp hr) (h.next (i + n + 1) r q hr hq).1
theorem ChainOk.inj {m : Nat} {ch : List Nat} (h : ChainOk ops m ch) {i j p : Nat} (hi : ch[i]? = some p) (hj : ch[j]? = some p) : i = j := by
  rcases Nat.lt_trichotomy i j with hlt | he | hgt
  · have := h.rise (j - i - 1) i p p hi (by rw [show i + (j - i - 1) + 1 = j by omega]; exact hj)
    omega
  · exact he
  · have := h.rise (i - j - 1) j p p hj (by rw [show j + (i - j - 1) + 1 = i by omega]; exact hi)
    omega

def stepF (P : Program) (ops : Array Oper) (C : World → Prop) (le : World → World → Prop) (a0 : Act) (S : Nat → Fact) (T : Fact) (k : Nat) (o : Oper) : Prop :=
  ∀ vs w, C w → (∀ j ∈ deps ops k o, S j (vs j) w) → ∀ K : Act → World → Prop, (∀ v w', C w' → le w w' → T v w' → K ((putAll ops vs (deps ops k o) a0).put o.dst v) w') →
    if Region.wanted o (yielded ops (putAll ops vs (deps ops k o) a0).tmps) then o.wp P (putAll ops vs (deps ops k o) a0) w K (fun _ _ _ => False) else K ((putAll ops vs (deps ops k o) a0).put o.dst undef) w
def stepC (P : Program) (ops : Array Oper) (C : World → Prop) (leC : World → World → Prop) (a0 : Act) (S : Nat → Fact) (ch : List Nat) (G : Nat → (Nat → Value) → World → Prop) (t k : Nat) (o : Oper) : Prop :=
  ∀ vs w, C w → (∀ j ∈ deps ops k o, S j (vs j) w) → G t vs w → ∀ K : Act → World → Prop, (∀ v w', C w' → leC w w' → G (t + 1) (fun j => if j = k then v else vs j) w' → K ((putAll ops vs (deps ops k o) a0).put o.dst v) w') →
    if Region.wanted o (yielded ops (putAll ops vs (deps ops k o) a0).tmps) then o.wp P (putAll ops vs (deps ops k o) a0) w K (fun _ _ _ => False) else K ((putAll ops vs (deps ops k o) a0).put o.dst undef) w

def yes : Fact := fun _ _ => True
/-- An operation, of the chain or not. -/
def opOk (P : Program) (ops : Array Oper) (C : World → Prop) (le leC : World → World → Prop) (a0 : Act) (ch : List Nat) (G : Nat → (Nat → Value) → World → Prop) (S : Nat → Fact) (T : Fact) (k : Nat) (o : Oper) : Prop :=
  (ch.contains k = false ∧ (∀ v w w', le w w' ∨ leC w w' → T v w → T v w') ∧ stepF P ops C le a0 S T k o) ∨ (T = yes ∧ ∃ t, ch[t]? = some k ∧ stepC P ops C leC a0 S ch G t k o)
def walkC (P : Program) (ops : Array Oper) (C : World → Prop) (le leC : World → World → Prop) (a0 : Act) (ch : List Nat) (G : Nat → (Nat → Value) → World → Prop) (fin : (Nat → Fact) → Prop) : List Oper → Nat → (Nat → Fact) → Prop
  | [], _, S => fin S
  | o :: rest, k, S => ∃ T : Fact, opOk P ops C le leC a0 ch G S T k o ∧ walkC P ops C le leC a0 ch G fin rest (k + 1) (fun j => if j = k then T else S j)

theorem opOk_congr {C : World → Prop} {le leC : World → World → Prop} {a0 : Act} {ch : List Nat} {G : Nat → (Nat → Value) → World → Prop} {S S' : Nat → Fact} {T : Fact} {k : Nat} {o : Oper} (h : ∀ j, j < k → S' j = S j) (hs : opOk P ops C le leC a0 ch G S T k o) : opOk P ops C le leC a0 ch G S' T k o := by
  rcases hs with ⟨h1, h2, h3⟩ | ⟨h1, t, h2, h3⟩
  · exact .inl ⟨h1, h2, fun vs w hw hd => h3 vs w hw fun j hj => by rw [← h j (deps_lt hj)]; exact hd j hj⟩
  · exact .inr ⟨h1, t, h2, fun vs w hw hd => h3 vs w hw fun j hj => by rw [← h j (deps_lt hj)]; exact hd j hj⟩
theorem walkC_all {C : World → Prop} {le leC : World → World → Prop} {a0 : Act} {ch : List Nat} {G : Nat → (Nat → Value) → World → Prop} {fin : (Nat → Fact) → Prop} : ∀ (l : List Oper) (k : Nat) (S : Nat → Fact), (∀ j, j < l.length → l[j]? = ops[k + j]?) → walkC P ops C le leC a0 ch G fin l k S →
    ∃ S' : Nat → Fact, (∀ j, j < k → S' j = S j) ∧ (∀ j o, k ≤ j → j < k + l.length → ops[j]? = some o → opOk P ops C le leC a0 ch G S' (S' j) j o) ∧ fin S'
  | [], k, S, hl, h => ⟨S, fun _ _ => rfl, fun j o hk hj ho => by simp at hj; omega, h⟩
  | o :: rest, k, S, hl, ⟨T, hs, hr⟩ => by
    obtain ⟨S', h1, h2, h3⟩ := walkC_all rest (k + 1) _ (fun j hj => by have := hl (j + 1) (by simpa using hj); simpa [Nat.add_assoc, Nat.add_comm 1 j] using this) hr
    have hk : S' k = T := by rw [h1 k (by omega)]; simp
    have hlt : ∀ j, j < k → S' j = S j := fun j hj => by rw [h1 j (by omega)]; simp [Nat.ne_of_lt hj]
    refine ⟨S', hlt, fun j o' hj hjl ho => ?_, h3⟩
    rcases Nat.lt_or_ge k j with hlt' | hge
    · exact h2 j o' hlt' (by simp at hjl; omega) ho
    · obtain rfl : j = k := by omega
      have e : o' = o := by have := hl 0 (by simp); simp at this; rw [ho] at this; exact (Option.some.inj this).symm
      subst e
      rw [hk]
      exact opOk_congr hlt hs

def InvC (ops : Array Oper) (C : World → Prop) (a0 : Act) (S : Nat → Fact) (ch : List Nat) (G : Nat → (Nat → Value) → World → Prop) (vs : Nat → Value) (listed : Array Bool) (a : Act) (w : World) : Prop :=
  Inv ops C a0 (fun _ _ _ => True) vs listed a w ∧ (∀ j, listed.getD j false = true → S j (vs j) w) ∧ ∃ t, t ≤ ch.length ∧ (∀ i p, ch[i]? = some p → (listed.getD p false = true ↔ i < t)) ∧ G t vs w

theorem wp_agree0 {o : Oper} {a a' : Act} {w : World} (hd : o.dst = none) (he : execOp a.eval o = execOp a'.eval o) {R : World → Prop} {K : Act → World → Prop} {Q : Exit → Act → World → Prop}
    (h : o.wp P a w (fun b w' => b.defers = a.defers ∧ R w') (fun _ _ _ => False)) (hK : ∀ w', R w' → K a' w') : o.wp P a' w K Q := by
  unfold Oper.wp at *
  rw [← he]
  generalize (execOp a.eval o).run P w = r at *
  cases r with
  | ok n w' =>
    cases n <;> simp only [Oper.upon] at h ⊢
    case value u => rw [hd]; exact hK _ h.2
    case skip => rw [hd]; exact hK _ h.2
    case defer dd => exact absurd h.1 (by rw [hd]; simp [Act.put])
    case enter f args =>
      refine Calls.mono h fun e w'' he => ?_
      cases e with
      | returned u => rw [hd]; exact hK _ he.2
      | panicked c => exact he.elim
      | outgrown => obtain ⟨_, _, hf⟩ := he; exact hf.elim
    case row row args => exact Rows.mono h fun u w'' he => by rw [hd]; exact hK _ he.2
  | halt x w' =>
    cases x <;> simp only [Oper.upon] at h ⊢

/-- As Rel.Ok, of the first m operations. -/
def okDB (ops : Array Oper) (size m : Nat) : Bool :=
  Region.noSelect ops &&
  ((List.range ops.size).all fun k => match ops[k]? with
    | some o => (o.after.all fun e => !Region.binds .any e || decide (e.on < k)) && (!decide (k < m) || ((match o.dst with | some d => decide (d < size) | none => true) &&
        ((List.range m).all fun j => match dstOf ops j with
          | some d => (j == k || o.dst != some d) && (!(o.looksAt ops).contains d || (decide (j < k) && reach ops 4 k j))
          | none => true)))
    | none => true)

structure OkD (ops : Array Oper) (size m : Nat) : Prop where
  nosel : Region.noSelect ops = true
  dst : ∀ {k : Nat} {o : Oper}, k < m → ops[k]? = some o → ∀ d, o.dst = some d → d < size
  back : ∀ {k : Nat} {o : Oper}, ops[k]? = some o → ∀ e ∈ o.after, Region.binds .any e = true → e.on < k
  one : ∀ {k j : Nat} {o o' : Oper} {d : Tmp}, k < m → j < m → ops[k]? = some o → ops[j]? = some o' → o.dst = some d → o'.dst = some d → j = k
  look : ∀ {k j : Nat} {o o' : Oper} {d : Tmp}, k < m → j < m → ops[k]? = some o → ops[j]? = some o' → o'.dst = some d → d ∈ o.looksAt ops → j < k ∧ reach ops 4 k j = true

theorem okDB_spec {size m : Nat} (h : okDB ops size m = true) : OkD ops size m := by
  unfold okDB at h
  rw [Bool.and_eq_true] at h
  have hk : ∀ {k : Nat} {o : Oper}, ops[k]? = some o → ((o.after.all fun e => !Region.binds .any e || decide (e.on < k)) && (!decide (k < m) || ((match o.dst with | some d => decide (d < size) | none => true) &&
        ((List.range m).all fun j => match dstOf ops j with
          | some d => (j == k || o.dst != some d) && (!(o.looksAt ops).contains d || (decide (j < k) && reach ops 4 k j))
          | none => true)))) = true := fun {k o} ho => by
    have := List.all_eq_true.1 h.2 k (List.mem_range.2 (Array.getElem?_eq_some_iff.1 ho).1)
    simp only [ho] at this
    exact this
  have hk2 : ∀ {k : Nat} {o : Oper}, k < m → ops[k]? = some o → ((match o.dst with | some d => decide (d < size) | none => true) &&
        ((List.range m).all fun j => match dstOf ops j with
          | some d => (j == k || o.dst != some d) && (!(o.looksAt ops).contains d || (decide (j < k) && reach ops 4 k j))
          | none => true)) = true := fun {k o} hkm ho => by
    have := hk ho
    rw [Bool.and_eq_true] at this
    have h2 := this.2
    rw [decide_eq_true hkm] at h2
    simpa only [Bool.not_true, Bool.false_or] using h2
  have hj : ∀ {k j : Nat} {o o' : Oper} {d : Tmp}, k < m → j < m → ops[k]? = some o → ops[j]? = some o' → o'.dst = some d → ((j == k || o.dst != some d) && (!(o.looksAt ops).contains d || (decide (j < k) && reach ops 4 k j))) = true := fun {k j o o' d} hkm hjm ho ho' hd => by
    have h1 := hk2 hkm ho
    rw [Bool.and_eq_true] at h1
    have h2 := List.all_eq_true.1 h1.2 j (List.mem_range.2 hjm)
    have e : dstOf ops j = some d := by unfold dstOf; rw [ho']; exact hd
    simp only [e] at h2
    exact h2
  refine ⟨h.1, fun {k o} hkm ho => ?_, fun {k o} ho e he hb => ?_, fun {k j o o' d} hkm hjm ho ho' hd hd' => ?_, fun {k j o o' d} hkm hjm ho ho' hd hl => ?_⟩
  · have h1 := hk2 hkm ho
    rw [Bool.and_eq_true] at h1
    have h2 := h1.1
    intro d hd
    simp only [hd] at h2
    exact of_decide_eq_true h2
  · have h1 := hk ho
    rw [Bool.and_eq_true] at h1
    have h2 := Array.all_eq_true_iff_forall_mem.1 h1.1 e he
    simp only [hb, Bool.not_true, Bool.false_or] at h2
    exact of_decide_eq_true h2
  · have h1 := hj hkm hjm ho ho' hd'
    rw [Bool.and_eq_true] at h1
    have h2 := h1.1
    rw [hd] at h2
    simpa using h2
  · have h1 := hj hkm hjm ho ho' hd
    rw [Bool.and_eq_true] at h1
    have h2 := h1.2
    rw [Bool.or_eq_true, Bool.and_eq_true] at h2
    rcases h2 with h2 | h2
    · simp [hl] at h2
    · exact ⟨of_decide_eq_true h2.1, h2.2⟩

theorem putAll_specD {size m : Nat} (ok : OkD ops size m) (hms : m ≤ ops.size) (vs : Nat → Value) : ∀ (js : List Nat) (a : Act), a.tmps.size = size → js.Nodup → (∀ j ∈ js, j < m) →
    (putAll ops vs js a).defers = a.defers ∧ (putAll ops vs js a).tmps.size = size ∧ (∀ t, (∀ j ∈ js, dstOf ops j ≠ some t) → (putAll ops vs js a).tmps[t]? = a.tmps[t]?) ∧ (∀ j ∈ js, ∀ d, dstOf ops j = some d → (putAll ops vs js a).tmps[d]? = some (vs j))
  | [], a, hs, _, _ => ⟨rfl, hs, fun _ _ => rfl, fun _ h => by cases h⟩
  | j :: js, a, hs, hn, hl => by
    have hjm : j < m := hl j (by simp)
    have hj : j < ops.size := Nat.lt_of_lt_of_le hjm hms
    obtain ⟨o, ho⟩ : ∃ o, ops[j]? = some o := ⟨_, Array.getElem?_eq_getElem hj⟩
    cases hd : o.dst with
    | none =>
      have e : dstOf ops j = none := by unfold dstOf; rw [ho]; exact hd
      obtain ⟨h1, h2, h3, h4⟩ := putAll_specD ok hms vs js a hs (List.nodup_cons.1 hn).2 fun i hi => hl i (by simp [hi])
      have ea : a.put (dstOf ops j) (vs j) = a := by rw [e]; rfl
      refine ⟨by rw [putAll, ea]; exact h1, by rw [putAll, ea]; exact h2, fun t ht => ?_, fun i hi d' hd' => ?_⟩
      · rw [putAll, ea]; exact h3 t fun i hi => ht i (by simp [hi])
      · rcases List.mem_cons.1 hi with rfl | hi'
        · rw [e] at hd'; cases hd'
        · rw [putAll, ea]; exact h4 i hi' d' hd'
    | some d =>
    have hds := ok.dst hjm ho d hd
    have e : dstOf ops j = some d := by unfold dstOf; rw [ho]; exact hd
    have hs' : (a.put (dstOf ops j) (vs j)).tmps.size = size := by rw [e]; simpa [Act.put] using hs
    obtain ⟨h1, h2, h3, h4⟩ := putAll_specD ok hms vs js _ hs' (List.nodup_cons.1 hn).2 fun i hi => hl i (by simp [hi])
    refine ⟨by rw [putAll, h1, e]; rfl, h2, fun t ht => ?_, fun i hi d' hd' => ?_⟩
    · rw [putAll, h3 t fun i hi => ht i (by simp [hi]), e]
      have hne : d ≠ t := fun e' => ht j (by simp) (by rw [e, e'])
      simp [Act.put, Array.getElem?_setIfInBounds_ne hne]
    · rcases List.mem_cons.1 hi with rfl | hi'
      · rw [e] at hd'
        obtain rfl := Option.some.inj hd'
        rw [putAll, h3 d fun i' hi' he => ?_, e]
        · simp [Act.put, Array.getElem?_setIfInBounds, hs, hds]
        · obtain ⟨o', ho'⟩ : ∃ o', ops[i']? = some o' := ⟨_, Array.getElem?_eq_getElem (Nat.lt_of_lt_of_le (hl i' (by simp [hi'])) hms)⟩
          have : i' = i := ok.one hjm (hl i' (by simp [hi'])) ho ho' hd (by unfold dstOf at he; rw [ho'] at he; exact he)
          subst this
          exact (List.nodup_cons.1 hn).1 hi'
      · exact h4 i hi' d' hd'

/-- The frame of the operation, out of what lies in its own. -/
theorem look_agreeD {size m : Nat} (ok : OkD ops size m) (hms : m ≤ ops.size) {C : World → Prop} {a0 : Act} {S : Nat → Fact} {vs : Nat → Value} {listed : Array Bool} {a : Act} {w : World} (h0 : a0.tmps.size = size) (inv : Inv ops C a0 S vs listed a w)
    (htl : ∀ j, m ≤ j → listed.getD j false = false) {k : Nat} {o : Oper} (hkm : k < m) (ho : ops[k]? = some o) (hl : ∀ e ∈ o.after, Region.binds .any e = true → listed.getD e.on false = true) :
    (∀ j ∈ deps ops k o, listed.getD j false = true) ∧ ∀ t ∈ o.looksAt ops, (putAll ops vs (deps ops k o) a0).tmps[t]? = a.tmps[t]? := by
  have hdl : ∀ j ∈ deps ops k o, j < m := fun j hj => by have := deps_lt hj; omega
  have hdep : ∀ j ∈ deps ops k o, listed.getD j false = true := fun j hj => by
    obtain ⟨o', ho'⟩ : ∃ o', ops[j]? = some o' := ⟨_, Array.getElem?_eq_getElem (Nat.lt_of_lt_of_le (hdl j hj) hms)⟩
    have h2 := (List.mem_filter.1 hj).2
    obtain ⟨d, e⟩ : ∃ d, dstOf ops j = some d := by
      cases e : dstOf ops j with
      | none => simp [e] at h2
      | some d => exact ⟨d, rfl⟩
    have hd : o'.dst = some d := by unfold dstOf at e; rw [ho'] at e; exact e
    simp only [e] at h2
    exact reach_listed inv 4 k j o ho hl (ok.look hkm (hdl j hj) ho ho' hd (by simpa using h2)).2
  refine ⟨hdep, fun t ht => ?_⟩
  obtain ⟨_, _, h3, h4⟩ := putAll_specD ok hms vs (deps ops k o) a0 h0 (List.Pairwise.filter _ List.nodup_range) hdl
  by_cases hex : ∃ j, j < m ∧ dstOf ops j = some t
  · obtain ⟨j, hj, hd⟩ := hex
    obtain ⟨o', ho'⟩ : ∃ o', ops[j]? = some o' := ⟨_, Array.getElem?_eq_getElem (Nat.lt_of_lt_of_le hj hms)⟩
    have hd' : o'.dst = some t := by unfold dstOf at hd; rw [ho'] at hd; exact hd
    have hlk := ok.look hkm hj ho ho' hd' ht
    have hm : j ∈ deps ops k o := List.mem_filter.2 ⟨List.mem_range.2 hlk.1, by simp only [hd]; simpa using ht⟩
    rw [h4 j hm t hd, inv.new j t (hdep j hm) hd]
  · have hno : ∀ j, j < m → dstOf ops j ≠ some t := fun j hj he => hex ⟨j, hj, he⟩
    rw [h3 t (fun j hj => hno j (hdl j hj)), inv.old t (fun j hj => hno j (by
      rcases Nat.lt_or_ge j m with h | h
      · exact h
      · rw [htl j h] at hj; cases hj))]

theorem next_D {size m : Nat} (ok : OkD ops size m) {C : World → Prop} {a0 : Act} {S : Nat → Fact} {vs : Nat → Value} {listed : Array Bool} {a : Act} {w w' : World} (h0 : a0.tmps.size = size) (inv : Inv ops C a0 S vs listed a w)
    (htl : ∀ j, m ≤ j → listed.getD j false = false) {k : Nat} {o : Oper} (hkm : k < m) (ho : ops[k]? = some o) (hun : listed.getD k true = false) (hl : ∀ e ∈ o.after, Region.binds .any e = true → listed.getD e.on false = true) {v : Value}
    (hC : C w') (hst : ∀ j, listed.getD j false = true → S j (vs j) w → S j (vs j) w') (hv : S k v w') : Inv ops C a0 S (fun j => if j = k then v else vs j) (listed.setIfInBounds k true) (a.put o.dst v) w' := by
  have hk : k < ops.size := (Array.getElem?_eq_some_iff.1 ho).1
  have hkl : k < listed.size := by rw [inv.lsize]; exact hk
  have hun' : listed.getD k false = false := by rw [getD_false_iff hkl false true]; exact hun
  have hcl : ∀ j o', ops[j]? = some o' → (listed.setIfInBounds k true).getD j false = true → ∀ e ∈ o'.after, Region.binds .any e = true → (listed.setIfInBounds k true).getD e.on false = true := fun j o' ho' hj e he hb => by
    by_cases hjk : k = j
    · subst hjk
      rw [ho] at ho'
      obtain rfl := Option.some.inj ho'
      exact getD_set_true (hl e he hb)
    · rw [getD_set_ne false hjk] at hj
      exact getD_set_true (inv.closed j o' ho' hj e he hb)
  have hfs : ∀ j, (listed.setIfInBounds k true).getD j false = true → S j (if j = k then v else vs j) w' := fun j hj => by
    by_cases hjk : j = k
    · subst hjk; simpa using hv
    · rw [getD_set_ne false (Ne.symm hjk)] at hj
      simp only [if_neg hjk]
      exact hst j hj (inv.facts j hj)
  cases hd : o.dst with
  | none =>
    have ed : dstOf ops k = none := by unfold dstOf; rw [ho]; exact hd
    refine ⟨hC, inv.size, inv.defers, by simpa using inv.lsize, hcl, fun t ht => inv.old t fun j hj => ht j (getD_set_true hj), fun j d' hj hd' => ?_, hfs⟩
    by_cases hjk : j = k
    · subst hjk; rw [ed] at hd'; cases hd'
    · rw [getD_set_ne false (Ne.symm hjk)] at hj
      simp only [if_neg hjk]
      exact inv.new j d' hj hd'
  | some d =>
  have hds := ok.dst hkm ho d hd
  have ed : dstOf ops k = some d := by unfold dstOf; rw [ho]; exact hd
  rw [← hd]
  have hne : ∀ {j : Nat}, j < m → j ≠ k → dstOf ops j ≠ some d := fun {j} hjm hj he => by
    unfold dstOf at he
    cases ho' : ops[j]? with
    | none => rw [ho'] at he; cases he
    | some o' => rw [ho'] at he; exact hj (ok.one hkm hjm ho ho' hd he)
  refine ⟨hC, ?_, ?_, by simpa using inv.lsize, hcl, fun t ht => ?_, fun j d' hj hd' => ?_, hfs⟩
  · rw [hd]; simpa [Act.put] using inv.size
  · rw [hd]; exact inv.defers
  · have hdt : d ≠ t := fun e => ht k (getD_set_self hkl false) (by rw [ed, e])
    rw [hd]
    simp only [Act.put, Array.getElem?_setIfInBounds_ne hdt]
    exact inv.old t fun j hj => ht j (getD_set_true hj)
  · by_cases hjk : j = k
    · subst hjk
      rw [ed] at hd'
      obtain rfl := Option.some.inj hd'
      rw [hd]
      simp [Act.put, inv.size, h0, hds]
    · rw [getD_set_ne false (Ne.symm hjk)] at hj
      have hdd : d ≠ d' := fun e => hne (by
        rcases Nat.lt_or_ge j m with h | h
        · exact h
        · rw [htl j h] at hj; cases hj) hjk (by rw [hd', e])
      rw [hd]
      simp only [Act.put, Array.getElem?_setIfInBounds_ne hdd, if_neg hjk]
      exact inv.new j d' hj hd'

theorem ready_allD {size m : Nat} (ok : OkD ops size m) {listed : Array Bool} (hs : listed.size = ops.size) (h : Region.ready .any ops listed = []) : ∀ j, j < ops.size → listed.getD j false = true := by
  intro j
  induction j using Nat.strongRecOn with
  | _ j ih =>
    intro hj
    obtain ⟨o, ho⟩ : ∃ o, ops[j]? = some o := ⟨_, Array.getElem?_eq_getElem hj⟩
    cases hb : listed.getD j false with
    | true => rfl
    | false =>
      have : j ∈ Region.ready .any ops listed := mem_ready.2 ⟨by rw [getD_false_iff (by omega) true false]; exact hb, o, ho, fun e he hbd => by
        have hlt := ok.back ho e he hbd
        exact ih e.on hlt (by omega)⟩
      rw [h] at this
      cases this

theorem relAnyE {size m : Nat} (ok : OkD ops size m) (ht : RelbA.behindOk ops m = true) (hms : m ≤ ops.size) {C : World → Prop} {le leC : World → World → Prop} {a0 : Act} {S : Nat → Fact} {ch : List Nat} (hch : ChainOk ops m ch) {G : Nat → (Nat → Value) → World → Prop} {Q : Exit → Act → World → Prop} (h0 : a0.tmps.size = size)
    (hstep : ∀ j o, j < m → ops[j]? = some o → opOk P ops C le leC a0 ch G S (S j) j o) (hGle : ∀ t v w w', le w w' → G t v w → G t v w') (hGloc : ∀ t vs vs' w, (∀ q p, q < t → ch[q]? = some p → vs p = vs' p) → G t vs w → G t vs' w)
    (hfin : ∀ (vs : Nat → Value) w, C w → (∀ j, j < m → S j (vs j) w) → G ch.length vs w → wpAny P .any ops Q (ops.size - m) (RelbA.firstM ops m) (putAll ops vs (List.range m) a0) w) :
    ∀ (fuel : Nat) (listed : Array Bool) (vs : Nat → Value) (a : Act) (w : World), undone ops listed ≤ fuel → (∀ j, m ≤ j → listed.getD j false = false) → InvC ops C a0 S ch G vs listed a w → wpAny P .any ops Q fuel listed a w := by
  have hchl := hch.lt
  have hend : ∀ (fuel : Nat) (listed : Array Bool) (vs : Nat → Value) (a : Act) (w : World), undone ops listed ≤ fuel → (∀ j, m ≤ j → listed.getD j false = false) → InvC ops C a0 S ch G vs listed a w → (∀ j, j < m → listed.getD j false = true) → wpAny P .any ops Q fuel listed a w := by
    intro fuel listed vs a w hu htl invC hall
    obtain ⟨inv, hfc, t, htc, hti, hg⟩ := invC
    obtain rfl : t = ch.length := by
      rcases Nat.lt_or_ge t ch.length with h | h
      · have h2 := (hti t _ (List.getElem?_eq_getElem h)).1 (hall _ (hchl _ (List.getElem_mem h)))
        omega
      · omega
    have hq := hfin vs w inv.cls (fun j hj => hfc j (hall j hj)) hg
    obtain ⟨h1, h2, h3, h4⟩ := putAll_specD ok hms vs (List.range m) a0 h0 List.nodup_range (fun j hj => by exact List.mem_range.1 hj)
    have e : putAll ops vs (List.range m) a0 = a := by
      cases a with
      | mk tm df =>
        cases hp : putAll ops vs (List.range m) a0 with
        | mk tm' df' =>
          rw [hp] at h1 h2 h3 h4
          have hd : df' = df := by have := inv.defers; simp only at this h1; rw [h1, this]
          have ht : tm' = tm := by
            refine Array.ext_getElem? fun t => ?_
            by_cases hex : ∃ j, j < m ∧ dstOf ops j = some t
            · obtain ⟨j, hj, hd⟩ := hex
              have := inv.new j t (hall j hj) hd
              simp only at this
              rw [this]
              exact h4 j (List.mem_range.2 hj) t hd
            · have hno : ∀ j, j < m → dstOf ops j ≠ some t := fun j hj he => hex ⟨j, hj, he⟩
              have := inv.old t (fun j hj => hno j (by
                rcases Nat.lt_or_ge j m with h | h
                · exact h
                · rw [htl j h] at hj; cases hj))
              simp only at this
              rw [this]
              exact h3 t fun j hj => hno j (List.mem_range.1 hj)
          rw [hd, ht]
    rw [e] at hq
    have hle : ops.size - m ≤ fuel := by
      have hc : (List.range ops.size).countP (fun j => !listed.getD j false) ≤ fuel := hu
      have h5 : ops.size - m ≤ (List.range ops.size).countP (fun j => !listed.getD j false) := by
        have e2 : List.range ops.size = List.range m ++ (List.range (ops.size - m)).map (m + ·) := by
          rw [show ops.size = m + (ops.size - m) by omega, List.range_add]; simp
        rw [e2, List.countP_append]
        have : (List.map (m + ·) (List.range (ops.size - m))).countP (fun j => !listed.getD j false) = ops.size - m := by
          rw [List.countP_eq_length.2 fun j hj => by
            obtain ⟨i, _, rfl⟩ := List.mem_map.1 hj
            rw [htl (m + i) (by omega)]; rfl]
          simp
        omega
      omega
    have hlst : listed = RelbA.firstM ops m := by
      refine Array.ext (by rw [inv.lsize]; simp [RelbA.firstM]) fun j hj1 hj2 => ?_
      have hjs : j < ops.size := by rw [← inv.lsize]; exact hj1
      have h6 : listed.getD j false = decide (j < m) := by
        rcases Nat.lt_or_ge j m with h | h
        · rw [hall j h, decide_eq_true h]
        · rw [htl j h, decide_eq_false (by omega)]
      simp only [Array.getD_eq_getD_getElem?, Array.getElem?_eq_getElem hj1, Option.getD_some] at h6
      rw [h6]
      simp [RelbA.firstM]
    rw [hlst]
    exact RelbA.wpAny_mono _ _ _ _ _ hle hq
  intro fuel
  induction fuel with
  | zero =>
    intro listed vs a w hu htl inv
    refine hend 0 listed vs a w hu htl inv fun j hj => ?_
    have h1 : undone ops listed = 0 := by omega
    have := List.countP_eq_zero.1 h1 j (List.mem_range.2 (by omega))
    simpa using this
  | succ fuel ih =>
    intro listed vs a w hu htl invC
    by_cases hall : ∀ j, j < m → listed.getD j false = true
    · exact hend _ listed vs a w hu htl invC hall
    obtain ⟨inv, hfc, t, htc, hti, hg⟩ := invC
    refine ⟨fun hr => absurd (fun j hj => ready_allD ok inv.lsize hr j (by omega)) hall, fun i hi => ?_⟩
    obtain ⟨hun, o, ho, hl⟩ := mem_ready.1 hi
    have hlt : i < ops.size := (Array.getElem?_eq_some_iff.1 ho).1
    have him : i < m := by
      rcases Nat.lt_or_ge i m with h | h
      · exact h
      · exact absurd (fun j hj => reach_listed inv _ i j o ho hl (RelbA.behindOk_spec ht hlt h hj)) hall
    obtain ⟨hdep, hag⟩ := look_agreeD ok hms h0 inv htl him ho hl
    have hil : i < listed.size := by rw [inv.lsize]; exact hlt
    have hun' : listed.getD i false = false := by rw [getD_false_iff hil false true]; exact hun
    have hlist : ∀ {j : Nat}, listed.getD j false = true → ∃ o', ops[j]? = some o' := fun {j} hjl => by
      have hjs : j < ops.size := by
        rcases Nat.lt_or_ge j listed.size with h | h
        · rw [inv.lsize] at h; exact h
        · simp [Array.getElem?_eq_none h] at hjl
      exact ⟨_, Array.getElem?_eq_getElem hjs⟩
    have hdone : undone ops (listed.setIfInBounds i true) ≤ fuel := by
      have : undone ops (listed.setIfInBounds i true) < undone ops listed := by
        refine count_lt (i := i) (List.mem_range.2 hlt) ?_ ?_ ?_
        · rw [hun']; rfl
        · rw [getD_set_self hil]; rfl
        · intro x hx
          cases hb : listed.getD x false with
          | false => rfl
          | true => rw [getD_set_true hb] at hx; cases hx
      omega
    have hsz : (putAll ops vs (deps ops i o) a0).tmps.size = size := (putAll_specD ok hms vs (deps ops i o) a0 h0 (List.Pairwise.filter _ List.nodup_range) (fun j hj => by have := deps_lt hj; omega)).2.1
    -- what is told of the values before, behind a step of the one kind or the other
    have hstall : ∀ v w', (le w w' ∨ leC w w') → S i v w' → ∀ j, (listed.setIfInBounds i true).getD j false = true → S j (if j = i then v else vs j) w' := fun v w' hle hv j hj => by
      by_cases hji : j = i
      · subst hji; rw [if_pos rfl]; exact hv
      · rw [if_neg hji]
        rw [getD_set_ne false (Ne.symm hji)] at hj
        obtain ⟨o', ho'⟩ := hlist hj
        have hjm : j < m := by
          rcases Nat.lt_or_ge j m with h | h
          · exact h
          · rw [htl j h] at hj; cases hj
        rcases hstep j o' hjm ho' with ⟨_, h2, _⟩ | ⟨h1, _⟩
        · exact h2 _ _ _ hle (hfc j hj)
        · rw [h1]; exact trivial
    have fire : ∀ R : Fact, (∀ v w', R v w' → wpAny P .any ops Q fuel (listed.setIfInBounds i true) (a.put o.dst v) w') →
        (∀ K : Act → World → Prop, (∀ v w', R v w' → K ((putAll ops vs (deps ops i o) a0).put o.dst v) w') →
          if Region.wanted o (yielded ops (putAll ops vs (deps ops i o) a0).tmps) then o.wp P (putAll ops vs (deps ops i o) a0) w K (fun _ _ _ => False) else K ((putAll ops vs (deps ops i o) a0).put o.dst undef) w) →
        wpOp P ops Q i (wpAny P .any ops Q fuel (listed.setIfInBounds i true)) a w := fun R hgo key => by
      unfold wpOp
      simp only [ho]
      cases hd : o.dst with
      | none =>
        rw [hd] at key hgo
        have key2 := key (fun b w' => b.defers = (putAll ops vs (deps ops i o) a0).defers ∧ ∃ v, R v w') fun v w' h1 => ⟨rfl, v, h1⟩
        rw [wanted_agree hag] at key2
        by_cases hw : Region.wanted o (yielded ops a.tmps) = true
        · rw [if_pos hw] at key2
          rw [if_pos hw]
          exact .inl (wp_agree0 (R := fun w' => ∃ v, R v w') hd (execOp_agree (Region.noSelect_spec ok.nosel i o · · ho) hag) key2 fun w' ⟨v, h1⟩ => hgo v w' h1)
        · rw [if_neg hw] at key2
          rw [if_neg hw]
          obtain ⟨_, v, h1⟩ := key2
          exact hgo v w h1
      | some d =>
        have hds := ok.dst him ho d hd
        rw [← hd]
        have key2 := key (fun b w' => b.defers = (putAll ops vs (deps ops i o) a0).defers ∧ R (b.tmps.getD d undef) w') fun v w' h1 => ⟨by rw [hd]; rfl, by rw [hd]; simpa [Act.put, hsz, hds] using h1⟩
        rw [wanted_agree hag] at key2
        by_cases hw : Region.wanted o (yielded ops a.tmps) = true
        · rw [if_pos hw] at key2
          rw [if_pos hw]
          exact .inl (wp_agree (R := R) hd (by rw [hsz]; exact hds) (execOp_agree (Region.noSelect_spec ok.nosel i o · · ho) hag) key2 fun v w' h1 => hgo v w' h1)
        · rw [if_neg hw] at key2
          rw [if_neg hw]
          obtain ⟨_, h1⟩ := key2
          have e : ((putAll ops vs (deps ops i o) a0).put o.dst undef).tmps.getD d undef = undef := by rw [hd]; simp [Act.put, hsz, hds]
          rw [e] at h1
          exact hgo undef w h1
    rcases hstep i o him ho with ⟨hnc, hst, hs⟩ | ⟨hT, t0, ht0, hs⟩
    · -- not of the chain
      have hni : ∀ (q p : Nat), ch[q]? = some p → p ≠ i := fun q p hq e => by
        subst e
        have := List.contains_iff_mem.2 (List.mem_of_getElem? hq)
        rw [this] at hnc; cases hnc
      refine fire (fun v w' => C w' ∧ le w w' ∧ S i v w') (fun v w' ⟨hC, hle, hv⟩ => ?_) (fun K hK => hs vs w inv.cls (fun j hj => hfc j (hdep j hj)) K fun v w' h1 h2 h3 => hK v w' ⟨h1, h2, h3⟩)
      refine ih _ (fun j => if j = i then v else vs j) _ _ hdone (fun j hj => by rw [getD_set_ne false (by omega)]; exact htl j hj) ⟨next_D ok h0 inv htl him ho hun hl hC (fun _ _ _ => trivial) trivial, hstall v w' (.inl hle) hv, t, htc, fun q p hq => ?_, ?_⟩
      · rw [getD_set_ne false (Ne.symm (hni q p hq))]; exact hti q p hq
      · exact hGloc t vs _ w' (fun q p _ hp => by rw [if_neg (hni q p hp)]) (hGle t _ _ _ hle hg)
    · -- of the chain: just the next one
      have hle1 : t ≤ t0 := by
        rcases Nat.lt_or_ge t0 t with h | h
        · have := (hti t0 i ht0).2 h
          rw [hun'] at this; cases this
        · exact h
      obtain rfl : t0 = t := by
        rcases Nat.eq_or_lt_of_le hle1 with h | h
        · exact h.symm
        · exfalso
          have hlt0 := (List.getElem?_eq_some_iff.1 ht0).1
          obtain ⟨p, hp⟩ : ∃ p, ch[t0 - 1]? = some p := ⟨_, List.getElem?_eq_getElem (by omega)⟩
          have hr := (hch.next (t0 - 1) p i hp (by rw [show t0 - 1 + 1 = t0 by omega]; exact ht0)).2
          have := (hti (t0 - 1) p hp).1 (reach_listed inv _ i p o ho hl hr)
          omega
      have hlt0 := (List.getElem?_eq_some_iff.1 ht0).1
      refine fire (fun v w' => C w' ∧ leC w w' ∧ G (t0 + 1) (fun j => if j = i then v else vs j) w') (fun v w' ⟨hC, hle, hv⟩ => ?_) (fun K hK => hs vs w inv.cls (fun j hj => hfc j (hdep j hj)) hg K fun v w' h1 h2 h3 => hK v w' ⟨h1, h2, h3⟩)
      refine ih _ (fun j => if j = i then v else vs j) _ _ hdone (fun j hj => by rw [getD_set_ne false (by omega)]; exact htl j hj) ⟨next_D ok h0 inv htl him ho hun hl hC (fun _ _ _ => trivial) trivial, hstall v w' (.inr hle) (by rw [hT]; exact trivial), t0 + 1, by omega, fun q p hq => ?_, ?_⟩
      · by_cases hpi : p = i
        · subst hpi
          rw [getD_set_self hil, hch.inj hq ht0]
          simp
        · rw [getD_set_ne false (Ne.symm hpi), hti q p hq]
          have hqt : q ≠ t0 := fun e => hpi (by subst e; rw [ht0] at hq; exact (Option.some.inj hq).symm)
          omega
      · exact hv

/-- **One walk in the order of the text**, with a chain; the last operations one behind the other. -/
theorem wp_region_rele {id : Nat} {Q : Exit → Act → World → Prop} {a : Act} {w : World} {l : List Oper} (m : Nat) (C : World → Prop) (le leC : World → World → Prop) (ch : List Nat) (G : Nat → (Nat → Value) → World → Prop) (hm : P.follows .mixedOrders = true) (hB : okDB l.toArray a.tmps.size m = true) (ht : RelbA.behindOk l.toArray m = true) (hml : m ≤ l.length)
    (hch : chainB l.toArray m ch = true) (hC : C { w with drawn := w.drawn + 1 }) (hG : G 0 (fun _ => undef) { w with drawn := w.drawn + 1 }) (hGle : ∀ t v w w', le w w' → G t v w → G t v w') (hGloc : ∀ t vs vs' w, (∀ q p, q < t → ch[q]? = some p → vs p = vs' p) → G t vs w → G t vs' w)
    (h : walkC P l.toArray C le leC a ch G (fun S => ∀ vs w', C w' → (∀ j, j < m → S j (vs j) w') → G ch.length vs w' → wpAny P .any l.toArray Q (l.toArray.size - m) (RelbA.firstM l.toArray m) (putAll l.toArray vs (List.range m) a) w') (l.take m) 0 (fun _ => yes)) : (Code.region id l.toArray true).wp P Q a w := by
  have ok := okDB_spec hB
  have okc := chainB_spec hch
  obtain ⟨S, _, h2, h3⟩ := walkC_all (l.take m) 0 _ (fun j hj => by
    rw [List.length_take] at hj
    rw [List.getElem?_take, if_pos (by omega)]; simp) h
  refine wp_region_any hm (relAnyE ok ht (by simpa using hml) okc rfl (S := S) (fun j o hj ho => h2 j o (Nat.zero_le _) (by rw [List.length_take]; omega) ho) hGle hGloc (fun vs w' hw' hf hg => h3 vs w' hw' hf hg) _ _ (fun _ => undef) _ _ ?_ ?_ ⟨?_, ?_, 0, Nat.zero_le _, fun q p _ => ?_, hG⟩)
  · unfold undone
    exact Nat.le_trans (List.countP_le_length) (by simp)
  · intro j _
    exact getD_rep ..
  · refine ⟨hC, rfl, rfl, by simp, fun j o ho hj => ?_, fun t _ => rfl, fun j d hj => ?_, fun j hj => ?_⟩
    all_goals
      rw [getD_rep] at hj
      cases hj
  · intro j hj
    rw [getD_rep] at hj
    cases hj
  · rw [getD_rep]
    simp

section
variable {C : World → Prop} {le leC : World → World → Prop} {a0 : Act} {ch : List Nat} {G : Nat → (Nat → Value) → World → Prop} {fin : (Nat → Fact) → Prop} {k : Nat} {S : Nat → Fact} {o : Oper} {rest : List Oper}
theorem rele_kind (k' : Nat) (ds : List (Nat × Tmp)) (T : Fact) (hk : k + 1 = k') (hj : deps ops k o = ds.map (·.1)) (hd : ds.all (fun p => dstOf ops p.1 == some p.2) = true) (hn : ch.contains k = false) (hT : ∀ v w w', le w w' ∨ leC w w' → T v w → T v w')
    (hs : ∀ vs w, C w → (∀ j ∈ ds.map (·.1), S j (vs j) w) → ∀ K : Act → World → Prop, (∀ v w', C w' → le w w' → T v w' → K ((putD vs ds a0).put o.dst v) w') →
      if Region.wanted o (yielded ops (putD vs ds a0).tmps) then o.wp P (putD vs ds a0) w K (fun _ _ _ => False) else K ((putD vs ds a0).put o.dst undef) w)
    (hr : walkC P ops C le leC a0 ch G fin rest k' (fun j => bif Nat.beq j k then T else S j)) : walkC P ops C le leC a0 ch G fin (o :: rest) k S := by
  subst hk
  rw [upd_eq] at hr
  refine ⟨T, .inl ⟨hn, hT, fun vs w hw hf K hK => ?_⟩, hr⟩
  have := hs vs w hw (by rw [← hj]; exact hf) K
  rw [hj, putD_eq ds a0 hd] at *
  exact this hK
theorem rele_one {u : Value} (k' : Nat) (ds : List (Nat × Tmp)) (hk : k + 1 = k') (hj : deps ops k o = ds.map (·.1)) (hd : ds.all (fun p => dstOf ops p.1 == some p.2) = true) (hn : ch.contains k = false)
    (hs : ∀ vs w, C w → (∀ j ∈ ds.map (·.1), S j (vs j) w) → ∀ K : Act → World → Prop, (∀ v w', C w' → le w w' → v = u → K ((putD vs ds a0).put o.dst v) w') →
      if Region.wanted o (yielded ops (putD vs ds a0).tmps) then o.wp P (putD vs ds a0) w K (fun _ _ _ => False) else K ((putD vs ds a0).put o.dst undef) w)
    (hr : walkC P ops C le leC a0 ch G fin rest k' (fun j => bif Nat.beq j k then fun v _ => v = u else S j)) : walkC P ops C le leC a0 ch G fin (o :: rest) k S :=
  rele_kind k' ds (fun v _ => v = u) hk hj hd hn (fun _ _ _ _ h => h) hs hr
theorem rele_chain (t k' : Nat) (ds : List (Nat × Tmp)) (hk : k + 1 = k') (hj : deps ops k o = ds.map (·.1)) (hd : ds.all (fun p => dstOf ops p.1 == some p.2) = true) (ht : ch[t]? = some k)
    (hs : ∀ vs w, C w → (∀ j ∈ ds.map (·.1), S j (vs j) w) → G t vs w → ∀ K : Act → World → Prop, (∀ v w', C w' → leC w w' → G (t + 1) (fun j => if j = k then v else vs j) w' → K ((putD vs ds a0).put o.dst v) w') →
      if Region.wanted o (yielded ops (putD vs ds a0).tmps) then o.wp P (putD vs ds a0) w K (fun _ _ _ => False) else K ((putD vs ds a0).put o.dst undef) w)
    (hr : walkC P ops C le leC a0 ch G fin rest k' (fun j => bif Nat.beq j k then yes else S j)) : walkC P ops C le leC a0 ch G fin (o :: rest) k S := by
  subst hk
  rw [upd_eq] at hr
  refine ⟨yes, .inr ⟨rfl, t, ht, fun vs w hw hf hg K hK => ?_⟩, hr⟩
  have := hs vs w hw (by rw [← hj]; exact hf) hg K
  rw [hj, putD_eq ds a0 hd] at *
  exact this hK
/-- The slots written out, where an operation may have none. -/
def putO (vs : Nat → Value) : List (Nat × Option Tmp) → Act → Act
  | [], a => a
  | p :: js, a => putO vs js (a.put p.2 (vs p.1))
theorem putO_eq {vs : Nat → Value} : ∀ (js : List (Nat × Option Tmp)) (a : Act), js.all (fun p => dstOf ops p.1 == p.2) = true → putAll ops vs (js.map (·.1)) a = putO vs js a
  | [], _, _ => rfl
  | p :: js, a, hd => by
    rw [List.all_cons, Bool.and_eq_true] at hd
    rw [List.map_cons, putAll, eq_of_beq hd.1]
    exact putO_eq js _ hd.2
theorem rele_end {n : Nat} {N : Nat} {L : Array Bool} {Q : Exit → Act → World → Prop} (ds : List (Nat × Option Tmp)) (hn : List.range n = ds.map (·.1)) (hd : ds.all (fun p => dstOf ops p.1 == p.2) = true)
    (h : ∀ vs w', C w' → (∀ j, j < n → S j (vs j) w') → G ch.length vs w' → wpAny P .any ops Q N L (putO vs ds a0) w') :
    walkC P ops C le leC a0 ch G (fun S => ∀ vs w', C w' → (∀ j, j < n → S j (vs j) w') → G ch.length vs w' → wpAny P .any ops Q N L (putAll ops vs (List.range n) a0) w') [] k S :=
  fun vs w' hw hf hg => by rw [hn, putO_eq ds a0 hd]; exact h vs w' hw hf hg
end
end
end Go.Proofs.YtkcfgcdlnojaeaaGreatDoor.RelE
