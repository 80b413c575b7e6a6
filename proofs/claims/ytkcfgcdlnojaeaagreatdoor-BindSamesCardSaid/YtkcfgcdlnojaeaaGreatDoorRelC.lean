/-
  As Rel, where some operations, each behind the one before it in every order, write one after the other what is theirs (a chain), the others only read or make memory, and the last ones of all come behind all others.
-/
import Derived.Test.YtkcfgcdlnojaeaaGreatDoorRelbT
namespace Go.Proofs.YtkcfgcdlnojaeaaGreatDoor.RelC
open Rel Relb RelbT

section
variable {P : Program} {ops : Array Oper}

/-- The chain's value behind its first t operations. -/
def cur (ch : List Nat) (v0 : Value) (vs : Nat → Value) : Nat → Value
  | 0 => v0
  | t + 1 => vs (ch.getD t 0)
def chainB (ops : Array Oper) (m : Nat) (ch : List Nat) : Bool :=
  (ch.all fun p => decide (p < m)) && (List.range ch.length).all fun i => match ch[i]?, ch[i + 1]? with
    | some p, some q => decide (p < q) && reach ops ops.size q p
    | _, _ => true
structure ChainOk (ops : Array Oper) (m : Nat) (ch : List Nat) : Prop where
  lt : ∀ p ∈ ch, p < m
  next : ∀ i p q, ch[i]? = some p → ch[i + 1]? = some q → p < q ∧ reach ops ops.size q p = true
theorem chainB_spec {m : Nat} {ch : List Nat} (h : chainB ops m ch = true) : ChainOk ops m ch := by
  unfold chainB at h
  rw [Bool.and_eq_true] at h
  refine ⟨fun p hp => of_decide_eq_true (List.all_eq_true.1 h.1 p hp), fun i p q hp hq => ?_⟩
  have h2 := List.all_eq_true.1 h.2 i (List.mem_range.2 (List.getElem?_eq_some_iff.1 hp).1)
  simp only [hp, hq] at h2
  rw [Bool.and_eq_true] at h2
  exact ⟨of_decide_eq_true h2.1, h2.2⟩
theorem ChainOk.rise {m : Nat} {ch : List Nat} (h : ChainOk ops m ch) : ∀ (n i p q : Nat), ch[i]? = some p → ch[i + n + 1]? = some q → p < q
  | 0, i, p, q, hp, hq => (h.next i p q hp hq).1
  | n + 1, i, p, q, hp, hq => by
    have hlt := (List.getElem?_eq_some_iff.1 hq).1
    obtain ⟨r, hr⟩ : ∃ r, ch[i + n + 1]? = some r := ⟨_, List.getElem?_eq_getElem (by omega)⟩
    exact Nat.lt_trans (h.rise n i p r hp hr) (h.next (i + n + 1) r q hr hq).1
theorem ChainOk.inj {m : Nat} {ch : List Nat} (h : ChainOk ops m ch) {i j p : Nat} (hi : ch[i]? = some p) (hj : ch[j]? = some p) : i = j := by
  rcases Nat.lt_trichotomy i j with hlt | he | hgt
  · have := h.rise (j - i - 1) i p p hi (by rw [show i + (j - i - 1) + 1 = j by omega]; exact hj)
    omega
  · exact he
  · have := h.rise (i - j - 1) j p p hj (by rw [show j + (i - j - 1) + 1 = i by omega]; exact hi)
    omega

def stepF (P : Program) (ops : Array Oper) (C : World → Prop) (le : World → World → Prop) (a0 : Act) (S : Nat → Fact) (T : Fact) (k : Nat) (o : Oper) : Prop :=
  ∀ vs w, C w → (∀ j ∈ deps ops k o, S j (vs j) w) → ∀ K : Act → World → Prop, (∀ v w', C w' → le w w' → T v w' → K ((putAll ops vs (deps ops k o) a0).put o.dst v) w') →
    if Region.wanted o (yielded ops (putAll ops vs (deps ops k o) a0).tmps) then o.wp P (putAll ops vs (deps ops k o) a0) w K (fun _ _ _ => False) else K ((putAll ops vs (deps ops k o) a0).put o.dst undef) w
def stepC (P : Program) (ops : Array Oper) (C : World → Prop) (leC : World → World → Prop) (a0 : Act) (S : Nat → Fact) (ch : List Nat) (G : Nat → Fact) (v0 : Value) (t k : Nat) (o : Oper) : Prop :=
  ∀ vs w, C w → (∀ j ∈ deps ops k o, S j (vs j) w) → G t (cur ch v0 vs t) w → ∀ K : Act → World → Prop, (∀ v w', C w' → leC w w' → G (t + 1) v w' → K ((putAll ops vs (deps ops k o) a0).put o.dst v) w') →
    if Region.wanted o (yielded ops (putAll ops vs (deps ops k o) a0).tmps) then o.wp P (putAll ops vs (deps ops k o) a0) w K (fun _ _ _ => False) else K ((putAll ops vs (deps ops k o) a0).put o.dst undef) w

def yes : Fact := fun _ _ => True
/-- An operation, of the chain or not. -/
def opOk (P : Program) (ops : Array Oper) (C : World → Prop) (le leC : World → World → Prop) (a0 : Act) (ch : List Nat) (G : Nat → Fact) (v0 : Value) (S : Nat → Fact) (T : Fact) (k : Nat) (o : Oper) : Prop :=
  (ch.contains k = false ∧ (∀ v w w', le w w' ∨ leC w w' → T v w → T v w') ∧ stepF P ops C le a0 S T k o) ∨ (T = yes ∧ ∃ t, ch[t]? = some k ∧ stepC P ops C leC a0 S ch G v0 t k o)
def walkC (P : Program) (ops : Array Oper) (C : World → Prop) (le leC : World → World → Prop) (a0 : Act) (ch : List Nat) (G : Nat → Fact) (v0 : Value) (fin : (Nat → Fact) → Prop) : List Oper → Nat → (Nat → Fact) → Prop
  | [], _, S => fin S
  | o :: rest, k, S => ∃ T : Fact, opOk P ops C le leC a0 ch G v0 S T k o ∧ walkC P ops C le leC a0 ch G v0 fin rest (k + 1) (fun j => if j = k then T else S j)

theorem opOk_congr {C : World → Prop} {le leC : World → World → Prop} {a0 : Act} {ch : List Nat} {G : Nat → Fact} {v0 : Value} {S S' : Nat → Fact} {T : Fact} {k : Nat} {o : Oper} (h : ∀ j, j < k → S' j = S j) (hs : opOk P ops C le leC a0 ch G v0 S T k o) : opOk P ops C le leC a0 ch G v0 S' T k o := by
  rcases hs with ⟨h1, h2, h3⟩ | ⟨h1, t, h2, h3⟩
  · exact .inl ⟨h1, h2, fun vs w hw hd => h3 vs w hw fun j hj => by rw [← h j (deps_lt hj)]; exact hd j hj⟩
  · exact .inr ⟨h1, t, h2, fun vs w hw hd => h3 vs w hw fun j hj => by rw [← h j (deps_lt hj)]; exact hd j hj⟩
theorem walkC_all {C : World → Prop} {le leC : World → World → Prop} {a0 : Act} {ch : List Nat} {G : Nat → Fact} {v0 : Value} {fin : (Nat → Fact) → Prop} : ∀ (l : List Oper) (k : Nat) (S : Nat → Fact), (∀ j, j < l.length → l[j]? = ops[k + j]?) → walkC P ops C le leC a0 ch G v0 fin l k S →
    ∃ S' : Nat → Fact, (∀ j, j < k → S' j = S j) ∧ (∀ j o, k ≤ j → j < k + l.length → ops[j]? = some o → opOk P ops C le leC a0 ch G v0 S' (S' j) j o) ∧ fin S'
  | [], k, S, hl, h => ⟨S, fun _ _ => rfl, fun j o hk hj ho => by simp at hj; omega, h⟩
  | o :: rest, k, S, hl, ⟨T, hs, hr⟩ => by
    obtain ⟨S', h1, h2, h3⟩ := walkC_all rest (k + 1) _ (fun j hj => by have := hl (j + 1) (by simpa using hj); simpa [Nat.add_assoc, Nat.add_comm 1 j] using this) hr
    have hk : S' k = T := by rw [h1 k (by omega)]; simp
    have hlt : ∀ j, j < k → S' j = S j := fun j hj => by rw [h1 j (by omega)]; simp [Nat.ne_of_lt hj]
    refine ⟨S', hlt, fun j o' hj hjl ho => ?_, h3⟩
    rcases Nat.lt_or_ge k j with hlt' | hge
    · exact h2 j o' hlt' (by simp at hjl; omega) ho
    · obtain rfl : j = k := by omega
      have e : o' = o := by have := hl 0 (by simp); simp at this; rw [ho] at this; exact (Option.some.inj this).symm
      subst e
      rw [hk]
      exact opOk_congr hlt hs

def InvC (ops : Array Oper) (C : World → Prop) (a0 : Act) (S : Nat → Fact) (ch : List Nat) (G : Nat → Fact) (v0 : Value) (vs : Nat → Value) (listed : Array Bool) (a : Act) (w : World) : Prop :=
  Inv ops C a0 (fun _ _ _ => True) vs listed a w ∧ (∀ j, listed.getD j false = true → S j (vs j) w) ∧ ∃ t, t ≤ ch.length ∧ (∀ i p, ch[i]? = some p → (listed.getD p false = true ↔ i < t)) ∧ G t (cur ch v0 vs t) w

theorem relAnyC {size m : Nat} (ok : OkT ops size m) (ht : tailOk ops m = true) (hms : m ≤ ops.size) {C : World → Prop} {le leC : World → World → Prop} {a0 : Act} {S : Nat → Fact} {ch : List Nat} (hch : ChainOk ops m ch) {G : Nat → Fact} {v0 : Value} {Q : Exit → Act → World → Prop} (h0 : a0.tmps.size = size)
    (l2 : List Oper) (hl2 : ∀ j, l2[j]? = ops[m + j]?)
    (hstep : ∀ j o, j < m → ops[j]? = some o → opOk P ops C le leC a0 ch G v0 S (S j) j o) (hGle : ∀ t v w w', le w w' → G t v w → G t v w')
    (hfin : ∀ (vs : Nat → Value) w, C w → (∀ j, j < m → S j (vs j) w) → G ch.length (cur ch v0 vs ch.length) w → wpList P ops Q l2 (putAll ops vs (List.range m) a0) w) :
    ∀ (fuel : Nat) (listed : Array Bool) (vs : Nat → Value) (a : Act) (w : World), undone ops listed ≤ fuel → (∀ j, m ≤ j → listed.getD j false = false) → InvC ops C a0 S ch G v0 vs listed a w → wpAny P .any ops Q fuel listed a w := by
  have hchl := hch.lt
  have hend : ∀ (fuel : Nat) (listed : Array Bool) (vs : Nat → Value) (a : Act) (w : World), undone ops listed ≤ fuel → (∀ j, m ≤ j → listed.getD j false = false) → InvC ops C a0 S ch G v0 vs listed a w → (∀ j, j < m → listed.getD j false = true) → wpAny P .any ops Q fuel listed a w := by
    intro fuel listed vs a w hu htl invC hall
    obtain ⟨inv, hfc, t, htc, hti, hg⟩ := invC
    obtain rfl : t = ch.length := by
      rcases Nat.lt_or_ge t ch.length with h | h
      · have h2 := (hti t _ (List.getElem?_eq_getElem h)).1 (hall _ (hchl _ (List.getElem_mem h)))
        omega
      · omega
    have hq := hfin vs w inv.cls (fun j hj => hfc j (hall j hj)) hg
    obtain ⟨h1, h2, h3, h4⟩ := putAll_specT ok hms vs (List.range m) a0 h0 List.nodup_range (fun j hj => by exact List.mem_range.1 hj)
    have e : putAll ops vs (List.range m) a0 = a := by
      cases a with
      | mk tm df =>
        cases hp : putAll ops vs (List.range m) a0 with
        | mk tm' df' =>
          rw [hp] at h1 h2 h3 h4
          have hd : df' = df := by have := inv.defers; simp only at this h1; rw [h1, this]
          have ht : tm' = tm := by
            refine Array.ext_getElem? fun t => ?_
            by_cases hex : ∃ j, j < m ∧ dstOf ops j = some t
            · obtain ⟨j, hj, hd⟩ := hex
              have := inv.new j t (hall j hj) hd
              simp only at this
              rw [this]
              exact h4 j (List.mem_range.2 hj) t hd
            · have hno : ∀ j, j < m → dstOf ops j ≠ some t := fun j hj he => hex ⟨j, hj, he⟩
              have := inv.old t (fun j hj => hno j (by
                rcases Nat.lt_or_ge j m with h | h
                · exact h
                · rw [htl j h] at hj; cases hj))
              simp only at this
              rw [this]
              exact h3 t fun j hj => hno j (List.mem_range.1 hj)
          rw [hd, ht]
    rw [e] at hq
    refine tail_any ok ht l2 m fuel listed a w hl2 (Nat.le_refl _) inv.lsize (fun j hj => ?_) ?_ hq
    · rcases Nat.lt_or_ge j m with h | h
      · rw [hall j h, decide_eq_true h]
      · rw [htl j h, decide_eq_false (by omega)]
    · have hc : (List.range ops.size).countP (fun j => !listed.getD j false) ≤ fuel := hu
      have h5 : ops.size - m ≤ (List.range ops.size).countP (fun j => !listed.getD j false) := by
        have e2 : List.range ops.size = List.range m ++ (List.range (ops.size - m)).map (m + ·) := by
          rw [show ops.size = m + (ops.size - m) by omega, List.range_add]; simp
        rw [e2, List.countP_append]
        have : (List.map (m + ·) (List.range (ops.size - m))).countP (fun j => !listed.getD j false) = ops.size - m := by
          rw [List.countP_eq_length.2 fun j hj => by
            obtain ⟨i, _, rfl⟩ := List.mem_map.1 hj
            rw [htl (m + i) (by omega)]; rfl]
          simp
        omega
      omega
  intro fuel
  induction fuel with
  | zero =>
    intro listed vs a w hu htl inv
    refine hend 0 listed vs a w hu htl inv fun j hj => ?_
    have h1 : undone ops listed = 0 := by omega
    have := List.countP_eq_zero.1 h1 j (List.mem_range.2 (by omega))
    simpa using this
  | succ fuel ih =>
    intro listed vs a w hu htl invC
    by_cases hall : ∀ j, j < m → listed.getD j false = true
    · exact hend _ listed vs a w hu htl invC hall
    obtain ⟨inv, hfc, t, htc, hti, hg⟩ := invC
    refine ⟨fun hr => absurd (fun j hj => ready_allT ok inv.lsize hr j (by omega)) hall, fun i hi => ?_⟩
    obtain ⟨hun, o, ho, hl⟩ := mem_ready.1 hi
    have hlt : i < ops.size := (Array.getElem?_eq_some_iff.1 ho).1
    have him : i < m := by
      rcases Nat.lt_or_ge i m with h | h
      · exact h
      · exact absurd (fun j hj => reach_listed inv _ i j o ho hl (tailOk_spec ht hlt h (by omega))) hall
    obtain ⟨hdep, hag⟩ := look_agreeT ok hms h0 inv htl him ho hl
    obtain ⟨d, hd, hds⟩ := ok.dst him ho
    have hil : i < listed.size := by rw [inv.lsize]; exact hlt
    have hun' : listed.getD i false = false := by rw [getD_false_iff hil false true]; exact hun
    have hlist : ∀ {j : Nat}, listed.getD j false = true → ∃ o', ops[j]? = some o' := fun {j} hjl => by
      have hjs : j < ops.size := by
        rcases Nat.lt_or_ge j listed.size with h | h
        · rw [inv.lsize] at h; exact h
        · simp [Array.getElem?_eq_none h] at hjl
      exact ⟨_, Array.getElem?_eq_getElem hjs⟩
    have hdone : undone ops (listed.setIfInBounds i true) ≤ fuel := by
      have : undone ops (listed.setIfInBounds i true) < undone ops listed := by
        refine count_lt (i := i) (List.mem_range.2 hlt) ?_ ?_ ?_
        · rw [hun']; rfl
        · rw [getD_set_self hil]; rfl
        · intro x hx
          cases hb : listed.getD x false with
          | false => rfl
          | true => rw [getD_set_true hb] at hx; cases hx
      omega
    have hsz : (putAll ops vs (deps ops i o) a0).tmps.size = size := (putAll_specT ok hms vs (deps ops i o) a0 h0 (List.Pairwise.filter _ List.nodup_range) (fun j hj => by have := deps_lt hj; omega)).2.1
    -- what is told of the values before, behind a step of the one kind or the other
    have hstall : ∀ v w', (le w w' ∨ leC w w') → S i v w' → ∀ j, (listed.setIfInBounds i true).getD j false = true → S j (if j = i then v else vs j) w' := fun v w' hle hv j hj => by
      by_cases hji : j = i
      · subst hji; rw [if_pos rfl]; exact hv
      · rw [if_neg hji]
        rw [getD_set_ne false (Ne.symm hji)] at hj
        obtain ⟨o', ho'⟩ := hlist hj
        have hjm : j < m := by
          rcases Nat.lt_or_ge j m with h | h
          · exact h
          · rw [htl j h] at hj; cases hj
        rcases hstep j o' hjm ho' with ⟨_, h2, _⟩ | ⟨h1, _⟩
        · exact h2 _ _ _ hle (hfc j hj)
        · rw [h1]; exact trivial
    have fire : ∀ R : Fact, (∀ v w', R v w' → wpAny P .any ops Q fuel (listed.setIfInBounds i true) (a.put o.dst v) w') →
        (∀ K : Act → World → Prop, (∀ v w', R v w' → K ((putAll ops vs (deps ops i o) a0).put o.dst v) w') →
          if Region.wanted o (yielded ops (putAll ops vs (deps ops i o) a0).tmps) then o.wp P (putAll ops vs (deps ops i o) a0) w K (fun _ _ _ => False) else K ((putAll ops vs (deps ops i o) a0).put o.dst undef) w) →
        wpOp P ops Q i (wpAny P .any ops Q fuel (listed.setIfInBounds i true)) a w := fun R hgo key => by
      have key2 := key (fun b w' => b.defers = (putAll ops vs (deps ops i o) a0).defers ∧ R (b.tmps.getD d undef) w') fun v w' h1 => ⟨by rw [hd]; rfl, by rw [hd]; simpa [Act.put, hsz, hds] using h1⟩
      unfold wpOp
      simp only [ho]
      rw [wanted_agree hag] at key2
      by_cases hw : Region.wanted o (yielded ops a.tmps) = true
      · rw [if_pos hw] at key2
        rw [if_pos hw]
        exact .inl (wp_agree (R := R) hd (by rw [hsz]; exact hds) (execOp_agree (Region.noSelect_spec ok.nosel i o · · ho) hag) key2 fun v w' h1 => hgo v w' h1)
      · rw [if_neg hw] at key2
        rw [if_neg hw]
        obtain ⟨_, h1⟩ := key2
        have e : ((putAll ops vs (deps ops i o) a0).put o.dst undef).tmps.getD d undef = undef := by rw [hd]; simp [Act.put, hsz, hds]
        rw [e] at h1
        exact hgo undef w h1
    rcases hstep i o him ho with ⟨hnc, hst, hs⟩ | ⟨hT, t0, ht0, hs⟩
    · -- not of the chain
      have hni : ∀ (q p : Nat), ch[q]? = some p → p ≠ i := fun q p hq e => by
        subst e
        have := List.contains_iff_mem.2 (List.mem_of_getElem? hq)
        rw [this] at hnc; cases hnc
      refine fire (fun v w' => C w' ∧ le w w' ∧ S i v w') (fun v w' ⟨hC, hle, hv⟩ => ?_) (fun K hK => hs vs w inv.cls (fun j hj => hfc j (hdep j hj)) K fun v w' h1 h2 h3 => hK v w' ⟨h1, h2, h3⟩)
      refine ih _ (fun j => if j = i then v else vs j) _ _ hdone (fun j hj => by rw [getD_set_ne false (by omega)]; exact htl j hj) ⟨RelbT.Inv.nextT ok h0 inv htl him ho hun hl hC (fun _ _ _ => trivial) trivial, hstall v w' (.inl hle) hv, t, htc, fun q p hq => ?_, ?_⟩
      · rw [getD_set_ne false (Ne.symm (hni q p hq))]; exact hti q p hq
      · have e : cur ch v0 (fun j => if j = i then v else vs j) t = cur ch v0 vs t := by
          cases t with
          | zero => rfl
          | succ t =>
            show (if ch.getD t 0 = i then v else vs (ch.getD t 0)) = vs (ch.getD t 0)
            rw [if_neg]
            have hlt' : t < ch.length := by omega
            rw [List.getD_eq_getElem?_getD, List.getElem?_eq_getElem hlt']
            exact hni t _ (List.getElem?_eq_getElem hlt')
        rw [e]
        exact hGle t _ _ _ hle hg
    · -- of the chain: just the next one
      have hle1 : t ≤ t0 := by
        rcases Nat.lt_or_ge t0 t with h | h
        · have := (hti t0 i ht0).2 h
          rw [hun'] at this; cases this
        · exact h
      obtain rfl : t0 = t := by
        rcases Nat.eq_or_lt_of_le hle1 with h | h
        · exact h.symm
        · exfalso
          have hlt0 := (List.getElem?_eq_some_iff.1 ht0).1
          obtain ⟨p, hp⟩ : ∃ p, ch[t0 - 1]? = some p := ⟨_, List.getElem?_eq_getElem (by omega)⟩
          have hr := (hch.next (t0 - 1) p i hp (by rw [show t0 - 1 + 1 = t0 by omega]; exact ht0)).2
          have := (hti (t0 - 1) p hp).1 (reach_listed inv _ i p o ho hl hr)
          omega
      have hlt0 := (List.getElem?_eq_some_iff.1 ht0).1
      refine fire (fun v w' => C w' ∧ leC w w' ∧ G (t0 + 1) v w') (fun v w' ⟨hC, hle, hv⟩ => ?_) (fun K hK => hs vs w inv.cls (fun j hj => hfc j (hdep j hj)) hg K fun v w' h1 h2 h3 => hK v w' ⟨h1, h2, h3⟩)
      refine ih _ (fun j => if j = i then v else vs j) _ _ hdone (fun j hj => by rw [getD_set_ne false (by omega)]; exact htl j hj) ⟨RelbT.Inv.nextT ok h0 inv htl him ho hun hl hC (fun _ _ _ => trivial) trivial, hstall v w' (.inr hle) (by rw [hT]; exact trivial), t0 + 1, by omega, fun q p hq => ?_, ?_⟩
      · by_cases hpi : p = i
        · subst hpi
          rw [getD_set_self hil, hch.inj hq ht0]
          simp
        · rw [getD_set_ne false (Ne.symm hpi), hti q p hq]
          have hqt : q ≠ t0 := fun e => hpi (by subst e; rw [ht0] at hq; exact (Option.some.inj hq).symm)
          omega
      · show G (t0 + 1) (if ch.getD t0 0 = i then v else vs (ch.getD t0 0)) w'
        rw [if_pos (by rw [List.getD_eq_getElem?_getD, ht0]; rfl)]
        exact hv

/-- **One walk in the order of the text**, with a chain; the last operations one behind the other. -/
theorem wp_region_relc {id : Nat} {Q : Exit → Act → World → Prop} {a : Act} {w : World} {l : List Oper} (m : Nat) (C : World → Prop) (le leC : World → World → Prop) (ch : List Nat) (G : Nat → Fact) (v0 : Value) (hm : P.follows .mixedOrders = true) (hB : okTB l.toArray a.tmps.size m = true) (ht : tailOk l.toArray m = true) (hml : m ≤ l.length)
    (hch : chainB l.toArray m ch = true) (hC : C { w with drawn := w.drawn + 1 }) (hG : G 0 v0 { w with drawn := w.drawn + 1 }) (hGle : ∀ t v w w', le w w' → G t v w → G t v w')
    (h : walkC P l.toArray C le leC a ch G v0 (fun S => ∀ vs w', C w' → (∀ j, j < m → S j (vs j) w') → G ch.length (cur ch v0 vs ch.length) w' → wpList P l.toArray Q (l.drop m) (putAll l.toArray vs (List.range m) a) w') (l.take m) 0 (fun _ => yes)) : (Code.region id l.toArray true).wp P Q a w := by
  have ok := okTB_spec hB
  have okc := chainB_spec hch
  obtain ⟨S, _, h2, h3⟩ := walkC_all (l.take m) 0 _ (fun j hj => by
    rw [List.length_take] at hj
    rw [List.getElem?_take, if_pos (by omega)]; simp) h
  refine wp_region_any hm (relAnyC ok ht (by simpa using hml) okc rfl (S := S) (l.drop m) (fun j => by rw [List.getElem?_drop]; simp) (fun j o hj ho => h2 j o (Nat.zero_le _) (by rw [List.length_take]; omega) ho) hGle (fun vs w' hw' hf hg => h3 vs w' hw' hf hg) _ _ (fun _ => undef) _ _ ?_ ?_ ⟨?_, ?_, 0, Nat.zero_le _, fun q p _ => ?_, hG⟩)
  · unfold undone
    exact Nat.le_trans (List.countP_le_length) (by simp)
  · intro j _
    exact getD_rep ..
  · refine ⟨hC, rfl, rfl, by simp, fun j o ho hj => ?_, fun t _ => rfl, fun j d hj => ?_, fun j hj => ?_⟩
    all_goals
      rw [getD_rep] at hj
      cases hj
  · intro j hj
    rw [getD_rep] at hj
    cases hj
  · rw [getD_rep]
    simp

section
variable {C : World → Prop} {le leC : World → World → Prop} {a0 : Act} {ch : List Nat} {G : Nat → Fact} {v0 : Value} {fin : (Nat → Fact) → Prop} {k : Nat} {S : Nat → Fact} {o : Oper} {rest : List Oper}
theorem relc_kind (k' : Nat) (ds : List (Nat × Tmp)) (T : Fact) (hk : k + 1 = k') (hj : deps ops k o = ds.map (·.1)) (hd : ds.all (fun p => dstOf ops p.1 == some p.2) = true) (hn : ch.contains k = false) (hT : ∀ v w w', le w w' ∨ leC w w' → T v w → T v w')
    (hs : ∀ vs w, C w → (∀ j ∈ ds.map (·.1), S j (vs j) w) → ∀ K : Act → World → Prop, (∀ v w', C w' → le w w' → T v w' → K ((putD vs ds a0).put o.dst v) w') →
      if Region.wanted o (yielded ops (putD vs ds a0).tmps) then o.wp P (putD vs ds a0) w K (fun _ _ _ => False) else K ((putD vs ds a0).put o.dst undef) w)
    (hr : walkC P ops C le leC a0 ch G v0 fin rest k' (fun j => bif Nat.beq j k then T else S j)) : walkC P ops C le leC a0 ch G v0 fin (o :: rest) k S := by
  subst hk
  rw [upd_eq] at hr
  refine ⟨T, .inl ⟨hn, hT, fun vs w hw hf K hK => ?_⟩, hr⟩
  have := hs vs w hw (by rw [← hj]; exact hf) K
  rw [hj, putD_eq ds a0 hd] at *
  exact this hK
theorem relc_one {u : Value} (k' : Nat) (ds : List (Nat × Tmp)) (hk : k + 1 = k') (hj : deps ops k o = ds.map (·.1)) (hd : ds.all (fun p => dstOf ops p.1 == some p.2) = true) (hn : ch.contains k = false)
    (hs : ∀ vs w, C w → (∀ j ∈ ds.map (·.1), S j (vs j) w) → ∀ K : Act → World → Prop, (∀ v w', C w' → le w w' → v = u → K ((putD vs ds a0).put o.dst v) w') →
      if Region.wanted o (yielded ops (putD vs ds a0).tmps) then o.wp P (putD vs ds a0) w K (fun _ _ _ => False) else K ((putD vs ds a0).put o.dst undef) w)
    (hr : walkC P ops C le leC a0 ch G v0 fin rest k' (fun j => bif Nat.beq j k then fun v _ => v = u else S j)) : walkC P ops C le leC a0 ch G v0 fin (o :: rest) k S :=
  relc_kind k' ds (fun v _ => v = u) hk hj hd hn (fun _ _ _ _ h => h) hs hr
theorem relc_chain (t k' : Nat) (ds : List (Nat × Tmp)) (hk : k + 1 = k') (hj : deps ops k o = ds.map (·.1)) (hd : ds.all (fun p => dstOf ops p.1 == some p.2) = true) (ht : ch[t]? = some k)
    (hs : ∀ vs w, C w → (∀ j ∈ ds.map (·.1), S j (vs j) w) → G t (cur ch v0 vs t) w → ∀ K : Act → World → Prop, (∀ v w', C w' → leC w w' → G (t + 1) v w' → K ((putD vs ds a0).put o.dst v) w') →
      if Region.wanted o (yielded ops (putD vs ds a0).tmps) then o.wp P (putD vs ds a0) w K (fun _ _ _ => False) else K ((putD vs ds a0).put o.dst undef) w)
    (hr : walkC P ops C le leC a0 ch G v0 fin rest k' (fun j => bif Nat.beq j k then yes else S j)) : walkC P ops C le leC a0 ch G v0 fin (o :: rest) k S := by
  subst hk
  rw [upd_eq] at hr
  refine ⟨yes, .inr ⟨rfl, t, ht, fun vs w hw hf hg K hK => ?_⟩, hr⟩
  have := hs vs w hw (by rw [← hj]; exact hf) hg K
  rw [hj, putD_eq ds a0 hd] at *
  exact this hK
theorem relc_end {n : Nat} {l2 : List Oper} {Q : Exit → Act → World → Prop} (ds : List (Nat × Tmp)) (hn : List.range n = ds.map (·.1)) (hd : ds.all (fun p => dstOf ops p.1 == some p.2) = true)
    (h : ∀ vs w', C w' → (∀ j, j < n → S j (vs j) w') → G ch.length (cur ch v0 vs ch.length) w' → wpList P ops Q l2 (putD vs ds a0) w') :
    walkC P ops C le leC a0 ch G v0 (fun S => ∀ vs w', C w' → (∀ j, j < n → S j (vs j) w') → G ch.length (cur ch v0 vs ch.length) w' → wpList P ops Q l2 (putAll ops vs (List.range n) a0) w') [] k S :=
  fun vs w' hw hf hg => by rw [hn, putD_eq ds a0 hd]; exact h vs w' hw hf hg
end
end
end Go.Proofs.YtkcfgcdlnojaeaaGreatDoor.RelC
