/-
  As RelbT, where the last operations come behind all the first ones, in whatever order among themselves.
-/
import Derived.Test.YtkcfgcdlnojaeaaGreatDoorRelbT
namespace Go.Proofs.YtkcfgcdlnojaeaaGreatDoor.RelbA
open Rel Relb RelbT

section
variable {P : Program} {ops : Array Oper}

def firstM (ops : Array Oper) (m : Nat) : Array Bool := ((List.range ops.size).map fun j => decide (j < m)).toArray
def behindOk (ops : Array Oper) (m : Nat) : Bool := (List.range ops.size).all fun j => decide (j < m) || (List.range m).all fun i => reach ops ops.size j i
theorem behindOk_spec {m : Nat} (h : behindOk ops m = true) {j i : Nat} (hj : j < ops.size) (hm : m ≤ j) (hi : i < m) : reach ops ops.size j i = true := by
  have h1 := List.all_eq_true.1 h j (List.mem_range.2 hj)
  rw [Bool.or_eq_true] at h1
  rcases h1 with h1 | h1
  · have := of_decide_eq_true h1; omega
  · exact List.all_eq_true.1 h1 i (List.mem_range.2 hi)
theorem wpAny_mono {Q : Exit → Act → World → Prop} : ∀ (n fuel : Nat) (listed : Array Bool) (a : Act) (w : World), n ≤ fuel → wpAny P .any ops Q n listed a w → wpAny P .any ops Q fuel listed a w
  | 0, 0, _, _, _, _, h => h
  | 0, fuel + 1, _, _, _, _, h => ⟨fun _ => h.2, fun i hi => by rw [h.1] at hi; cases hi⟩
  | n + 1, 0, _, _, _, hle, _ => absurd hle (by omega)
  | n + 1, fuel + 1, listed, a, w, hle, h => by
    refine ⟨h.1, fun i hi => ?_⟩
    have h2 := h.2 i hi
    unfold wpOp at h2 ⊢
    cases ho : ops[i]? with
    | none => simp only [ho] at h2 ⊢; exact wpAny_mono n fuel _ _ _ (by omega) h2
    | some o =>
      simp only [ho] at h2 ⊢
      split at h2
      · rename_i hw
        rw [if_pos hw]
        rcases h2 with h2 | h2
        · exact .inl (Oper.wp_mono (fun a w h3 => wpAny_mono n fuel _ a w (by omega) h3) h2)
        · exact .inr h2
      · rename_i hw
        rw [if_neg hw]
        exact wpAny_mono n fuel _ _ _ (by omega) h2

theorem relAnyBA {size m : Nat} (ok : OkT ops size m) (ht : behindOk ops m = true) (hms : m ≤ ops.size) {C : World → Prop} {le : World → World → Prop} {a0 : Act} {S : Facts} {Q : Exit → Act → World → Prop} (h0 : a0.tmps.size = size)
    (hstep : ∀ j o, j < m → ops[j]? = some o → (∀ vs w w', le w w' → S j vs w → S j vs w') ∧ Local ops S j ∧
      ∃ (locs js : List Nat) (T : List Value → Fact), before ops j locs = true ∧ before ops j js = true ∧ (∀ vs w, S j vs w ↔ T (locs.map vs) (vs j) w) ∧ stepV P ops C le a0 S j o T locs js)
    (hfin : ∀ (vs : Nat → Value) w, C w → (∀ j, j < m → S j vs w) → wpAny P .any ops Q (ops.size - m) (firstM ops m) (putAll ops vs (List.range m) a0) w) :
    ∀ (fuel : Nat) (listed : Array Bool) (vs : Nat → Value) (a : Act) (w : World), undone ops listed ≤ fuel → (∀ j, m ≤ j → listed.getD j false = false) → InvB ops C a0 S vs listed a w → wpAny P .any ops Q fuel listed a w := by
  have hend : ∀ (fuel : Nat) (listed : Array Bool) (vs : Nat → Value) (a : Act) (w : World), undone ops listed ≤ fuel → (∀ j, m ≤ j → listed.getD j false = false) → InvB ops C a0 S vs listed a w → (∀ j, j < m → listed.getD j false = true) → wpAny P .any ops Q fuel listed a w := by
    intro fuel listed vs a w hu htl invB hall
    obtain ⟨inv, hfc⟩ := invB
    have hq := hfin vs w inv.cls fun j hj => hfc j (hall j hj)
    obtain ⟨h1, h2, h3, h4⟩ := putAll_specT ok hms vs (List.range m) a0 h0 List.nodup_range (fun j hj => by exact List.mem_range.1 hj)
    have e : putAll ops vs (List.range m) a0 = a := by
      cases a with
      | mk tm df =>
        cases hp : putAll ops vs (List.range m) a0 with
        | mk tm' df' =>
          rw [hp] at h1 h2 h3 h4
          have hd : df' = df := by have := inv.defers; simp only at this h1; rw [h1, this]
          have ht : tm' = tm := by
            refine Array.ext_getElem? fun t => ?_
            by_cases hex : ∃ j, j < m ∧ dstOf ops j = some t
            · obtain ⟨j, hj, hd⟩ := hex
              have := inv.new j t (hall j hj) hd
              simp only at this
              rw [this]
              exact h4 j (List.mem_range.2 hj) t hd
            · have hno : ∀ j, j < m → dstOf ops j ≠ some t := fun j hj he => hex ⟨j, hj, he⟩
              have := inv.old t (fun j hj => hno j (by
                rcases Nat.lt_or_ge j m with h | h
                · exact h
                · rw [htl j h] at hj; cases hj))
              simp only at this
              rw [this]
              exact h3 t fun j hj => hno j (List.mem_range.1 hj)
          rw [hd, ht]
    rw [e] at hq
    have hle : ops.size - m ≤ fuel := by
      have hc : (List.range ops.size).countP (fun j => !listed.getD j false) ≤ fuel := hu
      have h5 : ops.size - m ≤ (List.range ops.size).countP (fun j => !listed.getD j false) := by
        have e2 : List.range ops.size = List.range m ++ (List.range (ops.size - m)).map (m + ·) := by
          rw [show ops.size = m + (ops.size - m) by omega, List.range_add]; simp
        rw [e2, List.countP_append]
        have : (List.map (m + ·) (List.range (ops.size - m))).countP (fun j => !listed.getD j false) = ops.size - m := by
          rw [List.countP_eq_length.2 fun j hj => by
            obtain ⟨i, _, rfl⟩ := List.mem_map.1 hj
            rw [htl (m + i) (by omega)]; rfl]
          simp
        omega
      omega
    have hlst : listed = firstM ops m := by
      refine Array.ext (by rw [inv.lsize]; simp [firstM]) fun j hj1 hj2 => ?_
      have hjs : j < ops.size := by rw [← inv.lsize]; exact hj1
      have h6 : listed.getD j false = decide (j < m) := by
        rcases Nat.lt_or_ge j m with h | h
        · rw [hall j h, decide_eq_true h]
        · rw [htl j h, decide_eq_false (by omega)]
      simp only [Array.getD_eq_getD_getElem?, Array.getElem?_eq_getElem hj1, Option.getD_some] at h6
      rw [h6]
      simp [firstM]
    rw [hlst]
    exact wpAny_mono _ _ _ _ _ hle hq
  intro fuel
  induction fuel with
  | zero =>
    intro listed vs a w hu htl inv
    refine hend 0 listed vs a w hu htl inv fun j hj => ?_
    have h1 : undone ops listed = 0 := by omega
    have := List.countP_eq_zero.1 h1 j (List.mem_range.2 (by omega))
    simpa using this
  | succ fuel ih =>
    intro listed vs a w hu htl invB
    by_cases hall : ∀ j, j < m → listed.getD j false = true
    · exact hend _ listed vs a w hu htl invB hall
    obtain ⟨inv, hfc⟩ := invB
    refine ⟨fun hr => absurd (fun j hj => ready_allT ok inv.lsize hr j (by omega)) hall, fun i hi => ?_⟩
    obtain ⟨hun, o, ho, hl⟩ := mem_ready.1 hi
    have hlt : i < ops.size := (Array.getElem?_eq_some_iff.1 ho).1
    have him : i < m := by
      rcases Nat.lt_or_ge i m with h | h
      · exact h
      · exact absurd (fun j hj => reach_listed inv _ i j o ho hl (behindOk_spec ht hlt h hj)) hall
    obtain ⟨hdep, hag⟩ := look_agreeT ok hms h0 inv htl him ho hl
    obtain ⟨hst, hloc, locs, js, T, hlo, hjs, hST, hs⟩ := hstep i o him ho
    obtain ⟨d, hd, hds⟩ := ok.dst him ho
    have hil : i < listed.size := by rw [inv.lsize]; exact hlt
    have hun' : listed.getD i false = false := by rw [getD_false_iff hil false true]; exact hun
    have hlist : ∀ {j : Nat}, listed.getD j false = true → ∃ o', ops[j]? = some o' := fun {j} hjl => by
      have hjs : j < ops.size := by
        rcases Nat.lt_or_ge j listed.size with h | h
        · rw [inv.lsize] at h; exact h
        · simp [Array.getElem?_eq_none h] at hjl
      exact ⟨_, Array.getElem?_eq_getElem hjs⟩
    have hjl : ∀ j ∈ js, listed.getD j false = true := fun j hj => reach_listed inv _ i j o ho hl (before_mem hjs hj).2
    have hdone : undone ops (listed.setIfInBounds i true) ≤ fuel := by
      have : undone ops (listed.setIfInBounds i true) < undone ops listed := by
        refine count_lt (i := i) (List.mem_range.2 hlt) ?_ ?_ ?_
        · rw [hun']; rfl
        · rw [getD_set_self hil]; rfl
        · intro x hx
          cases hb : listed.getD x false with
          | false => rfl
          | true => rw [getD_set_true hb] at hx; cases hx
      omega
    have key := hs vs w inv.cls fun j hj => hfc j (hjl j hj)
    have hgo : ∀ v w', C w' → le w w' → T (locs.map vs) v w' → wpAny P .any ops Q fuel (listed.setIfInBounds i true) (a.put o.dst v) w' := fun v w' hC hle hv => by
      refine ih _ (fun j => if j = i then v else vs j) _ _ hdone (fun j hj => by rw [getD_set_ne false (by omega)]; exact htl j hj) ⟨RelbT.Inv.nextT ok h0 inv htl him ho hun hl hC (fun _ _ _ => trivial) trivial, fun j hj => ?_⟩
      by_cases hji : j = i
      · subst hji
        refine (hST _ _).2 ?_
        have e1 : locs.map (fun j' => if j' = j then v else vs j') = locs.map vs := List.map_congr_left fun q hq => by rw [if_neg (by have := (before_mem hlo hq).1; omega)]
        rw [e1]; simpa using hv
      · rw [getD_set_ne false (Ne.symm hji)] at hj
        obtain ⟨o', ho'⟩ := hlist hj
        have hjm : j < m := by
          rcases Nat.lt_or_ge j m with h | h
          · exact h
          · rw [htl j h] at hj; cases hj
        obtain ⟨hst', hloc', _⟩ := hstep j o' hjm ho'
        refine hloc' vs _ w' (fun q hq => ?_) (hst' vs w w' hle (hfc j hj))
        have hql : listed.getD q false = true := by
          rcases hq with rfl | ⟨_, hq⟩
          · exact hj
          · exact reach_listed inv _ j q o' ho' (inv.closed j o' ho' hj) hq
        rw [if_neg (fun e => by rw [e, hun'] at hql; cases hql)]
    have hsz : (putAll ops vs (deps ops i o) a0).tmps.size = size := (putAll_specT ok hms vs (deps ops i o) a0 h0 (List.Pairwise.filter _ List.nodup_range) (fun j hj => by have := deps_lt hj; omega)).2.1
    have key2 := key (fun b w' => b.defers = (putAll ops vs (deps ops i o) a0).defers ∧ (C w' ∧ le w w' ∧ T (locs.map vs) (b.tmps.getD d undef) w')) fun v w' h1 h2 h3 => ⟨by rw [hd]; rfl, h1, h2, by rw [hd]; simpa [Act.put, hsz, hds] using h3⟩
    unfold wpOp
    simp only [ho]
    rw [wanted_agree hag] at key2
    by_cases hw : Region.wanted o (yielded ops a.tmps) = true
    · rw [if_pos hw] at key2
      rw [if_pos hw]
      exact .inl (wp_agree (R := fun v w' => C w' ∧ le w w' ∧ T (locs.map vs) v w') hd (by rw [hsz]; exact hds) (execOp_agree (Region.noSelect_spec ok.nosel i o · · ho) hag) key2 fun v w' ⟨h1, h2, h3⟩ => hgo v w' h1 h2 h3)
    · rw [if_neg hw] at key2
      rw [if_neg hw]
      obtain ⟨_, h1, h2, h3⟩ := key2
      have e : ((putAll ops vs (deps ops i o) a0).put o.dst undef).tmps.getD d undef = undef := by rw [hd]; simp [Act.put, hsz, hds]
      rw [e] at h3
      exact hgo undef w h1 h2 h3


/-- **One walk in the order of the text, the last operations, in whatever order, behind them.** -/
theorem wp_region_relba {id : Nat} {Q : Exit → Act → World → Prop} {a : Act} {w : World} {l : List Oper} (m : Nat) (C : World → Prop) (le : World → World → Prop) (hm : P.follows .mixedOrders = true) (hB : okTB l.toArray a.tmps.size m = true) (ht : behindOk l.toArray m = true) (hml : m ≤ l.length)
    (hC : C { w with drawn := w.drawn + 1 })
    (h : walkB P l.toArray C le a (fun S => ∀ vs w', C w' → (∀ j, j < m → S j vs w') → wpAny P .any l.toArray Q (l.toArray.size - m) (firstM l.toArray m) (putAll l.toArray vs (List.range m) a) w') (l.take m) 0 (fun _ _ _ => True)) : (Code.region id l.toArray true).wp P Q a w := by
  have ok := okTB_spec hB
  obtain ⟨S, _, h2, h3⟩ := walkB_all' (l.take m) 0 _ (fun j hj => by
    rw [List.length_take] at hj
    rw [List.getElem?_take, if_pos (by omega)]; simp) h
  refine wp_region_any hm (relAnyBA ok ht (by simpa using hml) rfl (S := S) (fun j o hj ho => h2 j o (Nat.zero_le _) (by rw [List.length_take]; omega) ho) (fun vs w' hw' hf => h3 vs w' hw' hf) _ _ (fun _ => undef) _ _ ?_ ?_ ⟨?_, ?_⟩)
  · unfold undone
    exact Nat.le_trans (List.countP_le_length) (by simp)
  · intro j _
    exact getD_rep ..
  · refine ⟨hC, rfl, rfl, by simp, fun j o ho hj => ?_, fun t _ => rfl, fun j d hj => ?_, fun j hj => ?_⟩
    all_goals
      rw [getD_rep] at hj
      cases hj
  · intro j hj
    rw [getD_rep] at hj
    cases hj
theorem relba_end {C : World → Prop} {le : World → World → Prop} {a0 : Act} {n k : Nat} {S : Facts} {Q : Exit → Act → World → Prop} {N : Nat} {L : Array Bool} (ds : List (Nat × Tmp)) (hn : List.range n = ds.map (·.1)) (hd : ds.all (fun p => dstOf ops p.1 == some p.2) = true)
    (h : ∀ vs w', C w' → (∀ j, j < n → S j vs w') → wpAny P .any ops Q N L (putD vs ds a0) w') :
    walkB P ops C le a0 (fun S => ∀ vs w', C w' → (∀ j, j < n → S j vs w') → wpAny P .any ops Q N L (putAll ops vs (List.range n) a0) w') [] k S :=
  fun vs w' hw hf => by rw [hn, putD_eq ds a0 hd]; exact h vs w' hw hf
end
end Go.Proofs.YtkcfgcdlnojaeaaGreatDoor.RelbA
