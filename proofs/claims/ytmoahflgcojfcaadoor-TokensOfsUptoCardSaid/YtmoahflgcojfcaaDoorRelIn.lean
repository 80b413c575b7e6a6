/-
  The walk of Rel within a round of a range over a function.
-/
import Derived.Test.YtmoahflgcojfcaaDoorRel
import Derived.OrdersIn
import Derived.RangeFuncCalls
namespace Go.Proofs.YtmoahflgcojfcaaDoor.RelIn
open Rel

section
variable {P : Program} {ops : Array Oper} {Q : Exit → Act → World → Prop} {n : Nat}

def noDefer (ops : Array Oper) : Bool := ops.all fun o => match o.op with | .defer _ => false | _ => true

theorem noDefer_spec (h : noDefer ops = true) {i : Nat} {o : Oper} (ho : ops[i]? = some o) : ∀ c, o.op ≠ .defer c := by
  intro c e
  obtain ⟨hi, hg⟩ := Array.getElem?_eq_some_iff.1 ho
  have := Array.all_eq_true.1 h i hi
  rw [hg, e] at this
  cases this

theorem rowsIn_wide {row : String} {args : Array Value} {w : World} {R : Value → World → Prop} (h : Rows P row args w R) : RowsIn Fence.wide n P row args w R :=
  fun c cs _ => let ⟨v, w', hr, hs⟩ := h c cs; ⟨v, w', hr, stepsIn_wide.2 hs⟩

theorem oper_in {o : Oper} {a : Act} {w : World} {K : Act → World → Prop} (lr : Nat) (hd : ∀ c, o.op ≠ .defer c) (h : o.wp P a w K Q) : o.wpIn (Fence.wide.inRound lr) n P a w K Q := by
  refine ⟨fun _ _ => trivial, ?_⟩
  rw [Oper.semAt_eq _ _ _ hd]
  unfold Oper.wp at h
  generalize (execOp a.eval o).run P w = r at *
  cases r with
  | ok x w' =>
    cases x <;> simp only [Oper.upon, Oper.uponIn] at h ⊢ <;> first | exact h | exact ⟨(fun hh => by cases hh), CallsIn.inRound lr (callsIn_wide.2 h)⟩ | exact ⟨(fun hh => by cases hh), rowsIn_wide h⟩
  | halt x w' => cases x <;> simp only [Oper.upon, Oper.uponIn] at h ⊢ <;> exact h

theorem any_in {md : Region.Mode} (lr : Nat) (hnd : noDefer ops = true) (hlo : ¬ LetsOut Q) : ∀ (fuel : Nat) (listed : Array Bool) (a : Act) (w : World), wpAny P md ops Q fuel listed a w → wpAnyIn (Fence.wide.inRound lr) n P md ops Q fuel listed a w
  | 0, _, _, _, h => h
  | fuel + 1, listed, a, w, h => ⟨h.1, fun i hi => by
      have h2 := h.2 i hi
      unfold wpOp at h2
      unfold wpOpIn
      split
      · rename_i hn
        simp only [hn] at h2
        exact any_in lr hnd hlo fuel _ _ _ h2
      · rename_i o ho
        simp only [ho] at h2
        split
        · rename_i hw
          rw [if_pos hw] at h2
          rcases h2 with h2 | h2
          · exact Oper.wpIn_mono (fun a w hh => any_in lr hnd hlo fuel _ _ _ hh) (oper_in lr (noDefer_spec hnd ho) h2)
          · exact absurd h2.2 hlo
        · rename_i hw
          rw [if_neg hw] at h2
          exact ⟨fun _ _ => trivial, any_in lr hnd hlo fuel _ _ _ h2⟩⟩

/-- **One walk in the order of the text, within a round.** -/
theorem wpIn_region_rel {id : Nat} {a : Act} {w : World} {l : List Oper} {lr : Nat} (C : World → Prop) (le : World → World → Prop) (hm : P.follows .mixedOrders = true) (hB : okB l.toArray a.tmps.size = true) (hnd : noDefer l.toArray = true) (hlo : ¬ LetsOut Q)
    (hC : C { w with drawn := w.drawn + 1 }) (hrefl : ∀ w, le w w)
    (h : relWalk P l.toArray C le a (fun S => ∀ w', C w' → withVals l.toArray S w' (fun f => Q .normal f w') (List.range l.length) a) l 0 (fun _ _ _ => True)) : (Code.region id l.toArray true).wpIn (Fence.wide.inRound lr) n P Q a w := by
  have ok := okB_spec hB
  obtain ⟨S, _, h2, h3⟩ := relWalk_all l 0 _ (by simp) h
  refine wpIn_region_any hm (any_in lr hnd hlo _ _ _ _ (relAny ok rfl (S := S) (fun j o ho => h2 j o (Nat.zero_le _) ho) hrefl (fun vs w' hw' hf => ?_) _ _ (fun _ => undef) _ _ ?_ ?_))
  · have := withVals_spec (vs := vs) _ _ (h3 w' hw') fun j hj => hf j (by simpa using hj)
    simpa using this
  · unfold undone
    exact Nat.le_trans (List.countP_le_length) (by simp)
  · refine ⟨hC, rfl, rfl, by simp, fun j o ho hj => ?_, fun t _ => rfl, fun j d hj => ?_, fun j hj => ?_⟩
    all_goals
      rw [getD_rep] at hj
      cases hj
end
end Go.Proofs.YtmoahflgcojfcaaDoor.RelIn
