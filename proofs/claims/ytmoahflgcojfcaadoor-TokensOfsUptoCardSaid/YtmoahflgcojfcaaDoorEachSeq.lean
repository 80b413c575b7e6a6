/-
  tokens.Each: the function that it hands back goes over the tokens of Of, for every loop body that leaves what is not its own alone.
-/
import Derived.Test.YtmoahflgcojfcaaDoorOfAny
import Derived.Test.YtmoahflgcojfcaaDoorOutRow
import Derived.Test.YtmoahflgcojfcaaDoorRelIn
import Derived.RangeFuncNested
import Derived.RangeFuncBound
import Derived.RangeFuncCalls
import Derived.RangeFuncLeaves
import Derived.Shelf.Abstract
import Derived.Shelf.RegionOpen
import Derived.WalkKit
import Derived.OwnWalkIn
import Derived.TacticsInMore
import Derived.LoopNIn
import Derived.LoopIn
namespace Go.Proofs.YtmoahflgcojfcaaDoor.EachSeq
set_option maxRecDepth 100000
open Go.RowKit Go.PlainAid Go.Shelf WordPlain Base App WordBytes WordsWalk StopsWalk ChainPlain OfText NumPlain OfAny OutRow
attribute [local go_sem] Oper.semAt_some

/-- What a round leaves alone: cells that are not exempt. -/
structure Keep (E : World → Nat → Prop) (A B : World) : Prop where
  size : A.heap.size ≤ B.heap.size
  same : ∀ k o, A.heap[k]? = some o → o.isCells = true → ¬ E A k → B.heap[k]? = some o
  exempt : ∀ k, k < A.heap.size → E B k → E A k

section
variable {E : World → Nat → Prop}
theorem heap_lt {A : World} {k : Nat} {o : Obj} (h : A.heap[k]? = some o) : k < A.heap.size := by
  rcases Nat.lt_or_ge k A.heap.size with hlt | hge
  · exact hlt
  · rw [Array.getElem?_eq_none hge] at h; cases h
theorem Keep.refl (A : World) : Keep E A A := ⟨Nat.le_refl _, fun _ _ h _ _ => h, fun _ _ h => h⟩
theorem Keep.trans {A B C : World} (h : Keep E A B) (k : Keep E B C) : Keep E A C :=
  ⟨Nat.le_trans h.size k.size, fun i o hi ho hE => k.same i o (h.same i o hi ho hE) ho (fun he => hE (h.exempt i (heap_lt hi) he)),
    fun i hi he => h.exempt i hi (k.exempt i (Nat.lt_of_lt_of_le hi h.size) he)⟩
theorem Keep.below {m : Nat} (hE : ∀ A B, Below m A B → ∀ k, E B k → E A k) {A B : World} (hb : Below A.heap.size A B) (hm : m ≤ A.heap.size) : Keep E A B :=
  ⟨hb.size, fun k _ hk _ _ => (hb.block k (heap_lt hk)).trans hk, fun k _ he => hE A B (hb.mono hm) k he⟩
theorem keep_b {m : Nat} (hE : ∀ A B, Below m A B → ∀ k, E B k → E A k) {w : World} (hm : m ≤ w.heap.size) (W : World) (l : Nat) (o o' : Obj) (hl : w.heap.size ≤ l) (h : W.heap[l]? = some o) (hc : o.isCells = false) (_ : o.isWalk = false) : Keep E W (W.putObj l o') :=
  ⟨by simp, fun k o2 hk ho2 _ => by
      by_cases e : k = l
      · subst e; rw [h] at hk; cases hk; rw [hc] at ho2; cases ho2
      · exact (World.putObj_heap_other e).trans hk,
    fun k _ he => hE W _ ((Below.refl m W).grown (grownBy_putObj' W l o') (by have := heap_lt h; omega) (fun j e => by cases e; omega)) k he⟩
end

def tokV (t : Tok) : Value := .agg #[.string t.text, .int .i64 t.value, .int .i64 t.pos, .int .i64 t.start, .int .i64 t.stop]
theorem encs_size (t : Tok) : (#[tokV t] : Array Value).size = (#[19] : Array Nat).size := rfl

theorem abides_below {β : Type} {J : β → World → Prop} {B : Nat} (hJ : AbidesFrom B J) {s : β} {W W' : World} (h : J s W) (hb : Below W.heap.size W W') : J s W' :=
  hJ s W W' none h ⟨hb.os, hb.tape, hb.output, hb.size, fun k hk _ => hb.block k hk⟩ (fun r e => by cases e)

set_option maxHeartbeats 4000000 in
/-- The function that Each hands back. -/
theorem each1 {E : World → Nat → Prop} {m : Nat} (hE : ∀ A B, Below m A B → ∀ k, E B k → E A k) (nm : ByteArray) (kd : Int) (a b c : Bool) (s : ByteArray) (Bf Bt n l : Nat) (J Jx : List Tok → World → Prop) (w W : World) (hs : s.size ≤ 1099511627775) (hn : 1 ≤ n)
    (hmw : m ≤ w.heap.size) (hEw : ∀ k, E w k → k < w.heap.size) (hbW : Below w.heap.size w W) (ht : Tab W) (h0 : 0 < W.heap.size) (hJ : AbidesFrom W.heap.size J)
    (hf : Blk W Bf 26 #[.string nm, .int .i64 kd, .bool a, .bool b, .bool c]) (hx : Blk W Bt 9 #[.string s])
    (hY : ∀ pre x W1, J pre W1 → pre.length < (ofT kd a b c s).length → YieldAt Fence.wide (n - 1) Tryd.prog l #[tokV x] W1 fun e W' =>
      (e = .returned (.bool true) ∧ J (pre ++ [x]) W' ∧ Keep E W1 W') ∨ (e = .returned (.bool false) ∧ Jx (pre ++ [x]) W'))
    (hJ0 : J [] W) :
    CallsIn Fence.wide n Tryd.prog 46 #[.func (.yield l) #[] #[], .pointer (some ⟨Bf, 0, none⟩), .pointer (some ⟨Bt, 0, none⟩)] W fun e W' => (∃ v, e = .returned v) ∧
      ((∃ ys, ys = ofT kd a b c s ∧ J ys W') ∨ (∃ pre, pre <+: ofT kd a b c s ∧ Jx pre W')) := by
  have f0 := hf.cell 0
  have f1 := hf.cell 1
  have f2 := hf.cell 2
  have f3 := hf.cell 3
  have f4 := hf.cell 4
  have x0 := hx.cell 0
  simp only [List.getElem?_toArray, List.getElem?_cons_zero, List.getElem?_cons_succ] at f0 f1 f2 f3 f4 x0
  have OA := Lib.hid (of_any nm kd a b c s W hs ht h0)
  have hTS0 := of_len kd a b c s
  obtain ⟨TS, hts⟩ : ∃ TS, TS = ofT kd a b c s := ⟨_, rfl⟩
  have hTS : TS.length ≤ 1099511627776 := by rw [hts]; omega
  rw [← hts] at hY OA
  have HTS := Lib.hid hts
  clear hts hTS0 ht h0
  refine callsIn_of_wp Tryd.func46 rfl trivial ?_ rfl
  simp only [Tryd.ntmps46, List.size_toArray, List.length_cons, List.length_nil, Nat.reduceAdd, Nat.reduceSub, Array.replicate_succ, Array.replicate_zero, List.push_toArray, List.append_toArray, List.nil_append, List.cons_append]
  gi_wp2_with fail
  refine ⟨trivial, ?_⟩
  refine (callsIn_wide.2 OA.out).mono ?_
  rintro e W2 ⟨A, cap, rfl, hown, hb2⟩
  have hsl := slc_own hown
  have hge := hown.lt
  have hJ2 := abides_below hJ hJ0 hb2
  have hmW : m ≤ W.heap.size := Nat.le_trans hmw hbW.size
  have hE2 : ∀ k, E W2 k → k < W.heap.size := fun k he => Nat.lt_of_lt_of_le (hEw k (hE w W (hbW.mono hmw) k (hE W W2 (hb2.mono hmW) k he))) hbW.size
  have hmW2 : m ≤ W2.heap.size := Nat.le_trans hmW hb2.size
  gi_wp2_with fail
  gi_loopw [10] (fun i wr => ∃ k : Nat, k ≤ TS.length ∧ i = .int .i64 k ∧ J (TS.take k) wr ∧ Keep E W2 wr) (fun i _ => TS.length - (intOf i).toNat)
  case atStart => exact ⟨0, Nat.zero_le _, rfl, hJ2, Keep.refl _⟩
  case round =>
    obtain ⟨k, hk, rfl, hJs, hkp⟩ := hrel
    by_cases hlt : k < TS.length
    · obtain ⟨t, htk⟩ : ∃ t, TS[k]? = some t := ⟨_, List.getElem?_eq_getElem hlt⟩
      have hne : tokCells TS ≠ [] := by
        intro h
        have := tokCells_len TS
        rw [h] at this
        simp at this
        omega
      obtain ⟨g, cur, rfl, hg⟩ : ∃ g cur, A = some ⟨g, 0, none⟩ ∧ W2.heap[g]? = some (.cells cur 32 (0, 0)) := by
        rcases hown.2 with ⟨h', hn0⟩ | ⟨g, cap', cur, h', _, hg, _⟩
        · simp only [Value.slice.injEq] at h'
          omega
        · simp only [Value.slice.injEq] at h'
          exact ⟨g, cur, h'.1, hg⟩
      have hgW := (hge g rfl).1
      have hgr := hkp.same g _ hg rfl (fun he => by have := hE2 g he; omega)
      obtain ⟨g', o', e', hg', hc'⟩ := hsl hne
      obtain ⟨rfl, rfl⟩ : g = g' ∧ 0 = o' := by simpa using e'
      have hcr : ∀ j u, (tokCells TS)[j]? = some u → wr.cell? ⟨g, 0 + j, none⟩ = some u := fun j u hu => (World.cell?_of_block (hgr.trans hg.symm)).trans (hc' j u hu)
      obtain ⟨q0, q1, q2, q3, q4⟩ := tok_five (B := 0) hcr htk
      simp only [Nat.zero_add] at q0 q1 q2 q3 q4
      have hJ' := abides_below hJ hJs (balloc (Below.refl wr.heap.size wr) (.cells (tokRow t) 32))
      have hK' : Keep E wr (wr.alloc (.cells (tokRow t) 32)) := Keep.below hE (balloc (Below.refl wr.heap.size wr) _) (Nat.le_trans hmW2 hkp.size)
      have hln : (TS.take k).length < TS.length := by rw [List.length_take]; omega
      obtain ⟨fn, tmps, assign, body, hy, hR⟩ := hY _ t _ hJ' hln
      have hsu : TS.take k ++ [t] = TS.take (k + 1) := by rw [List.take_add_one, htk]; rfl
      rw [hsu] at hR
      unfold tokV at hy
      unfold tokRow at hy hR hK'
      clear hc' hcr hg' e' hsl hne hown hge
      gi_wp2_with fail
      refine hR.mono ?_
      rintro e W3 (⟨rfl, hJ3, hk3⟩ | ⟨rfl, hJx3⟩)
      · gi_wp2_with fail
        go_roundw
        case rel => exact ⟨k + 1, by omega, by go_num, hJ3, hkp.trans (hK'.trans hk3)⟩
        case measure => simp [intOf]; omega
      · gi_wp2_with fail
        refine bodyPost_ret (results_none rfl _ _ _) rfl ?_
        exact ⟨⟨_, rfl⟩, .inr ⟨_, by rw [← HTS.out]; exact List.take_prefix _ _, hJx3⟩⟩
    · obtain rfl : k = TS.length := by omega
      gi_wp2_with fail
      go_end0
      exact ⟨⟨_, rfl⟩, .inl ⟨_, HTS.out, by rw [List.take_length] at hJs; exact hJs⟩⟩

/-- What Each hands back goes over the tokens, all of them or the first few. -/
theorem each_stops {E : World → Nat → Prop} {m : Nat} (hE : ∀ A B, Below m A B → ∀ k, E B k → E A k) (nm : ByteArray) (kd : Int) (a b c : Bool) (s : ByteArray) (Bf Bt n : Nat) (w : World) (hs : s.size ≤ 1099511627775) (hn : 1 ≤ n)
    (hmw : m ≤ w.heap.size) (hEw : ∀ k, E w k → k < w.heap.size) (ht : Tab w) (h0 : 0 < w.heap.size)
    (hf : Blk w Bf 26 #[.string nm, .int .i64 kd, .bool a, .bool b, .bool c]) (hx : Blk w Bt 9 #[.string s]) :
    SeqStopsK Fence.wide n Tryd.prog 46 #[.pointer (some ⟨Bf, 0, none⟩), .pointer (some ⟨Bt, 0, none⟩)] (fun x => #[tokV x]) (Keep E) (fun ys => ys = ofT kd a b c s) (fun pre => pre <+: ofT kd a b c s) (ofT kd a b c s).length w :=
  fun l J Jx W hW hJ _ hY hJ0 =>
    each1 hE nm kd a b c s Bf Bt n l J Jx w W hs hn hmw hEw hW (tab_below ht hW h0) (Nat.lt_of_lt_of_le h0 hW.size) hJ (hf.below hW hf.lt) (hx.below hW hx.lt) hY hJ0

theorem func_nil (cap : Array Value) (W : World) : Sem.run Tryd.prog (binOp BinOp.eql 38 (Value.func (Fn.func 46) #[] cap) Value.nilFunc) W = .ok (.bool false) W := rfl

set_option maxHeartbeats 2000000 in
theorem each_any (nm : ByteArray) (kd : Int) (a b c : Bool) (s : ByteArray) (w : World) :
    Calls Tryd.prog 20 #[.agg #[.string nm, .int .i64 kd, .bool a, .bool b, .bool c], .string s] w fun e w' =>
      e = .returned (.func (.func 46) #[] #[.pointer (some ⟨w.heap.size, 0, none⟩), .pointer (some ⟨w.heap.size + 1, 0, none⟩)]) ∧
      w' = (w.alloc (.cells #[.string nm, .int .i64 kd, .bool a, .bool b, .bool c] 26)).alloc (.cells #[.string s] 9) := by
  have hmf : ∀ (fn : Fn) (first cap : Array Value) (w : World), (Instr.makeFunc fn first cap).run Tryd.prog w = .ok (.func fn first cap) w := fun _ _ _ _ => rfl
  go_enter Tryd.func20, Tryd.ntmps20
  go_wp2
  go_ret
  exact ⟨rfl, rfl⟩
end Go.Proofs.YtmoahflgcojfcaaDoor.EachSeq
