/-
  The laws' 'each': the first tokens that Each tells, most of them at most.
-/
import Derived.Test.YtmoahflgcojfcaaDoorEachSeq
namespace Go.Proofs.YtmoahflgcojfcaaDoor.EachList
set_option maxRecDepth 100000
open Go.RowKit Go.PlainAid Go.Shelf WordPlain Base App WordBytes WordsWalk StopsWalk ChainPlain OfText NumPlain OfAny OutRow EachSeq RelIn
attribute [local go_sem] Oper.semAt_some

section
variable {P : Program} {base : Nat} {t e : TypeId} {z : Value} {size bytes : Nat}
theorem wp_q {o : Oper} {a : Act} {w : World} {K : Act → World → Prop} {Q Q' : Exit → Act → World → Prop} (hp : ∀ c a w, Q' (.panic c) a w → Q (.panic c) a w) (ho : LetsOut Q' → LetsOut Q) (h : o.wp P a w K Q') : o.wp P a w K Q := by
  unfold Oper.wp at *
  generalize (execOp a.eval o).run P w = r at *
  cases r with
  | ok x w' =>
    cases x <;> simp only [Oper.upon] at h ⊢ <;> first | exact h | exact h.mono (fun e w'' he => by cases e <;> first | exact he | exact hp _ _ _ he | exact ho he)
  | halt x w' => cases x <;> simp only [Oper.upon] at h ⊢ <;> first | exact h | exact hp _ _ _ h
/-- 'wpList_append1L' at the operation. -/
theorem wp_append1L {wr : World} {o : Oper} {a : Act} {K : Act → World → Prop} {Q : Exit → Act → World → Prop} (hgd : o.guard = none) (s x : Operand)
    (ho : o.op = .call { callee := .builtin .append, args := #[s, x], argTypes := #[t, t] })
    (I : Elem P t e z size bytes) {v : Value} {n : Nat} {xs : List Value} (hown : OwnE wr base e size v n xs) (hs : a.eval s = v)
    {cs : Array Value} (hx : a.eval x = .slice (some ⟨wr.heap.size, 0, none⟩) 1 1) (hl : cs.size = size) (h1 : cs.toList.all Value.oneCell' = true)
    (hbytes : (n + 1) * bytes ≤ 140737488355328) (h63 : n + 1 ≤ maxLen) (hbase : base ≤ wr.heap.size)
    (h : ∀ v' w', w'.ownsRow base e size v' (n + 1) (xs ++ cs.toList) → wr.grownBy w' v.ownBlock → (v'.ownBlock = v.ownBlock ∨ v'.ownBlock = some (wr.heap.size + 1)) → K (a.put o.dst v') w') :
    o.wp P a (wr.alloc (.cells cs e)) K Q := by
  have key := wpList_append1L (P := P) (ops := #[]) (rest := []) (Q := fun ex a w => match ex with | .normal => K a w | .panic c => Q (.panic c) a w | _ => False) hgd s x ho I hown hs hx hl h1 hbytes h63 hbase h
  simp only [wpList, Region.wanted, hgd, if_true] at key
  refine wp_q ?_ ?_ (key.resolve_right (fun ⟨_, _, _, h⟩ => h))
  · exact fun _ _ _ h => h
  · exact fun ⟨_, _, h⟩ => False.elim h
/-- .. and within a round. -/
theorem wpListIn_append1L {lr nn : Nat} {wr : World} {ops : Array Oper} {rest : List Oper} {o : Oper} {a : Act} {Q : Exit → Act → World → Prop} (hgd : o.guard = none) (s x : Operand)
    (ho : o.op = .call { callee := .builtin .append, args := #[s, x], argTypes := #[t, t] })
    (I : Elem P t e z size bytes) {v : Value} {n : Nat} {xs : List Value} (hown : OwnE wr base e size v n xs) (hs : a.eval s = v)
    {cs : Array Value} (hx : a.eval x = .slice (some ⟨wr.heap.size, 0, none⟩) 1 1) (hl : cs.size = size) (h1 : cs.toList.all Value.oneCell' = true)
    (hbytes : (n + 1) * bytes ≤ 140737488355328) (h63 : n + 1 ≤ maxLen) (hbase : base ≤ wr.heap.size)
    (h : ∀ v' w', w'.ownsRow base e size v' (n + 1) (xs ++ cs.toList) → wr.grownBy w' v.ownBlock → (v'.ownBlock = v.ownBlock ∨ v'.ownBlock = some (wr.heap.size + 1)) → wpListIn (Fence.wide.inRound lr) nn P ops Q rest (a.put o.dst v') w') :
    wpListIn (Fence.wide.inRound lr) nn P ops Q (o :: rest) a (wr.alloc (.cells cs e)) :=
  wpListIn_plain hgd fun K hK => oper_in lr (by rw [ho]; intro c hc; cases hc) (wp_append1L hgd s x ho I hown hs hx hl h1 hbytes h63 hbase fun v' w' h1 h2 h3 => hK _ _ (h v' w' h1 h2 h3))
end

section
variable {E : Bool} {w w' : World} {B b : Nat} {v : Value} {ts : List Tok}
theorem own_not_row {base size n : Nat} {e : TypeId} {xs : List Value} {row : Option Nat} (h : w.ownsRow base e size v n xs) (hr : ∀ r, row = some r → ∃ o : Obj, w.heap[r]? = some o ∧ o.isCells = false) : v.ownBlock = none ∨ v.ownBlock ≠ row := by
  rcases h.2 with ⟨rfl, _⟩ | ⟨g, cap, cur, rfl, _, hgb, _⟩
  · exact .inl rfl
  · refine .inr fun e' => ?_
    obtain ⟨o, ho, hc⟩ := hr g (by rw [← e']; rfl)
    rw [hgb] at ho; cases ho; cases hc
theorem out_kept {row : Option Nat} (h : Out E w B b v ts) (hg : w.grownBy w' row) (hr : ∀ r, row = some r → ∃ o : Obj, w.heap[r]? = some o ∧ o.isCells = false) : Out E w' B b v ts := by
  refine ⟨?_, fun e => (h.own e).kept hg (own_not_row (h.own e) hr), fun g e => ⟨(h.lie g e).1, Nat.lt_of_lt_of_le (h.lie g e).2 hg.size⟩, h.ne⟩
  rcases h.row with ho | ho
  · exact .inl (ho.kept hg (own_not_row ho hr))
  · exact .inr ho
theorem out_set (h : Out E w B b v ts) (u : Value) : Out E (w.setCell ⟨b, 0, none⟩ u) B b v ts := by
  have hg := grownBy_setCell' w b u
  refine ⟨?_, fun e => (h.own e).kept hg (.inr h.ne), fun g e => ⟨(h.lie g e).1, Nat.lt_of_lt_of_le (h.lie g e).2 hg.size⟩, h.ne⟩
  rcases h.row with ho | ho
  · exact .inl (ho.kept hg (.inr h.ne))
  · exact .inr ho
theorem blk_kept {g : Nat} {t : TypeId} {cs : Array Value} {row : Option Nat} (h : Blk w g t cs) (hg : w.grownBy w' row) (hr : ∀ r, row = some r → ∃ o : Obj, w.heap[r]? = some o ∧ o.isCells = false) : Blk w' g t cs :=
  h.grown hg (fun e => by
    obtain ⟨o, ho, hc⟩ := hr g e.symm
    unfold Blk at h
    rw [h] at ho; cases ho; cases hc)
end

/-- Exempt: the box of the list that is gathered, and the list's own block. -/
def Ex (ob : Nat) (W : World) (k : Nat) : Prop := k = ob ∨ ∃ v, W.cell? ⟨ob, 0, none⟩ = some v ∧ v.ownBlock = some k
theorem ex_below {ob m : Nat} (h : ob < m) : ∀ A B, Below m A B → ∀ k, Ex ob B k → Ex ob A k := fun A B hb k he => by
  rcases he with he | ⟨v, hv, hk⟩
  · exact .inl he
  · exact .inr ⟨v, (hb.cell (p := ⟨ob, 0, none⟩) h).symm.trans hv, hk⟩

/-- Between two rounds: so much has been gathered. -/
def Inv (w : World) (m mb ob : Nat) (sz : Nat) (pre : List Tok) (W : World) : Prop :=
  (∃ v, Blk W ob 28 #[v] ∧ Out false W w.heap.size ob v pre) ∧ pre.length ≤ m ∧ Blk W mb 3 #[.int .i64 (m : Nat)] ∧ Below w.heap.size w W ∧ sz ≤ W.heap.size
theorem inv_own (w : World) (m mb ob sz B : Nat) (hB : w.heap.size ≤ B) : OwnFrom B (Inv w m mb ob sz) := by
  rintro pre X Y row ⟨⟨v, hb, ho⟩, hl, hm, hbel, hsz⟩ hg hr
  have hr' := fun r e => (hr r e).2
  exact ⟨⟨v, blk_kept hb hg hr', out_kept ho hg hr'⟩, hl, blk_kept hm hg hr', hbel.grown hg hbel.size (fun k e => by have := (hr k e).1; omega), Nat.le_trans hsz hg.size⟩
/-- The loop left early. -/
def InvX (w : World) (m mb ob sz : Nat) (c : Code) (pre : List Tok) (W : World) : Prop := c = .exit 0 ∧ ∃ p x, pre = p ++ [x] ∧ p.length = m ∧ Inv w m mb ob sz p W
theorem invX_own (w : World) (m mb ob sz B : Nat) (hB : w.heap.size ≤ B) (c : Code) : OwnFrom B (InvX w m mb ob sz c) := by
  rintro pre X Y row ⟨hc, p, x, hp, hl, hi⟩ hg hr
  exact ⟨hc, p, x, hp, hl, inv_own w m mb ob sz B hB p X Y row hi hg hr⟩

/-- One more has been gathered. -/
theorem inv_grow {w W w1 : World} {m mb ob sz : Nat} {v v' : Value} {pre : List Tok} {x : Tok} (bO : Blk W ob 28 #[v]) (ho : Out false W w.heap.size ob v pre) (bM : Blk W mb 3 #[.int .i64 (m : Nat)]) (hB : Below w.heap.size w W) (hWs : sz ≤ W.heap.size)
    (hob : w.heap.size ≤ ob) (hmo : mb ≠ ob) (hl : pre.length < m) (own1 : w1.ownsRow w.heap.size 32 5 v' (pre.length + 1) (tokCells pre ++ tokC x)) (hg1 : W.grownBy w1 v.ownBlock) (hl1 : v'.ownBlock = v.ownBlock ∨ v'.ownBlock = some (W.heap.size + 1)) :
    KeepsOthers W (w1.setCell ⟨ob, 0, none⟩ v') ∧ Keep (Ex ob) W (w1.setCell ⟨ob, 0, none⟩ v') ∧ Inv w m mb ob sz (pre ++ [x]) (w1.setCell ⟨ob, 0, none⟩ v') := by
  have bO1 := bO.grown hg1 ho.ne.symm
  have hlt := bO.lt
  have c0 := bO.cell 0
  have hcv : (w1.setCell ⟨ob, 0, none⟩ v').cell? ⟨ob, 0, none⟩ = some v' := by have := (bO1.set_ 0 v').cell 0; simpa using this
  simp only [List.getElem?_toArray, List.getElem?_cons_zero] at c0
  have hbl : Below w.heap.size W w1 := (Below.refl w.heap.size W).grown hg1 hB.size (fun k e => (ho.lie k e).1)
  refine ⟨(KeepsOthers.of_grownBy hg1 fun j o ej hj => ?_).trans (KeepsOthers.setCell _ _ _), ⟨by simpa using hg1.size, fun k o hk _ hE => ?_, fun k hk he => ?_⟩, ⟨_, ?_, out_set (ho.grow own1 hl1 hlt) _⟩, by simp only [List.length_append, List.length_cons, List.length_nil]; omega, (bM.grown hg1 (own_blk_ne (ho.own rfl) bM (by decide)).symm).far hmo _, (hB.trans hbl).setCell (p := ⟨ob, 0, none⟩) hob _, by simpa using Nat.le_trans hWs hg1.size⟩
  · rcases (ho.own rfl).2 with ⟨rfl, _⟩ | ⟨g, cap, cur, rfl, _, hgb, _⟩
    · simp [Value.ownBlock] at ej
    · obtain rfl : g = j := by simpa [Value.ownBlock] using ej
      rw [hgb] at hj; cases hj; rfl
  · rw [Below.heap_setCell w1 ⟨ob, 0, none⟩ v' k (fun e => hE (.inl e))]
    exact (hg1.block k (heap_lt hk) (fun e => hE (.inr ⟨v, c0, e.symm⟩))).trans hk
  · rcases he with he | ⟨u, hu, hk'⟩
    · exact .inl he
    · rw [hcv] at hu
      obtain rfl := Option.some.inj hu
      rcases hl1 with hl1 | hl1
      · exact .inr ⟨v, c0, by rw [← hl1]; exact hk'⟩
      · rw [hk'] at hl1
        have := Option.some.inj hl1
        omega
  · have := bO1.set_ 0 v'
    exact this

set_option maxHeartbeats 4000000 in
theorem each_list (nm : ByteArray) (kd : Int) (a b c : Bool) (s : ByteArray) (m : Nat) (w : World) (hs : s.size ≤ 1099511627775) (hm : m ≤ 1099511627778) (ht : Tab w) (h0 : 0 < w.heap.size) :
    Calls Tryd.prog 19 #[.agg #[.string nm, .int .i64 kd, .bool a, .bool b, .bool c], .string s, .int .i64 (m : Nat)] w fun e w' =>
      ∃ v bb, e = .returned v ∧ Out false w' w.heap.size bb v ((ofT kd a b c s).take m) ∧ Below w.heap.size w w' := by
  have hTS0 := of_len kd a b c s
  obtain ⟨TS, hts⟩ : ∃ TS, TS = ofT kd a b c s := ⟨_, rfl⟩
  have hTS : TS.length ≤ 1099511627776 := by rw [hts]; omega
  rw [← hts]
  have FN := func_nil
  refine callsIn_wide (n := 8).1 (callsIn_of_wp_marks Tryd.func19 rfl trivial ?_ rfl)
  simp only [Tryd.ntmps19, List.size_toArray, List.length_cons, List.length_nil, Nat.reduceAdd, Nat.reduceSub, Array.replicate_succ, Array.replicate_zero, List.push_toArray, List.append_toArray, List.nil_append, List.cons_append]
  gi_wp2_with (refine ⟨trivial, ?_⟩; gi_at_call 20; refine (callsIn_wide.2 (each_any nm kd a b c s _)).mono ?_; rintro e w' ⟨rfl, rfl⟩)
  clear FN
  have b1 := ((((Blk.new (w.alloc (.cells #[.string nm, .int .i64 kd, .bool a, .bool b, .bool c] 26)) 3 #[.int .i64 (m : Nat)]).alloc (.cells #[] 32)).alloc (.cells #[.slice (some ⟨w.heap.size + 1 + 1, 0, none⟩) 0 0] 28)).alloc (.cells #[.string nm, .int .i64 kd, .bool a, .bool b, .bool c] 26)).alloc (.cells #[.string s] 9)
  have b3 := ((Blk.new (((w.alloc (.cells #[.string nm, .int .i64 kd, .bool a, .bool b, .bool c] 26)).alloc (.cells #[.int .i64 (m : Nat)] 3)).alloc (.cells #[] 32)) 28 #[.slice (some ⟨w.heap.size + 1 + 1, 0, none⟩) 0 0]).alloc (.cells #[.string nm, .int .i64 kd, .bool a, .bool b, .bool c] 26)).alloc (.cells #[.string s] 9)
  have b4 := (Blk.new ((((w.alloc (.cells #[.string nm, .int .i64 kd, .bool a, .bool b, .bool c] 26)).alloc (.cells #[.int .i64 (m : Nat)] 3)).alloc (.cells #[] 32)).alloc (.cells #[.slice (some ⟨w.heap.size + 1 + 1, 0, none⟩) 0 0] 28)) 26 #[.string nm, .int .i64 kd, .bool a, .bool b, .bool c]).alloc (.cells #[.string s] 9)
  have b5 := Blk.new (((((w.alloc (.cells #[.string nm, .int .i64 kd, .bool a, .bool b, .bool c] 26)).alloc (.cells #[.int .i64 (m : Nat)] 3)).alloc (.cells #[] 32)).alloc (.cells #[.slice (some ⟨w.heap.size + 1 + 1, 0, none⟩) 0 0] 28)).alloc (.cells #[.string nm, .int .i64 kd, .bool a, .bool b, .bool c] 26)) 9 #[.string s]
  have o2 : (((((w.alloc (.cells #[.string nm, .int .i64 kd, .bool a, .bool b, .bool c] 26)).alloc (.cells #[.int .i64 (m : Nat)] 3)).alloc (.cells #[] 32)).alloc (.cells #[.slice (some ⟨w.heap.size + 1 + 1, 0, none⟩) 0 0] 28)).alloc (.cells #[.string nm, .int .i64 kd, .bool a, .bool b, .bool c] 26)).alloc (.cells #[.string s] 9) |>.ownsRow w.heap.size 32 5 (.slice (some ⟨w.heap.size + 1 + 1, 0, none⟩) 0 0) 0 (tokCells []) := by
    have := (((World.ownsRow_lit (e := 32) (size := 5) (base := w.heap.size) ((w.alloc (.cells #[.string nm, .int .i64 kd, .bool a, .bool b, .bool c] 26)).alloc (.cells #[.int .i64 (m : Nat)] 3)) #[] 0 (by simp only [World.size_alloc]; omega) (by decide) rfl).alloc (.cells #[.slice (some ⟨w.heap.size + 1 + 1, 0, none⟩) 0 0] 28)).alloc (.cells #[.string nm, .int .i64 kd, .bool a, .bool b, .bool c] 26)).alloc (.cells #[.string s] 9)
    simp only [World.size_alloc] at this
    exact this
  simp only [World.size_alloc] at b1 b3 b4 b5
  obtain ⟨W0, hW0⟩ : ∃ W0, (((((w.alloc (.cells #[.string nm, .int .i64 kd, .bool a, .bool b, .bool c] 26)).alloc (.cells #[.int .i64 (m : Nat)] 3)).alloc (.cells #[] 32)).alloc (.cells #[.slice (some ⟨w.heap.size + 1 + 1, 0, none⟩) 0 0] 28)).alloc (.cells #[.string nm, .int .i64 kd, .bool a, .bool b, .bool c] 26)).alloc (.cells #[.string s] 9) = W0 := ⟨_, rfl⟩
  have hB0 : Below w.heap.size w W0 := by rw [← hW0]; (repeat (first | exact Below.refl _ _ | assumption | refine balloc ?_ _ | refine bdrew ?_ | refine bdrewN ?_ _ | refine bchain ?_ (by assumption)))
  have hsz : W0.heap.size = w.heap.size + 6 := by rw [← hW0]; simp only [World.size_alloc]
  rw [hW0] at b1 b3 b4 b5 o2 ⊢
  clear hW0
  have c3 := b3.cell 0
  simp only [List.getElem?_toArray, List.getElem?_cons_zero] at c3
  have hseq := each_stops (E := Ex (w.heap.size + 1 + 1 + 1)) (m := W0.heap.size) (ex_below (by omega)) nm kd a b c s (w.heap.size + 1 + 1 + 1 + 1) (w.heap.size + 1 + 1 + 1 + 1 + 1) 7 W0 hs (by omega) (Nat.le_refl _)
    (fun k he => by
      rcases he with he | ⟨v, hv, hk⟩
      · omega
      · rw [c3] at hv
        obtain rfl := Option.some.inj hv
        simp [Value.ownBlock] at hk
        omega) (tab_below ht hB0 h0) (by omega) b4 b5
  rw [← hts] at hseq
  clear hts hTS0
  refine wpIn_rangeFunc_ownH rfl (by omega) (gf := 46) (lb := #[.pointer (some ⟨w.heap.size + 1 + 1 + 1 + 1, 0, none⟩), .pointer (some ⟨w.heap.size + 1 + 1 + 1 + 1 + 1, 0, none⟩)]) rfl trivial (enters_of Tryd.func46 (by kernel_rfl) rfl)
    hseq Keep.trans (keep_b (m := W0.heap.size) (ex_below (by omega)) (Nat.le_refl _)) (Below.refl _ _) (fun _ => rfl)
    (Inv w m (w.heap.size + 1) (w.heap.size + 1 + 1 + 1) W0.heap.size) (InvX w m (w.heap.size + 1) (w.heap.size + 1 + 1 + 1) W0.heap.size) (inv_own w m _ _ _ _ (by omega)) (fun c => invX_own w m _ _ _ _ (by omega) c)
    ⟨⟨_, b3, .inl o2, fun _ => o2, fun g e => o2.lt g e, by simp [Value.ownBlock]⟩, Nat.zero_le _, b1, hB0, Nat.le_refl _⟩
    (fun x a' W => ∃ Bx, W0.heap.size ≤ Bx ∧ Blk W Bx 32 (tokRow x) ∧ a' = { tmps := #[.agg #[.string nm, .int .i64 kd, .bool a, .bool b, .bool c], .string s, .int .i64 (m : Nat), .pointer (some ⟨w.heap.size, 0, none⟩), undef, .pointer (some ⟨w.heap.size + 1, 0, none⟩), .slice none 0 0, .pointer (some ⟨w.heap.size + 1 + 1 + 1, 0, none⟩), .func (.func 46) #[] #[.pointer (some ⟨w.heap.size + 1 + 1 + 1 + 1, 0, none⟩), .pointer (some ⟨w.heap.size + 1 + 1 + 1 + 1 + 1, 0, none⟩)],
      .pointer (some ⟨Bx, 0, none⟩), .slice (some ⟨w.heap.size + 1 + 1, 0, none⟩) 0 0, .agg #[.string nm, .int .i64 kd, .bool a, .bool b, .bool c], .string s,
      .func (.func 46) #[] #[.pointer (some ⟨w.heap.size + 1 + 1 + 1 + 1, 0, none⟩), .pointer (some ⟨w.heap.size + 1 + 1 + 1 + 1 + 1, 0, none⟩)], .func (.func 46) #[] #[.pointer (some ⟨w.heap.size + 1 + 1 + 1 + 1, 0, none⟩), .pointer (some ⟨w.heap.size + 1 + 1 + 1 + 1 + 1, 0, none⟩)], .bool false, undef, undef,
      .func (.func 46) #[] #[.pointer (some ⟨w.heap.size + 1 + 1 + 1 + 1, 0, none⟩), .pointer (some ⟨w.heap.size + 1 + 1 + 1 + 1 + 1, 0, none⟩)], .agg #[.string x.text, .int .i64 x.value, .int .i64 x.pos, .int .i64 x.start, .int .i64 x.stop], undef, undef, undef, undef, undef, undef, undef, undef, undef], defers := [] })
    (fun x a' _ X Y row hs hg hr => by obtain ⟨Bx, h1, h2, h3⟩ := hs; exact ⟨Bx, h1, blk_kept h2 hg (fun r e => (hr r e).2), h3⟩)
    ?assign ?body ?done ?stop
  case assign =>
    rintro l pre x W K hi hK
    have hW0 := hi.2.2.2.2
    unfold tokV
    gi_wp2_with fail
    refine hK _ _ ((KeepsOthers.alloc _ _).from _) (Keep.below (ex_below (m := W0.heap.size) (by omega)) (balloc (Below.refl _ _) _) hW0) (inv_own w m (w.heap.size + 1) (w.heap.size + 1 + 1 + 1) W0.heap.size W0.heap.size (by omega) pre W _ none hi (World.grownBy_alloc W _ none) (fun r e => by cases e)) ⟨W.heap.size, hW0, Blk.new W _ _, rfl⟩
  case body =>
    rintro l pre x a' W hl _ hi ⟨Bx, hBx, bX, rfl⟩ hlt
    obtain ⟨⟨v, bO, ho⟩, hpm, bM, hB, hWs⟩ := hi
    obtain ⟨A, cap, rfl⟩ := ho.slice
    have cO := bO.cell 0
    have zO := bO.frozen 0
    have cM := bM.cell 0
    have t0 := bX.cell 0
    have t1 := bX.cell 1
    have t2 := bX.cell 2
    have t3 := bX.cell 3
    have t4 := bX.cell 4
    unfold tokRow at t0 t1 t2 t3 t4
    simp only [List.getElem?_toArray, List.getElem?_cons_zero, List.getElem?_cons_succ] at cO cM t0 t1 t2 t3 t4
    by_cases hge : m ≤ pre.length
    · gi_wp2_with fail
      exact ⟨(KeepsOthers.refl _).from _, rfl, pre, x, rfl, by omega, ⟨_, bO, ho⟩, hpm, bM, hB, hWs⟩
    · have hBs := hB.size
      have hbl := bO.lt
      gi_wp2_with (gi_at_builtin; refine wpListIn_append1L (base := w.heap.size) rfl _ _ rfl tokElem ho.row rfl rfl rfl rfl (by omega) (by unfold maxLen; omega) hBs ?_; intro v' w1 own1 hg1 hl1; obtain ⟨A1, c1, rfl⟩ := own_slice own1; have bO1 := bO.grown hg1 ho.ne.symm; have cO1 := bO1.cell 0; have zO1 := bO1.frozen 0; simp only [List.getElem?_toArray, List.getElem?_cons_zero] at cO1)
      have hi1 := inv_grow (sz := w.heap.size + 6) bO ho bM hB (by omega) (by omega) (by omega) (by omega) own1 hg1 hl1
      exact ⟨hi1.1.from _, hi1.2⟩
  case done =>
    rintro D ys W hD rfl ⟨⟨v, bO, ho⟩, hpm, bM, hB, hWs⟩ hK
    have cO := bO.cell 0
    simp only [List.getElem?_toArray, List.getElem?_cons_zero] at cO
    gi_wp2_with fail
    refine ⟨by simp, .inl ⟨_, _, rfl, run_takeDeferred hK, ?_⟩⟩
    refine ⟨_, results_tmp rfl _ _ _, v, w.heap.size + 1 + 1 + 1, rfl, ?_, hB.trans (belowK_b (w := w) (Nat.le_refl _) W D _ _ (by omega) hK rfl rfl)⟩
    rw [List.take_of_length_le hpm]
    exact out_kept ho (grownBy_putObj' W D _) (fun r e => by cases e; exact ⟨_, hK, rfl⟩)
  case stop =>
    rintro D c pre W hD hpre ⟨rfl, p, x, rfl, hpl, ⟨v, bO, ho⟩, hpm, bM, hB, hWs⟩ hK
    have hpt : TS.take m = p := by
      have h1 : p <+: TS := (List.prefix_append p [x]).trans hpre
      have h2 := List.prefix_iff_eq_take.1 h1
      rw [← hpl]; exact h2.symm
    have cO := bO.cell 0
    simp only [List.getElem?_toArray, List.getElem?_cons_zero] at cO
    gi_wp2_with fail
    refine ⟨by simp, .inl ⟨_, _, rfl, run_takeDeferred hK, ?_⟩⟩
    refine ⟨_, results_tmp rfl _ _ _, v, w.heap.size + 1 + 1 + 1, rfl, by rw [hpt]; exact out_kept ho (grownBy_putObj' W D _) (fun r e => by cases e; exact ⟨_, hK, rfl⟩), hB.trans (belowK_b (w := w) (Nat.le_refl _) W D _ _ (by omega) hK rfl rfl)⟩
end Go.Proofs.YtmoahflgcojfcaaDoor.EachList
