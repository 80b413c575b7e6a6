/-
  For TopkMemory: appends that tell what becomes of the old row; lists of their own; what stays.
-/
import Derived.Test.YtmddnilephneiaaStepWalk
import Derived.Test.YtmddnilephneiaaPairRows
import Derived.Test.YtmddnilephneiaaRelb
import Derived.Deep.DeepAppendRoom
namespace Go.Proofs.Ytmddnilephneiaa.MemBase
open Go.RowKit Go.PlainAid HitPlain HeapPlain KeepPlain Base HitBase PushWalk OfferWalk KeepWalk TopkWalk Rows2 PairRows

section
variable {P : Program} {base : Nat} {t e : TypeId} {z : Value} {size bytes : Nat}

/-- 'append(out, x)' of one element whose cells lie in the block just made: the old row, or a new block and the old ones as they were. -/
theorem wpList_append1_two {wr : World} {ops : Array Oper} {rest : List Oper} {o : Oper} {a : Act} {Q : Exit → Act → World → Prop} (hgd : o.guard = none) (s x : Operand)
    (ho : o.op = .call { callee := .builtin .append, args := #[s, x], argTypes := #[t, t] })
    (I : Elem P t e z size bytes) {v : Value} {n : Nat} {xs : List Value} (hown : wr.ownsRow base e size v n xs) (hs : a.eval s = v)
    {cs : Array Value} (hx : a.eval x = .slice (some ⟨wr.heap.size, 0, none⟩) 1 1) (hl : cs.size = size) (h1 : cs.toList.all Value.oneCell' = true)
    (hbytes : (n + 1) * bytes ≤ 140737488355328) (h63 : n + 1 ≤ maxLen) (hbase : base ≤ wr.heap.size)
    (h : ∀ v' w', w'.ownsRow base e size v' (n + 1) (xs ++ cs.toList) → ((v'.ownBlock = v.ownBlock ∧ wr.grownBy w' v.ownBlock) ∨ (Below wr.heap.size wr w' ∧ ∀ g, v'.ownBlock = some g → wr.heap.size ≤ g)) → wpList P ops Q rest (a.put o.dst v') w') :
    wpList P ops Q (o :: rest) a (wr.alloc (.cells cs e)) := by
  have I' := I
  obtain ⟨ht, ⟨i, hi, hz, hsz, hby⟩, hzs, hpos⟩ := I'
  have hnews : ∀ j u, cs.toList[j]? = some u → (wr.alloc (.cells cs e)).cell? ((⟨wr.heap.size, 0, none⟩ : Addr).add j) = some u := fun j u hu => by
    rw [Addr.add_lit, World.cell?_alloc_mark, Nat.zero_add]
    simpa using hu
  have h1' : ∀ u ∈ cs.toList, u.oneCell' = true := fun u hu => (List.all_eq_true.1 h1) u hu
  have hown1 := hown.alloc (.cells cs e)
  have hba : Below wr.heap.size wr (wr.alloc (.cells cs e)) := balloc (Below.refl _ _) _
  rcases hown.2 with ⟨rfl, rfl⟩ | ⟨g, cap, cur, rfl, hbg, hg, hnc, hcm, hcs, htake⟩
  · refine wpList_append_lies _ hgd s x t ho base e i z size bytes ht hi hz hsz hby hzs hpos _ 0 xs hs hown1 ⟨wr.heap.size, 0, none⟩ 1 1 cs.toList hx (by simpa using hl) hnews h1' (by omega) h63 hbytes (by simp; omega) _ rfl ?_
    intro g cap w' hown' hgr hat _
    refine h _ w' hown' (.inr ⟨?_, fun g' hg' => ?_⟩)
    · have : Below (wr.alloc (.cells cs e)).heap.size (wr.alloc (.cells cs e)) w' := ⟨hgr.os, hgr.tape, hgr.output, hgr.size, fun k hk => hgr.block k hk (by simp [Value.ownBlock])⟩
      exact bchain hba this
    · have e1 : g = g' := by simpa [Value.ownBlock] using hg'
      rcases hat with h' | h'
      · simp [Value.ownBlock] at h'
      · rw [← e1, h']; simp
  · by_cases hroom : n + 1 ≤ cap
    · refine wpList_append_own_spare _ hgd s x t ho base e i size ht hi hsz g n cap xs hs hown1 ⟨wr.heap.size, 0, none⟩ 1 1 cs.toList hx (by simpa using hl) hnews h1' hroom ?_
      intro w' hown' hgr
      refine h _ w' hown' (.inl ⟨rfl, ?_⟩)
      exact ⟨hgr.os, hgr.tape, hgr.output, by have := hgr.size; simp at this; omega, fun k hk hne => (hgr.block k (by simp; omega) hne).trans (Below.heap_alloc wr _ k hk)⟩
    · refine wpList_plain hgd fun K hK => ?_
      have holds : ∀ j u, xs[j]? = some u → (wr.alloc (.cells cs e)).cell? ((⟨g, 0, none⟩ : Addr).add j) = some u := hown1.cells (g := g) rfl
      have hr := run_append_grow (P := P) (wr.alloc (.cells cs e)) t o.type e i z ht hi hz ⟨g, 0, none⟩ n cap xs (by rw [hsz]; exact hown.1) holds ⟨wr.heap.size, 0, none⟩ 1 1 cs.toList (by rw [hsz]; simpa using hl) hnews (by omega) (by unfold maxLen at h63; omega) (growslice_fits (by omega) (by rw [hby]; exact hbytes))
      have hlen : (xs ++ cs.toList).length = (n + 1) * size := by rw [List.length_append, hown.1, Nat.add_mul]; simp [hl]
      obtain ⟨v', w', hrun, hown', hb', hg'⟩ : ∃ v' w', (Builtin.append_ #[t, t] o.type #[.slice (some ⟨g, 0, none⟩) n cap, .slice (some ⟨wr.heap.size, 0, none⟩) 1 1]).run P (wr.alloc (.cells cs e)) = .ok v' w' ∧
          w'.ownsRow base e size v' (n + 1) (xs ++ cs.toList) ∧ Below wr.heap.size wr w' ∧ ∀ g, v'.ownBlock = some g → wr.heap.size ≤ g := by
        refine ⟨_, _, hr, ⟨hlen, .inr ⟨_, _, _, rfl, by simp; omega, heap_alloc_new (wr.alloc (.cells cs e)).drew _, grownCap_ge _ _ _ _, grownCap_le_maxLen _ _ _ _ h63, ?_, ?_⟩⟩, balloc (bdrew hba) _, fun g' hg' => ?_⟩
        · have := grownCap_ge (wr.alloc (.cells cs e)) (n + 1) cap e
          simp only [Array.size_append, List.size_toArray, size_zeroCells, hzs, hown.1, Array.toArray_toList, hl]
          rw [← Nat.succ_mul, ← Nat.add_mul]
          congr 1
          omega
        · simp only [Array.toList_append, List.append_assoc]
          rw [← List.append_assoc, ← hlen]
          exact List.take_left
        · have e1 : wr.heap.size + 1 = g' := by simpa [Value.ownBlock] using hg'
          omega
      unfold Oper.wp
      simp [execOp, ho, resolve, invoke, builtin, hs, hx, hrun, Result.andThen]
      exact hK _ _ (h _ _ hown' (.inr ⟨hb', hg'⟩))
end

section
variable {P : Program} {base : Nat} {t e : TypeId} {z : Value} {size bytes : Nat} {w : World}
theorem wpList_make_elem {ops : Array Oper} {rest : List Oper} {o : Oper} {a : Act} {Q : Exit → Act → World → Prop} (hgd : o.guard = none) (l c : Operand) (ho : o.op = Op.makeSlice t l c) (I : Elem P t e z size bytes)
    {C : Int} (n : Nat) (hl : a.eval l = .int .i64 0) (hc : a.eval c = .int .i64 C) (hC : C = (n : Int)) (hb : bytes * n ≤ 281474976710656) (h63 : n ≤ maxLen) (hbase : base ≤ w.heap.size)
    (h : ∀ w', w'.ownsRow base e size (.slice (some ⟨w.heap.size, 0, none⟩) 0 n) 0 [] → Below w.heap.size w w' → wpList P ops Q rest (a.put o.dst (.slice (some ⟨w.heap.size, 0, none⟩) 0 n)) w') : wpList P ops Q (o :: rest) a w := by
  obtain ⟨ht, ⟨i, hi, hz, hsz, hby⟩, hzs, hpos⟩ := I
  exact wpList_make_own w hgd l c t ho base e i z size ht hi hz hsz .i64 .i64 C n hl hc hC (by rw [hby]; exact hb) h63 hbase fun w' h1 h2 => h w' h1 ⟨h2.os, h2.tape, h2.output, h2.size, fun k hk => h2.block k hk (by simp)⟩
end

/-- Another block than those. -/
def Away (l : List Value) (v : Value) : Prop := ∀ u ∈ l, ∀ g, u.ownBlock = some g → v.ownBlock ≠ some g
theorem away_nil (v : Value) : Away [] v := fun _ h => by cases h
theorem away_cons {l : List Value} {u v : Value} {wx wy : World} {B s s' n n' : Nat} {e e' : TypeId} {xs ys : List Value} (hu : wx.ownsRow B e s u n xs) (hv : wy.ownsRow wx.heap.size e' s' v n' ys) (hl : Away l v) : Away (u :: l) v := by
  intro a ha g e1 e2
  rcases List.mem_cons.1 ha with rfl | h
  · have := (hu.lt g e1).2; have := (hv.lt g e2).1; omega
  · exact hl a h g e1 e2

/-- A list of these hits of its own, in another block than those of l. -/
def OwnL (W : Nat) (K : List Hit) (l : List Value) : Rel.Fact := fun v wx => ∃ A c, v = .slice A K.length c ∧ wx.ownsRow W 29 2 v K.length (hc K) ∧ Away l v
theorem ownL_stable {W : Nat} {K : List Hit} : ∀ (l : List Value) (v : Value) (wa wb : World), Below wa.heap.size wa wb → OwnL W K l v wa → OwnL W K l v wb :=
  fun _ _ _ _ hab ⟨A, c, e, h, ha⟩ => ⟨A, c, e, own_below h hab, ha⟩
/-- A row of these lists. -/
def RowV (W : Nat) (l : List Value) : Rel.Fact := fun v wx => ∃ g, v = .slice (some ⟨g, 0, none⟩) 9 9 ∧ Blk wx g 26 l.toArray ∧ W ≤ g ∧ ∀ u ∈ l, u.ownBlock ≠ some g
theorem rowV_stable {W : Nat} : ∀ (l : List Value) (v : Value) (wa wb : World), Below wa.heap.size wa wb → RowV W l v wa → RowV W l v wb :=
  fun _ _ _ _ hab ⟨g, e, h, h2⟩ => ⟨g, e, h.below hab h.lt, h2⟩
/-- A block of these values. -/
def BlkV (xs : Array Value) (_ : List Value) : Rel.Fact := fun v wx => ∃ g, v = .slice (some ⟨g, 0, none⟩) xs.size xs.size ∧ Blk wx g 26 xs
theorem blkV_stable {xs : Array Value} : ∀ (l : List Value) (v : Value) (wa wb : World), Below wa.heap.size wa wb → BlkV xs l v wa → BlkV xs l v wb :=
  fun _ _ _ _ hab ⟨g, e, h⟩ => ⟨g, e, h.below hab h.lt⟩

theorem keeps_base {w : World} {B B' b : Nat} {k : Int} {v : Value} {S : List Hit} (h : Keeps w B b k v S) (hB : B' ≤ B) : Keeps w B' b k v S := by
  obtain ⟨L, hL, p1, p2, p3⟩ := h
  exact ⟨L, ⟨hL.blk, own_base hL.own hB, hL.ne, Nat.le_trans hB hL.base, hL.hp⟩, p1, p2, p3⟩

/-- The three hits behind the list. -/
def marks : List Hit := [(-71, 3), (-72, 4), (-73, 9223372036854775808)]

/-- What stays all the way: the list with its marks, its copy, the keeper. -/
structure Env (w : World) (W b : Nat) (k : Int) (v8 v9 vb : Value) (L S : List Hit) : Prop where
  inn : w.ownsRow W 29 2 v8 (L.length + 3) (hc L ++ hc marks)
  who : w.ownsRow W 29 2 v9 (L.length + 3) (hc L ++ hc marks)
  kee : Keeps w W b k vb S
  n89 : ∀ g, v8.ownBlock = some g → v9.ownBlock ≠ some g
  n8b : v8.ownBlock ≠ some b
  n9b : v9.ownBlock ≠ some b
  n8v : ∀ g, v8.ownBlock = some g → vb.ownBlock ≠ some g
  n9v : ∀ g, v9.ownBlock = some g → vb.ownBlock ≠ some g
section
variable {w w' : World} {W b : Nat} {k : Int} {v8 v9 vb : Value} {L S : List Hit}
theorem Env.foot (h : Env w W b k v8 v9 vb L S) {ok : Nat → Prop} (hf : Foot w w' ok) (h8 : ∀ g, v8.ownBlock = some g → ok g) (h9 : ∀ g, v9.ownBlock = some g → ok g) (hb : ok b) (hv : ∀ g, vb.ownBlock = some g → ok g) : Env w' W b k v8 v9 vb L S :=
  { h with inn := hf.own h.inn h8, who := hf.own h.who h9, kee := TwoWalk.keeps_foot h.kee hf hb hv }
theorem Env.below (h : Env w W b k v8 v9 vb L S) (hb : Below w.heap.size w w') : Env w' W b k v8 v9 vb L S :=
  h.foot (Foot.ofBelow hb (fun _ => True)) (fun _ _ => trivial) (fun _ _ => trivial) trivial (fun _ _ => trivial)
/-- Everything lies below a place. -/
theorem Env.lt (h : Env w W b k v8 v9 vb L S) : (∀ g, v8.ownBlock = some g → g < w.heap.size) ∧ (∀ g, v9.ownBlock = some g → g < w.heap.size) ∧ b < w.heap.size ∧ (∀ g, vb.ownBlock = some g → g < w.heap.size) := by
  obtain ⟨l1, _, l3⟩ := TwoWalk.keeps_lt h.kee
  exact ⟨fun g e => (h.inn.lt g e).2, fun g e => (h.who.lt g e).2, l1, fun g e => (l3 g e).2⟩
end

def Sep (l : List Value) : Prop := l.Pairwise fun u v => ∀ g, u.ownBlock = some g → v.ownBlock ≠ some g
theorem sep_nil : Sep [] := List.Pairwise.nil
theorem sep_snoc {l : List Value} {v : Value} (h : Sep l) (ha : Away l v) : Sep (l ++ [v]) :=
  List.pairwise_append.2 ⟨h, by simp, fun u hu x hx => by rw [List.mem_singleton.1 hx]; exact ha u hu⟩
theorem sep_at {ks : List Lst} (h : Sep (ks.map lv)) {i j : Nat} {x y : Lst} (hx : ks[i]? = some x) (hy : ks[j]? = some y) (hij : i ≠ j) : ∀ g, (lv x).ownBlock = some g → (lv y).ownBlock ≠ some g := by
  have hi := (List.getElem?_eq_some_iff.1 hx).1
  have hj := (List.getElem?_eq_some_iff.1 hy).1
  have e1 : (ks.map lv)[i]'(by simpa using hi) = lv x := by simp [(List.getElem?_eq_some_iff.1 hx).2]
  have e2 : (ks.map lv)[j]'(by simpa using hj) = lv y := by simp [(List.getElem?_eq_some_iff.1 hy).2]
  rcases Nat.lt_or_ge i j with hlt | hge
  · have := List.pairwise_iff_getElem.1 h i j (by simpa using hi) (by simpa using hj) hlt
    rwa [e1, e2] at this
  · have := List.pairwise_iff_getElem.1 h j i (by simpa using hj) (by simpa using hi) (by omega)
    rw [e1, e2] at this
    exact fun g h1 h2 => this g h2 h1

/-- The kept lists: where they lie, what they hold, and the row of them. -/
structure Kept (w : World) (W g : Nat) (ks : List Lst) (cn : Nat → List Hit) : Prop where
  own : ∀ i x, ks[i]? = some x → (cn i).length = x.2.2.length ∧ w.ownsRow W 29 2 (lv x) x.2.2.length (hc (cn i))
  row : ∀ i x, ks[i]? = some x → w.cell? ⟨g, i, none⟩ = some (lv x)
  lt : g < w.heap.size
theorem Kept.below {w w' : World} {W g : Nat} {ks : List Lst} {cn : Nat → List Hit} (h : Kept w W g ks cn) (hb : Below w.heap.size w w') : Kept w' W g ks cn :=
  ⟨fun i x hx => ⟨(h.own i x hx).1, own_below (h.own i x hx).2 hb⟩, fun i x hx => (hb.cell (p := ⟨g, i, none⟩) h.lt).trans (h.row i x hx), Nat.lt_of_lt_of_le h.lt hb.size⟩

/-- The hits that are written over list q. -/
def wt (q n : Nat) : List Hit := (List.range n).map fun (j : Nat) => ((-1000 - (q : Int), (j : Int)) : Hit)
theorem wt_len (q n : Nat) : (wt q n).length = n := by simp [wt]
theorem wt_at {q n j : Nat} (h : j < n) : (wt q n)[j]? = some ((-1000 - (q : Int), (j : Int)) : Hit) := by simp [wt, h]
theorem take_step {α : Type} {X Y : List α} {j : Nat} {a : α} (hj : j < X.length) (hY : Y[j]? = some a) (h : X.take j = Y.take j) : (X.set j a).take (j + 1) = Y.take (j + 1) := by
  obtain ⟨hy, e⟩ := List.getElem?_eq_some_iff.1 hY
  rw [List.take_succ_eq_append_getElem (by simpa using hj), List.take_succ_eq_append_getElem hy, List.take_set_of_le (Nat.le_refl _), h, e]
  simp

/-- No block of the kept lists. -/
def okf (ks : List Lst) (g : Nat) : Prop := ∀ x ∈ ks, (lv x).ownBlock ≠ some g

/-- One hit is stored into a row of hits. -/
theorem own_store {w : World} {W g n cap j : Nat} {X : List Hit} (h : w.ownsRow W 29 2 (.slice (some ⟨g, 0, none⟩) n cap) n (hc X)) (a b : Int) :
    ((w.setCell ⟨g, j * 2, none⟩ (.int .i64 a)).setCell ⟨g, j * 2 + 1, none⟩ (.int .u64 b)).ownsRow W 29 2 (.slice (some ⟨g, 0, none⟩) n cap) n (hc (X.set j (a, b))) := by
  obtain ⟨o1, _⟩ := h.stored (j * 2) (.int .i64 a)
  obtain ⟨o2, _⟩ := o1.stored (j * 2 + 1) (.int .u64 b)
  rw [hc_set]
  exact o2
theorem foot_store {w w0 : World} {ok : Nat → Prop} {g i j : Nat} {u v : Value} (h : Foot w0 w ok) (hg : ¬ ok g) : Foot w0 ((w.setCell ⟨g, i, none⟩ u).setCell ⟨g, j, none⟩ v) ok :=
  (h.set_ (p := ⟨g, i, none⟩) (fun _ => hg) u).set_ (p := ⟨g, j, none⟩) (fun _ => hg) v

theorem Kept.store {w : World} {W g : Nat} {ks : List Lst} {cn : Nat → List Hit} {i j gx : Nat} {c : Nat} {M : List Hit} (h : Kept w W g ks cn) (hs : Sep (ks.map lv)) (hx : ks[i]? = some (some ⟨gx, 0, none⟩, c, M)) (hg : okf ks g) (a b : Int) :
    Kept ((w.setCell ⟨gx, j * 2, none⟩ (.int .i64 a)).setCell ⟨gx, j * 2 + 1, none⟩ (.int .u64 b)) W g ks (fun q => if q = i then (cn i).set j (a, b) else cn q) := by
  have hne : g ≠ gx := fun e => hg _ (List.mem_of_getElem? hx) (by rw [e]; rfl)
  refine ⟨fun q x hq => ?_, fun q x hq => ?_, by simpa using h.lt⟩
  · by_cases hqi : q = i
    · subst hqi
      rw [hx] at hq
      obtain rfl := (Option.some.inj hq).symm
      obtain ⟨h1, h2⟩ := h.own q _ hx
      simp only [if_true, List.length_set]
      exact ⟨h1, own_store h2 a b⟩
    · obtain ⟨h1, h2⟩ := h.own q x hq
      simp only [if_neg hqi]
      have hb : (lv x).ownBlock ≠ some gx := fun e => sep_at hs hq hx hqi gx e rfl
      exact ⟨h1, own_setFar (own_setFar h2 hb _) hb _⟩
  · have h1 : Foot w ((w.setCell ⟨gx, j * 2, none⟩ (.int .i64 a)).setCell ⟨gx, j * 2 + 1, none⟩ (.int .u64 b)) (fun q => q ≠ gx) := foot_store (Foot.refl _ _) (fun h => h rfl)
    exact (h1.cell (p := ⟨g, q, none⟩) h.lt hne).trans (h.row q x hq)

theorem env_equal {w : World} {W b : Nat} {k : Int} {A8 A9 : Option Addr} {c8 c9 : Nat} {vb : Value} {L S : List Hit} (h : Env w W b k (.slice A8 (L.length + 3) c8) (.slice A9 (L.length + 3) c9) vb L S) (hn : L.length + 3 ≤ 8796093022208) :
    Calls Try.prog 12 #[.slice A8 (L.length + 3) c8, .slice A9 (L.length + 3) c9] w fun e w' => e = .returned (.bool true) ∧ Below w.heap.size w w' := by
  have e1 : (L ++ marks).length = L.length + 3 := by simp [marks]
  have h1 := slc_own h.inn
  have h2 := slc_own h.who
  rw [← hc_append] at h1 h2
  have := equal_eq (L ++ marks) A8 A9 c8 c9 _ _ w (by omega) h1 h2
  rwa [e1] at this
theorem env_okf {w : World} {W b W1 : Nat} {k : Int} {v8 v9 vb : Value} {L S : List Hit} {ks : List Lst} {cn : Nat → List Hit} {w' w'' : World} {g : Nat} (h : Env w W b k v8 v9 vb L S) (hl : ∀ g, v8.ownBlock = some g ∨ v9.ownBlock = some g ∨ g = b ∨ vb.ownBlock = some g → g < W1) (hk : Kept w'' W1 g ks cn)
    (hf : Foot w w' (okf ks)) : Env w' W b k v8 v9 vb L S := by
  have key : ∀ g, g < W1 → okf ks g := fun g hg x hx e => by
    obtain ⟨i, hi⟩ := List.mem_iff_getElem?.1 hx
    have := ((hk.own i x hi).2.lt g e).1
    omega
  exact h.foot hf (fun g e => key g (hl g (.inl e))) (fun g e => key g (hl g (.inr (.inl e)))) (key b (hl b (.inr (.inr (.inl rfl))))) (fun g e => key g (hl g (.inr (.inr (.inr e)))))

/-- While the kept lists are appended to: all read as written over; those from i on are rows of their own. -/
structure KeptR (w : World) (W g : Nat) (ks : List Lst) (i : Nat) : Prop where
  read : ∀ q x, ks[q]? = some x → Slc w w.heap.size x.1 (hc (wt q x.2.2.length))
  own : ∀ q x, i ≤ q → ks[q]? = some x → w.ownsRow W 29 2 (lv x) x.2.2.length (hc (wt q x.2.2.length))
  row : ∀ q x, ks[q]? = some x → w.cell? ⟨g, q, none⟩ = some (lv x)
  lt : g < w.heap.size
theorem Kept.toR {w : World} {W g : Nat} {ks : List Lst} {cn : Nat → List Hit} (h : Kept w W g ks cn) (hw : ∀ q x, ks[q]? = some x → cn q = wt q x.2.2.length) : KeptR w W g ks 0 :=
  ⟨fun q x hq => by have := (h.own q x hq).2; rw [hw q x hq] at this; exact slc_own this, fun q x _ hq => by have := (h.own q x hq).2; rwa [hw q x hq] at this, h.row, h.lt⟩
theorem own_of {w : World} {W n : Nat} {x : Lst} {X : List Hit} (h : w.ownsRow W 29 2 (lv x) n (hc X)) {g : Nat} (hg : (lv x).ownBlock = some g) : x.1 = some ⟨g, 0, none⟩ := by
  rcases h.2 with ⟨h', _⟩ | ⟨g', cap, cur, h', _⟩
  · obtain ⟨A, c, M⟩ := x
    simp only [lv, Value.slice.injEq] at h'
    obtain ⟨rfl, _, _⟩ := h'
    simp [lv, Value.ownBlock] at hg
  · obtain ⟨A, c, M⟩ := x
    simp only [lv, Value.slice.injEq] at h'
    obtain ⟨rfl, _, _⟩ := h'
    simp [lv, Value.ownBlock] at hg
    subst hg
    rfl

theorem env_okf2 {w : World} {W b W1 : Nat} {k : Int} {v8 v9 vb : Value} {L S : List Hit} {ks : List Lst} {w' : World} (h : Env w W b k v8 v9 vb L S) (hl : ∀ g, v8.ownBlock = some g ∨ v9.ownBlock = some g ∨ g = b ∨ vb.ownBlock = some g → g < W1) (key : ∀ g, g < W1 → okf ks g)
    (hf : Foot w w' (okf ks)) : Env w' W b k v8 v9 vb L S :=
  h.foot hf (fun g e => key g (hl g (.inl e))) (fun g e => key g (hl g (.inr (.inl e)))) (key b (hl b (.inr (.inr (.inl rfl))))) (fun g e => key g (hl g (.inr (.inr (.inr e)))))

theorem read_append {wr w6 : World} {W n : Nat} {Ax : Option Addr} {v v6 : Value} {X Y : List Hit} (hread : Slc wr wr.heap.size Ax (hc X)) (hA : ∀ g o, Ax = some ⟨g, o, none⟩ → o = 0) (hown6 : w6.ownsRow W 29 2 v6 n (hc (X ++ Y)))
    (hcase : (v6.ownBlock = v.ownBlock ∧ wr.grownBy w6 v.ownBlock) ∨ (Below wr.heap.size wr w6 ∧ ∀ g, v6.ownBlock = some g → wr.heap.size ≤ g)) : Slc w6 w6.heap.size Ax (hc X) := by
  intro hne
  obtain ⟨g, o, e, hg, hcell⟩ := hread hne
  obtain rfl := hA g o e
  rcases hcase with ⟨hb, hgr⟩ | ⟨hb, _⟩
  · refine ⟨g, 0, e, Nat.lt_of_lt_of_le hg hgr.size, fun j u hu => ?_⟩
    by_cases hv : v.ownBlock = some g
    · have := hown6.cells (g := g) (hb.trans hv) j u (by rw [hc_append, List.getElem?_append_left (List.getElem?_eq_some_iff.1 hu).1]; exact hu)
      rw [add_of0] at this
      exact this
    · exact (World.cell?_of_block (hgr.block g hg (fun e2 => hv e2.symm))).trans (hcell j u hu)
  · exact ⟨g, 0, e, Nat.lt_of_lt_of_le hg hb.size, fun j u hu => (hb.cell (p := ⟨g, 0 + j, none⟩) hg).trans (hcell j u hu)⟩

theorem KeptR.step {w w' : World} {W g j : Nat} {ks : List Lst} {x : Lst} (h : KeptR w W g ks j) (hs : Sep (ks.map lv)) (hx : ks[j]? = some x) (hg : okf ks g) (hf : Foot w w' (fun q => (lv x).ownBlock ≠ some q)) (hr : Slc w' w'.heap.size x.1 (hc (wt j x.2.2.length))) :
    KeptR w' W g ks (j + 1) := by
  refine ⟨fun q y hq => ?_, fun q y hjq hq => ?_, fun q y hq => ?_, Nat.lt_of_lt_of_le h.lt hf.size⟩
  · by_cases hqj : q = j
    · subst hqj
      rw [hx] at hq
      obtain rfl := Option.some.inj hq
      exact hr
    · intro hne
      obtain ⟨g', o, e, hg', hc'⟩ := h.read q y hq hne
      have hb : (lv y).ownBlock = some g' := by simp [lv, Value.ownBlock, e]
      exact ⟨g', o, e, Nat.lt_of_lt_of_le hg' hf.size, fun i u hu => (hf.cell (p := ⟨g', o + i, none⟩) hg' (sep_at hs hq hx hqj g' hb)).trans (hc' i u hu)⟩
  · exact hf.own (h.own q y (by omega) hq) fun g' e => sep_at hs hq hx (by omega) g' e
  · exact (hf.cell (p := ⟨g, q, none⟩) h.lt (hg x (List.mem_of_getElem? hx))).trans (h.row q y hq)

theorem foot_append {w0 w w' : World} {x v v' : Value} (hf : Foot w0 w (fun g => x.ownBlock ≠ some g)) (hv : v.ownBlock = x.ownBlock ∨ ∀ g, v.ownBlock = some g → w0.heap.size ≤ g)
    (hcase : (v'.ownBlock = v.ownBlock ∧ w.grownBy w' v.ownBlock) ∨ (Below w.heap.size w w' ∧ ∀ g, v'.ownBlock = some g → w.heap.size ≤ g)) :
    Foot w0 w' (fun g => x.ownBlock ≠ some g) ∧ (v'.ownBlock = x.ownBlock ∨ ∀ g, v'.ownBlock = some g → w0.heap.size ≤ g) := by
  rcases hcase with ⟨hb, hgr⟩ | ⟨hb, hg⟩
  · refine ⟨hf.grown hgr fun k hk e h => ?_, by rw [hb]; exact hv⟩
    rcases hv with hv | hv
    · exact h (hv ▸ e)
    · have := hv k e; omega
  · exact ⟨hf.trans (Foot.ofBelow hb _), .inr fun g e => by have := hg g e; have := hf.size; omega⟩

/-- The hits that are laid over the list handed in. -/
def pt (n : Nat) : List Hit := (List.range n).map fun (j : Nat) => (((j : Int), (j : Int) * 3) : Hit)
theorem pt_len (n : Nat) : (pt n).length = n := by simp [pt]
theorem pt_at {n j : Nat} (h : j < n) : (pt n)[j]? = some (((j : Int), (j : Int) * 3) : Hit) := by simp [pt, h]

/-- A block of these values. -/
def BlkU (xs : Array Value) : Rel.Fact := fun v wx => ∃ g, v = .slice (some ⟨g, 0, none⟩) xs.size xs.size ∧ Blk wx g 26 xs
theorem blkU_stable {xs : Array Value} : ∀ (v : Value) (wa wb : World), Below wa.heap.size wa wb → BlkU xs v wa → BlkU xs v wb :=
  fun _ _ _ hab ⟨g, e, h⟩ => ⟨g, e, h.below hab h.lt⟩
end Go.Proofs.Ytmddnilephneiaa.MemBase
