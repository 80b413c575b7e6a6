/-
  The compiler in plain Lean: the leaves of a query and its code.
  The emitter in memory: its block, its instructions, its phrases; what its calls leave alone.
  The walks of the emitter's put and land.
  Maps keyed by a leaf: sets of leaves, and the leaves' numbers.
-/
import Derived.Test.YtfpikilhbkeajaaGreatDoorCQry
import Derived.Test.YtfpikilhbkeajaaGreatDoorBase
import Derived.Deep.Cut
import Derived.Deep.RegionLawGrows
import Derived.Deep.AppendLies
import Derived.Test.YtfpikilhbkeajaaGreatDoorChecked
import Derived.Maps.OwnSet
import Derived.Maps.OwnOps
import Derived.Maps.RangeWalk
import Derived.DeepKeys4
set_option linter.unusedVariables false
set_option linter.unusedSimpArgs false
namespace Go.Proofs.YtfpikilhbkeajaaGreatDoor.EmitPlain
open Query

structure Lf where
  field : Int
  term : ByteArray
  deriving DecidableEq
instance : Inhabited Lf := ⟨⟨0, ByteArray.empty⟩⟩
structure Ins where
  op : Int
  a : Int
  b : Int
  deriving DecidableEq
instance : Inhabited Ins := ⟨⟨0, 0, 0⟩⟩
structure Nr where
  curs : List Int
  offs : List Int
  slop : Int
  deriving DecidableEq

def hleafs (h : Head) : List Lf :=
  if h.kind = 4 then [⟨h.field, h.text⟩] else if h.kind = 5 then h.terms.map fun t => ⟨h.field, t⟩ else []
mutual
def leafs : Qry → List Lf
  | .mk h ks => hleafs h ++ leafss ks
def leafss : List Qry → List Lf
  | [] => []
  | q :: r => leafs q ++ leafss r
end
theorem leafss_append (a b : List Qry) : leafss (a ++ b) = leafss a ++ leafss b := by
  induction a with
  | nil => rfl
  | cons q r ih => simp [leafss, ih]
theorem leafss_take {ks : List Qry} {i : Nat} {k : Qry} (h : ks[i]? = some k) : leafss (ks.take (i + 1)) = leafss (ks.take i) ++ leafs k := by
  rw [List.take_add_one, h, leafss_append]
  simp [leafss]

abbrev Lay := Nat → List Ins × List Nr
abbrev Lay? := Nat → List (Bool × Ins) × List Nr
def landR : List (Bool × Ins) → List Ins
  | [] => []
  | (true, i) :: r => { i with a := (r.length : Int) } :: landR r
  | (false, i) :: r => i :: landR r
theorem landR_length : ∀ l : List (Bool × Ins), (landR l).length = l.length
  | [] => rfl
  | (true, i) :: r => by simp [landR, landR_length r]
  | (false, i) :: r => by simp [landR, landR_length r]
def nop : Lay? := fun _ => ([], [])
def fin (f : Lay) : Lay? := fun n => ((f n).1.map fun i => (false, i), (f n).2)
def one (o a b : Int) : Lay? := fun _ => ([(false, ⟨o, a, b⟩)], [])
def skp (o : Int) : Lay? := fun _ => ([(true, ⟨o, 0, 0⟩)], [])
def cat (f g : Lay?) : Lay? := fun n => ((f n).1 ++ (g (n + (f n).2.length)).1, (f n).2 ++ (g (n + (f n).2.length)).2)
def shut (f : Lay?) : Lay := fun n => (landR (f n).1, (f n).2)
theorem cat_nop (f : Lay?) : (EmitPlain.cat f nop) = f := by funext n; simp [cat, nop]
theorem nop_cat (f : Lay?) : (EmitPlain.cat nop f) = f := by funext n; simp [cat, nop]
theorem cat_assoc (f g h : Lay?) : (EmitPlain.cat ((EmitPlain.cat f g)) h) = (EmitPlain.cat f ((EmitPlain.cat g h))) := by
  funext n; simp [cat, List.append_assoc, Nat.add_assoc]
def further (sk o : Option Int) (f : Lay) : Lay? :=
  (EmitPlain.cat (match sk with | some s => skp s | none => nop) (EmitPlain.cat (fin f) (match o with | some p => one p 0 0 | none => nop)))
def furthers (sk o : Option Int) : List Lay → Lay?
  | [] => nop
  | f :: r => (EmitPlain.cat (further sk o f) (furthers sk o r))
def chn (sk o : Option Int) : List Lay → Lay?
  | [] => nop
  | f :: r => (EmitPlain.cat (fin f) (furthers sk o r))
theorem furthers_append (sk o : Option Int) (a b : List Lay) : furthers sk o (a ++ b) = (EmitPlain.cat (furthers sk o a) (furthers sk o b)) := by
  induction a with
  | nil => rw [List.nil_append]; exact (nop_cat _).symm
  | cons f r ih => rw [List.cons_append, furthers, ih, furthers, cat_assoc]
theorem furthers_take {sk o : Option Int} {l : List Lay} {i : Nat} {f : Lay} (h : l[i]? = some f) : furthers sk o (l.take (i + 1)) = (EmitPlain.cat (furthers sk o (l.take i)) (further sk o f)) := by
  rw [List.take_add_one, h, furthers_append]
  simp [furthers, cat_nop]
theorem chn_take {sk o : Option Int} {l : List Lay} {i : Nat} {f : Lay} (h : l[i + 1]? = some f) : chn sk o (l.take (i + 1 + 1)) = (EmitPlain.cat (chn sk o (l.take (i + 1))) (further sk o f)) := by
  cases l with
  | nil => simp at h
  | cons g r =>
    simp only [List.getElem?_cons_succ] at h
    simp only [List.take_succ_cons, chn]
    rw [furthers_take h, cat_assoc]
theorem chn_one {sk o : Option Int} {l : List Lay} {f : Lay} (h : l[0]? = some f) : chn sk o (l.take 1) = fin f := by
  cases l with
  | nil => simp at h
  | cons g r =>
    simp only [List.getElem?_cons_zero, Option.some.injEq] at h
    subst h
    simp [chn, furthers, cat_nop]

def split (occur : List Int) (o : Int) {α : Type} (ks : List α) : List α := ((ks.zip occur).filter fun p => p.2 == o).map Prod.fst
def need (h : Head) (musts : Nat) : Int := if h.n = 0 ∧ musts = 0 then 1 else h.n
def someF (nd : Int) (full : Bool) (S : List Lay) : Lay := fun n =>
  let r := shut (chn (if nd = 1 ∧ full = false then some 16 else none) (if nd = 1 then some 7 else none) S) n
  (r.1 ++ (if 1 < nd then [⟨14, (S.length : Int), nd⟩] else []), r.2)
def listM (nd : Int) (full : Bool) (M S X : List Lay) : Lay? :=
  (EmitPlain.cat (chn (some 15) (some 6) M) (EmitPlain.cat (if 0 < nd then (EmitPlain.cat (if M = [] then nop else skp 15) (EmitPlain.cat (fin (someF nd full S)) (if M = [] then nop else one 6 0 0))) else nop) (EmitPlain.cat (furthers (some 15) (some 10) X) (if nd = 0 ∧ S ≠ [] ∧ full = true then (EmitPlain.cat (skp 15) (furthers none (some 9) S)) else nop))))
def listF (h : Head) (full : Bool) (K : List (Bool → Lay)) : Lay := fun n =>
  let M := split h.occur 1 K
  let S := split h.occur 0 K
  let X := split h.occur 2 K
  let nd := need h M.length
  if (S.length : Int) < nd then ([⟨1, 0, 0⟩], []) else shut (listM nd full (M.map (· full)) (S.map (· full)) (X.map (· false))) n
def kid0 (K : List (Bool → Lay)) (full : Bool) : Lay := match K with | [] => fun _ => ([], []) | k :: _ => k full
def wt (h : Head) (full : Bool) : Int := if full then h.weight else 0
def emitBy (x : Lf → Int) (h : Head) (full : Bool) (K : List (Bool → Lay)) : Lay := fun n =>
  if h.kind = 1 then ([⟨1, 0, 0⟩], [])
  else if h.kind = 2 then ([⟨2, 0, 0⟩], [])
  else if h.kind = 3 then ([⟨3, h.field, 0⟩], [])
  else if h.kind = 4 then ([⟨4, x ⟨h.field, h.text⟩, wt h full⟩], [])
  else if h.kind = 5 then ([⟨5, (n : Int), wt h full⟩], [⟨h.terms.map fun t => x ⟨h.field, t⟩, h.offs, h.n⟩])
  else if h.kind = 13 then (((kid0 K full) n).1 ++ (if full then [⟨12, wt h full, 0⟩] else []), ((kid0 K full) n).2)
  else if h.kind = 14 then (((kid0 K false) n).1 ++ (if full then [⟨13, wt h full, 0⟩] else []), ((kid0 K false) n).2)
  else if h.kind = 12 then (((kid0 K false) n).1 ++ [⟨11, 0, 0⟩], ((kid0 K false) n).2)
  else if h.kind = 11 then shut (chn (if full then none else some 16) (some 8) (K.map (· full))) n
  else if h.kind = 10 then listF h full K n
  else ([], [])
mutual
def emit (x : Lf → Int) : Qry → Bool → Lay
  | .mk h ks, full => emitBy x h full (emits x ks)
def emits (x : Lf → Int) : List Qry → List (Bool → Lay)
  | [] => []
  | k :: r => emit x k :: emits x r
end
theorem emits_map (x : Lf → Int) : ∀ ks : List Qry, emits x ks = ks.map (emit x)
  | [] => rfl
  | k :: r => by rw [emits, emits_map x r]; rfl
theorem emits_length (x : Lf → Int) (ks : List Qry) : (emits x ks).length = ks.length := by rw [emits_map]; simp
theorem emits_get {x : Lf → Int} {ks : List Qry} {i : Nat} {k : Qry} (h : ks[i]? = some k) : (emits x ks)[i]? = some (emit x k) := by rw [emits_map]; simp [h]
theorem split_map {α β : Type} (f : α → β) (oc : List Int) (o : Int) (ks : List α) : split oc o (ks.map f) = (split oc o ks).map f := by
  unfold split
  rw [List.zip_map_left, List.filter_map, List.map_map, List.map_map]
  rfl

def posns : List (Bool × Ins) → Nat → List Nat
  | [], _ => []
  | (true, _) :: r, o => o :: posns r (o + 1)
  | (false, _) :: r, o => posns r (o + 1)
theorem posns_append : ∀ (a b : List (Bool × Ins)) (o : Nat), posns (a ++ b) o = posns a o ++ posns b (o + a.length)
  | [], b, o => by simp [posns]
  | (true, i) :: r, b, o => by simp [posns, posns_append r b (o + 1), show o + 1 + r.length = o + (r.length + 1) by omega]
  | (false, i) :: r, b, o => by simp [posns, posns_append r b (o + 1), show o + 1 + r.length = o + (r.length + 1) by omega]
theorem posns_fin (l : List Ins) : ∀ o, posns (l.map fun i => (false, i)) o = [] := by
  induction l with
  | nil => intro o; rfl
  | cons i r ih => intro o; simp [posns, ih]
theorem posns_lt : ∀ (l : List (Bool × Ins)) (o : Nat), ∀ p ∈ posns l o, o ≤ p ∧ p < o + l.length
  | [], o, p, h => by simp [posns] at h
  | (true, i) :: r, o, p, h => by
    simp only [posns, List.mem_cons] at h
    rcases h with rfl | h
    · simp
    · have := posns_lt r (o + 1) p h; simp; omega
  | (false, i) :: r, o, p, h => by
    have := posns_lt r (o + 1) p h; simp; omega
def landed (C : List Ins) (ps : List Nat) : List Ins := ps.foldl (fun C p => C.modify p fun i => { i with a := (C.length : Int) - 1 - p }) C
theorem landed_length (ps : List Nat) : ∀ C : List Ins, (landed C ps).length = C.length := by
  induction ps with
  | nil => intro C; rfl
  | cons p r ih => intro C; show (landed _ r).length = _; rw [ih]; simp
theorem modify_at {α : Type} (f : α → α) (i : α) (r : List α) : ∀ pre : List α, (pre ++ i :: r).modify pre.length f = pre ++ f i :: r
  | [] => rfl
  | p :: pre => by simp [modify_at f i r pre]
theorem landed_posns : ∀ (l : List (Bool × Ins)) (pre : List Ins), landed (pre ++ l.map Prod.snd) (posns l pre.length) = pre ++ landR l
  | [], pre => by simp [landed, posns, landR]
  | (false, i) :: r, pre => by
    have := landed_posns r (pre ++ [i])
    simpa [posns, landR, landed] using this
  | (true, i) :: r, pre => by
    have := landed_posns r (pre ++ [{ i with a := (r.length : Int) }])
    simp only [List.length_append, List.length_singleton, List.append_assoc, List.singleton_append] at this
    simp only [posns, landR, landed, List.foldl_cons, List.map_cons]
    rw [← this]
    unfold landed
    congr 1
    rw [modify_at]
    congr 2
    rw [show (((pre ++ i :: List.map Prod.snd r).length : Nat) : Int) - 1 - pre.length = r.length by simp; omega]
end Go.Proofs.YtfpikilhbkeajaaGreatDoor.EmitPlain

namespace Go.Proofs.YtfpikilhbkeajaaGreatDoor.EmitBase
set_option maxRecDepth 100000
open Go.RowKit Go.PlainAid Base Query EmitPlain

def emT (t : TypeId) : Prop := t = 71 ∨ t = 84 ∨ t = 86
structure Keeps (E : Nat) (w w' : World) : Prop where
  os : w'.os = w.os
  tape : w'.tape = w.tape
  output : w'.output = w.output
  size : w.heap.size ≤ w'.heap.size
  block : ∀ k, k < w.heap.size → (k < E ∨ ∀ cs t fr, w.heap[k]? = some (.cells cs t fr) → ¬ emT t) → w'.heap[k]? = w.heap[k]?

section
variable {E : Nat} {w w' w'' : World}
theorem Keeps.refl (E : Nat) (w : World) : Keeps E w w := ⟨rfl, rfl, rfl, Nat.le_refl _, fun _ _ _ => rfl⟩
theorem Keeps.trans (h : Keeps E w w') (k : Keeps E w' w'') : Keeps E w w'' :=
  ⟨k.os.trans h.os, k.tape.trans h.tape, k.output.trans h.output, Nat.le_trans h.size k.size, fun i hi hc => by
    have e := h.block i hi hc
    rw [← e]
    refine k.block i (Nat.lt_of_lt_of_le hi h.size) ?_
    rcases hc with hc | hc
    · exact .inl hc
    · exact .inr fun cs t fr h' => hc cs t fr (by rw [← e]; exact h')⟩
theorem Keeps.below (h : Keeps E w w') (hE : E ≤ w.heap.size) : Below E w w' := ⟨h.os, h.tape, h.output, h.size, fun k hk => h.block k (Nat.lt_of_lt_of_le hk hE) (.inl hk)⟩
theorem Keeps.of_below (h : Below w.heap.size w w') (E : Nat) : Keeps E w w' := ⟨h.os, h.tape, h.output, h.size, fun k hk _ => h.block k hk⟩
theorem Keeps.of_grown {row : Option Nat} (h : w.grownBy w' row) (hr : ∀ k, row = some k → E ≤ k ∧ ∃ cs t fr, w.heap[k]? = some (.cells cs t fr) ∧ emT t) : Keeps E w w' :=
  ⟨h.os, h.tape, h.output, h.size, fun k hk hc => by
    refine h.block k hk fun e => ?_
    obtain ⟨h1, cs, t, fr, h2, h3⟩ := hr k e.symm
    rcases hc with hc | hc
    · omega
    · exact hc cs t fr h2 h3⟩
theorem Keeps.alloc (h : Keeps E w w') (o : Obj) : Keeps E w (w'.alloc o) := h.trans (.of_below ((Below.refl _ _).alloc (Nat.le_refl _) o) E)
theorem Keeps.drew (h : Keeps E w w') : Keeps E w w'.drew := h.trans (.of_below (Below.refl _ _).drew E)
theorem Keeps.set_ {g : Nat} {t : TypeId} {cs : Array Value} (h : Keeps E w w') (hb : Blk w' g t cs) (ht : emT t) (hg : E ≤ g) (i : Nat) (u : Value) : Keeps E w (w'.setCell ⟨g, i, none⟩ u) :=
  h.trans (.of_grown (row := some g) ⟨rfl, rfl, rfl, by simp, fun k _ hk => Below.heap_setCell w' _ u k (fun e => hk (by rw [e]))⟩ fun k hk => by
    obtain rfl := Option.some.inj hk
    exact ⟨hg, cs, t, _, hb, ht⟩)
theorem Keeps.blk {g : Nat} {t : TypeId} {cs : Array Value} (h : Keeps E w w') (hb : Blk w g t cs) (ht : ¬ emT t) : Blk w' g t cs :=
  (h.block g hb.lt (.inr fun cs' t' fr h' => by
    unfold Blk at hb
    rw [hb] at h'
    rw [← (Obj.cells.inj (Option.some.inj h')).2.1]
    exact ht)).trans hb
theorem Keeps.own {base size n : Nat} {e : TypeId} {v : Value} {xs : List Value} (h : Keeps E w w') (ho : w.ownsRow base e size v n xs) (ht : ¬ emT e) : w'.ownsRow base e size v n xs := by
  refine ⟨ho.1, ?_⟩
  rcases ho.2 with hn | ⟨g, cap, cur, rfl, hb, hgg, rest⟩
  · exact .inl hn
  · refine .inr ⟨g, cap, cur, rfl, hb, (h.block g ?_ (.inr fun cs' t' fr h' => ?_)).trans hgg, rest⟩
    · exact (Array.getElem?_eq_some_iff.1 hgg).1
    · rw [hgg] at h'
      rw [← (Obj.cells.inj (Option.some.inj h')).2.1]
      exact ht
end
theorem int_plain : ¬ emT 3 := by unfold emT; decide
theorem own_lower {w : World} {B B' size n : Nat} {e : TypeId} {v : Value} {xs : List Value} (h : w.ownsRow B e size v n xs) (hB : B' ≤ B) : w.ownsRow B' e size v n xs := by
  refine ⟨h.1, ?_⟩
  rcases h.2 with h' | ⟨g, cap, cur, h1, h2, h3⟩
  · exact .inl h'
  · exact .inr ⟨g, cap, cur, h1, Nat.le_trans hB h2, h3⟩
theorem own_setFar {w : World} {base size n : Nat} {e : TypeId} {v : Value} {xs : List Value} (h : w.ownsRow base e size v n xs) {p : Addr} (hp : v.ownBlock ≠ some p.block) (u : Value) : (w.setCell p u).ownsRow base e size v n xs :=
  h.kept (row := some p.block) ⟨rfl, rfl, rfl, by simp, fun k _ hk => Below.heap_setCell w p u k (fun e => hk (by rw [e]))⟩ (.inr hp)
theorem own_far {w : World} {base size n : Nat} {e : TypeId} {v : Value} {xs : List Value} (h : w.ownsRow base e size v n xs) {k : Nat} (hk : k < base) : v.ownBlock ≠ some k := fun e => by have := (h.lt k e).1; omega
theorem rows_apart {w : World} {B B' s s' n n' : Nat} {e e' : TypeId} {v v' : Value} {xs ys : List Value} (h : w.ownsRow B e s v n xs) (h' : w.ownsRow B' e' s' v' n' ys) (hne : e ≠ e') : v'.ownBlock = none ∨ v'.ownBlock ≠ v.ownBlock := by
  rcases h'.2 with ⟨rfl, _⟩ | ⟨g', cap', cur', rfl, _, hg', _⟩
  · exact .inl rfl
  · refine .inr fun hk => ?_
    rcases h.2 with ⟨rfl, _⟩ | ⟨g, cap, cur, rfl, _, hg, _⟩
    · simp [Value.ownBlock] at hk
    · simp only [Value.ownBlock, Option.some.injEq] at hk
      subst hk
      rw [hg'] at hg
      exact hne (Obj.cells.inj (Option.some.inj hg)).2.1.symm
theorem own_type {w : World} {base size n : Nat} {e : TypeId} {v : Value} {xs : List Value} (h : w.ownsRow base e size v n xs) : ∀ k, v.ownBlock = some k → base ≤ k ∧ ∃ cs fr, w.heap[k]? = some (.cells cs e fr) := fun k hk => by
  rcases h.2 with ⟨rfl, _⟩ | ⟨g, cap, cur, rfl, hb, hg, _⟩
  · simp [Value.ownBlock] at hk
  · simp only [Value.ownBlock, Option.some.injEq] at hk
    subst hk
    exact ⟨hb, _, _, hg⟩

theorem step_append_kept {P : Program} {ops : Array Oper} {o : Oper} {a : Act} {w : World} {K : Act → World → Prop} {Q : Exit → Act → World → Prop} {E : Prop} (hgd : o.guard = none) (s x : Operand) (t : TypeId)
    (ho : o.op = .call { callee := .builtin .append, args := #[s, x], argTypes := #[t, t] })
    (base : Nat) (e : TypeId) (i : TypeInfo) (z : Value) (size bytes : Nat) (ht : P.underlying t = some (.slice e)) (hi : P.info? e = some i) (hz : i.zero = some z)
    (hsize : i.size = size) (hby : i.bytes = bytes) (hzs : z.cells.size = size) (hsz : 0 < size)
    (v : Value) (n : Nat) (xs : List Value) (hs : a.eval s = v) (hown : w.ownsRow base e size v n xs)
    (ad : Addr) (m c : Nat) (news : List Value) (hx : a.eval x = .slice (some ad) m c) (hl : news.length = m * size) (hnews : ∀ j u, news[j]? = some u → w.cell? (ad.add j) = some u) (h1 : ∀ u ∈ news, u.oneCell' = true)
    (hm : 0 < m) (h63 : n + m ≤ maxLen) (hbytes : (n + m) * bytes ≤ 140737488355328) (hbase : base ≤ w.heap.size)
    (h : ∀ g cap w', w'.ownsRow base e size (.slice (some ⟨g, 0, none⟩) (n + m) cap) (n + m) (xs ++ news) → ((v.ownBlock = some g ∧ w.grownBy w' (some g)) ∨ (w.heap.size ≤ g ∧ w.grownBy w' none)) → K (a.put o.dst (.slice (some ⟨g, 0, none⟩) (n + m) cap)) w') :
    if Region.wanted o (yielded ops a.tmps) = true then Oper.wp P o a w K Q else E := by
  have hlen := hown.1
  have low : ∀ {v' : Value} {w' : World}, w'.ownsRow w.heap.size e size v' (n + m) (xs ++ news) → w.grownBy w' none → K (a.put o.dst v') w' := fun {v' w'} h2 h3 => by
    obtain ⟨g, cap, rfl, hg, _⟩ := h2.form (by omega)
    exact h g cap w' (own_lower h2 hbase) (.inr ⟨hg, h3⟩)
  rcases hown.2 with ⟨rfl, rfl⟩ | ⟨g, cap, cur, rfl, hbg, hg, hnc, hcm, hcs, htk⟩
  · have : xs = [] := List.length_eq_zero_iff.1 (by simpa using hlen)
    subst this
    exact step_append_grows hgd s x t ho e i z size bytes ht hi hz hsize hby hzs hsz none 0 0 [] hs (fun _ => ⟨rfl, rfl⟩) (by simp) (fun b hb => by cases hb) ad m c news hx hl hnews h1 (by omega) (by omega) hbytes (fun v' w' h2 h3 => low h2 h3)
  · by_cases hroom : n + m ≤ cap
    · have hw : Region.wanted o (yielded ops a.tmps) = true := by simp [Region.wanted, hgd]
      rw [if_pos hw]
      obtain ⟨w', hrun, r1, r2⟩ := run_append_fits (P := P) (w := w) base t o.type e i size ht hi hsize g n cap xs hown ad m c news hl hnews h1 hroom
      unfold Oper.wp execOp
      simp only [ho, resolve, invoke, builtin, Sem.run_bind, Sem.run_pure, Result.andThen_ok, List.map_toArray, List.map_cons, List.map_nil, hs, hx, hrun]
      exact h g cap w' r1 (.inl ⟨rfl, r2⟩)
    · exact step_append_grows hgd s x t ho e i z size bytes ht hi hz hsize hby hzs hsz (some ⟨g, 0, none⟩) n cap xs hs (fun hn => by cases hn) hlen
        (fun b hb j u hu => by
          cases hb
          have := hown.cells (g := g) rfl j u hu
          exact this) ad m c news hx hl hnews h1 (by omega) h63 hbytes (fun v' w' h2 h3 => low h2 h3)

def insC (i : Ins) : List Value := [.int .i64 i.op, .int .u64 i.a, .int .u64 i.b]
def insCs (l : List Ins) : List Value := (l.map insC).flatten
theorem insCs_app (a b : List Ins) : insCs (a ++ b) = insCs a ++ insCs b := by simp [insCs]
theorem insCs_one (i : Ins) : insCs [i] = insC i := by simp [insCs]
theorem insCs_len (l : List Ins) : (insCs l).length = l.length * 3 := by
  induction l with
  | nil => rfl
  | cons i r ih => rw [show i :: r = [i] ++ r from rfl, insCs_app, insCs_one, List.length_append, ih]; simp [insC]; omega

def SlcT (w : World) (t : TypeId) (A : Option Addr) (xs : List Value) : Prop :=
  ∃ g o cs fr, A = some ⟨g, o, none⟩ ∧ w.heap[g]? = some (.cells cs t fr) ∧ ∀ j u, xs[j]? = some u → w.cell? ⟨g, o + j, none⟩ = some u
theorem cell_block {w w' : World} {g : Nat} (h : w'.heap[g]? = w.heap[g]?) (i : Nat) : w'.cell? ⟨g, i, none⟩ = w.cell? ⟨g, i, none⟩ := by
  simp [World.cell?, h]
theorem SlcT.grown {w w' : World} {t : TypeId} {A : Option Addr} {xs : List Value} {row : Option Nat} (h : SlcT w t A xs) (hg : w.grownBy w' row) (hr : ∀ a k, A = some a → row = some k → a.block ≠ k) : SlcT w' t A xs := by
  obtain ⟨g, o, cs, fr, rfl, hgg, hc⟩ := h
  have hb := hg.block g (Array.getElem?_eq_some_iff.1 hgg).1 (fun e => hr _ g rfl e.symm rfl)
  exact ⟨g, o, cs, fr, rfl, hb.trans hgg, fun j u hu => (cell_block hb _).trans (hc j u hu)⟩
theorem SlcT.kept {E : Nat} {w w' : World} {t : TypeId} {A : Option Addr} {xs : List Value} (h : SlcT w t A xs) (hk : Keeps E w w') (ht : ¬ emT t) : SlcT w' t A xs := by
  obtain ⟨g, o, cs, fr, e, hg, hc⟩ := h
  have hb := hk.block g (Array.getElem?_eq_some_iff.1 hg).1 (.inr fun cs' t' fr' h' => by
    rw [hg] at h'
    rw [← (Obj.cells.inj (Option.some.inj h')).2.1]
    exact ht)
  exact ⟨g, o, cs, fr, e, hb.trans hg, fun j u hu => (cell_block hb _).trans (hc j u hu)⟩
theorem slcT_own {w : World} {base n : Nat} {e : TypeId} {A : Option Addr} {c : Nat} {xs : List Value} {size : Nat} (h : w.ownsRow base e size (.slice A n c) n xs) (hn : 0 < n) : SlcT w e A xs := by
  rcases h.2 with ⟨h', h0⟩ | ⟨g, cap, cur, h', _, hg, _⟩
  · omega
  · have hh := h.cells (g := g) (by rw [h']; rfl)
    simp only [Value.slice.injEq] at h'
    obtain ⟨rfl, _, rfl⟩ := h'
    refine ⟨g, 0, _, _, rfl, hg, fun j u hu => ?_⟩
    have := hh j u hu
    rw [Addr.add_lit] at this
    exact this

def NrV (w : World) (n : Nr) (cs : List Value) : Prop :=
  ∃ A1 c1 A2 c2, cs = [.slice A1 n.curs.length c1, .slice A2 n.offs.length c2, .int .i64 n.slop] ∧ SlcT w 3 A1 (ints n.curs) ∧ SlcT w 3 A2 (ints n.offs)
theorem NrV.kept {E : Nat} {w w' : World} {n : Nr} {cs : List Value} (h : NrV w n cs) (hk : Keeps E w w') : NrV w' n cs := by
  obtain ⟨A1, c1, A2, c2, e, h1, h2⟩ := h
  exact ⟨A1, c1, A2, c2, e, h1.kept hk int_plain, h2.kept hk int_plain⟩
theorem NrV.grown {w w' : World} {n : Nr} {cs : List Value} {row : Option Nat} (h : NrV w n cs) (hg : w.grownBy w' row) (hr : ∀ v ∈ cs, ∀ k, row = some k → v.ownBlock ≠ some k) : NrV w' n cs := by
  obtain ⟨A1, c1, A2, c2, rfl, h1, h2⟩ := h
  exact ⟨A1, c1, A2, c2, rfl, h1.grown hg fun a k e hk e2 => hr (.slice A1 n.curs.length c1) (by simp) k hk (by rw [e]; simp [Value.ownBlock, e2]), h2.grown hg fun a k e hk e2 => hr (.slice A2 n.offs.length c2) (by simp) k hk (by rw [e]; simp [Value.ownBlock, e2])⟩
theorem NrV.lt {w : World} {n : Nr} {cs : List Value} (h : NrV w n cs) : ∀ v ∈ cs, ∀ k, v.ownBlock = some k → k < w.heap.size := by
  obtain ⟨A1, c1, A2, c2, rfl, ⟨g1, o1, _, _, rfl, h1, _⟩, g2, o2, _, _, rfl, h2, _⟩ := h
  intro v hv k hk
  simp only [List.mem_cons, List.not_mem_nil, or_false] at hv
  rcases hv with rfl | rfl | rfl
  · simp only [Value.ownBlock, Option.some.injEq] at hk
    subst hk
    exact (Array.getElem?_eq_some_iff.1 h1).1
  · simp only [Value.ownBlock, Option.some.injEq] at hk
    subst hk
    exact (Array.getElem?_eq_some_iff.1 h2).1
  · simp [Value.ownBlock] at hk
def NrsV (w : World) (ns : List Nr) (nc : List Value) : Prop := ∃ f : Nat → List Value, nc = ((List.range ns.length).map f).flatten ∧ ∀ i n, ns[i]? = some n → NrV w n (f i)
theorem NrsV.kept {E : Nat} {w w' : World} {ns : List Nr} {nc : List Value} (h : NrsV w ns nc) (hk : Keeps E w w') : NrsV w' ns nc := by
  obtain ⟨f, e, h⟩ := h
  exact ⟨f, e, fun i n hn => (h i n hn).kept hk⟩
theorem NrsV.grown {w w' : World} {ns : List Nr} {nc : List Value} {row : Option Nat} (h : NrsV w ns nc) (hg : w.grownBy w' row) (hr : ∀ v ∈ nc, ∀ k, row = some k → v.ownBlock ≠ some k) : NrsV w' ns nc := by
  obtain ⟨f, rfl, h⟩ := h
  refine ⟨f, rfl, fun i n hn => (h i n hn).grown hg fun v hv => hr v ?_⟩
  exact List.mem_flatten.2 ⟨f i, List.mem_map.2 ⟨i, List.mem_range.2 (List.getElem?_eq_some_iff.1 hn).1, rfl⟩, hv⟩
theorem NrsV.lt {w : World} {ns : List Nr} {nc : List Value} (h : NrsV w ns nc) : ∀ v ∈ nc, ∀ k, v.ownBlock = some k → k < w.heap.size := by
  obtain ⟨f, rfl, h⟩ := h
  intro v hv
  obtain ⟨l, hl, hvl⟩ := List.mem_flatten.1 hv
  obtain ⟨i, hi, rfl⟩ := List.mem_map.1 hl
  exact (h i _ (List.getElem?_eq_getElem (List.mem_range.1 hi))).lt v hvl
theorem NrsV.nil (w : World) : NrsV w [] [] := ⟨fun _ => [], rfl, fun i n h => by simp at h⟩
theorem NrsV.snoc {w : World} {ns : List Nr} {nc cs : List Value} {n : Nr} (h : NrsV w ns nc) (hn : NrV w n cs) : NrsV w (ns ++ [n]) (nc ++ cs) := by
  obtain ⟨f, rfl, h⟩ := h
  refine ⟨fun i => if i < ns.length then f i else cs, ?_, fun i m hm => ?_⟩
  · rw [List.length_append, List.length_singleton, List.range_succ, List.map_append, List.flatten_append]
    congr 1
    · congr 1
      apply List.map_congr_left
      intro i hi
      simp only [List.mem_range] at hi
      rw [if_pos hi]
    · simp
  · by_cases hi : i < ns.length
    · rw [List.getElem?_append_left hi] at hm
      show NrV w m (if i < ns.length then f i else cs)
      rw [if_pos hi]
      exact h i m hm
    · rw [List.getElem?_append_right (by omega)] at hm
      have : i - ns.length = 0 := by
        rcases Nat.eq_zero_or_pos (i - ns.length) with h | h
        · exact h
        · rw [List.getElem?_eq_none (by simp; omega)] at hm; cases hm
      rw [this] at hm
      simp only [List.getElem?_cons_zero, Option.some.injEq] at hm
      subst hm
      show NrV w n (if i < ns.length then f i else cs)
      rw [if_neg hi]
      exact hn

structure EH where
  avgs : Value
  curs : Value
  all : Bool
  drive : Value
  mb : Nat
def emC (h : EH) (nv cv : Value) : Array Value := #[h.avgs, h.curs, nv, .bool h.all, h.drive, .slice none 0 0, .map (some h.mb), cv]
structure Em (w : World) (E : Nat) (h : EH) (L : List Ins) (NS : List Nr) (nc : List Value) (nv cv : Value) : Prop where
  blk : Blk w E 71 (emC h nv cv)
  code : w.ownsRow (E + 1) 84 3 cv L.length (insCs L)
  nears : w.ownsRow (E + 1) 86 3 nv NS.length nc
  rows : NrsV w NS nc
def NewS (w : World) (nc : List Value) : Prop := ∀ v ∈ nc, ∀ k, v.ownBlock = some k → w.heap.size ≤ k
def EmE (w w' : World) (E : Nat) (h : EH) (L : List Ins) (NS : List Nr) (nc : List Value) : Prop := Keeps E w w' ∧ ∃ nv cv nc', Em w' E h L NS (nc ++ nc') nv cv ∧ NewS w nc'
section
variable {w w' : World} {E : Nat} {h : EH} {L : List Ins} {NS : List Nr} {nc : List Value} {nv cv : Value}
theorem Em.lt (m : Em w E h L NS nc nv cv) : E < w.heap.size := m.blk.lt
theorem Em.grow (m : Em w E h L NS nc nv cv) (hb : Below w.heap.size w w') : Em w' E h L NS nc nv cv :=
  ⟨m.blk.below hb m.lt, own_below m.code hb, own_below m.nears hb, m.rows.kept (.of_below hb E)⟩
theorem Em.alloc (m : Em w E h L NS nc nv cv) (o : Obj) : Em (w.alloc o) E h L NS nc nv cv := m.grow ((Below.refl _ _).alloc (Nat.le_refl _) o)
theorem Em.drew (m : Em w E h L NS nc nv cv) : Em w.drew E h L NS nc nv cv := m.grow (Below.refl _ _).drew
theorem NewS.nil (w : World) : NewS w [] := fun _ h => by cases h
theorem NewS.mono {a b : World} {nc : List Value} (h : NewS b nc) (hs : a.heap.size ≤ b.heap.size) : NewS a nc := fun v hv k hk => Nat.le_trans hs (h v hv k hk)
theorem NewS.app {a : World} {nc nc' : List Value} (h : NewS a nc) (h' : NewS a nc') : NewS a (nc ++ nc') := fun v hv => (List.mem_append.1 hv).elim (h v) (h' v)
end
end Go.Proofs.YtfpikilhbkeajaaGreatDoor.EmitBase

namespace Go.Proofs.YtfpikilhbkeajaaGreatDoor.EmitPut
set_option maxRecDepth 100000
open Go.RowKit Go.PlainAid Base Query EmitPlain EmitBase

theorem insEl : Elem Tryz.prog 60 84 (.agg #[.int .i64 0, .int .u64 0, .int .u64 0]) 3 24 := .mk_ (by kernel_rfl) (by kernel_rfl) rfl (by decide)
section
variable {w w' : World} {E : Nat} {h : EH} {L : List Ins} {NS : List Nr} {nc : List Value} {nv cv : Value}
theorem Em.ins {w5 : World} {cv' : Value} {op a b : Int} (m : Em w E h L NS nc nv cv) (ho : w5.ownsRow (E + 1) 84 3 cv' (L.length + 1) (insCs L ++ insC ⟨op, a, b⟩)) (hg : w.grownBy w5 cv.ownBlock) :
    Blk w5 E 71 (emC h nv cv) ∧ Em (w5.setCell ⟨E, 7, none⟩ cv') E h (L ++ [⟨op, a, b⟩]) NS nc nv cv' ∧ Keeps E w (w5.setCell ⟨E, 7, none⟩ cv') := by
  have h1 := m.nears
  have h2 := m.rows
  have hk : Keeps E w w5 := .of_grown hg fun k hk => by
    obtain ⟨q1, cs, fr, q2⟩ := own_type m.code k hk
    exact ⟨by omega, cs, _, fr, q2, .inr (.inl rfl)⟩
  have K5 : Blk w5 E 71 (emC h nv cv) := m.blk.grown hg fun e => own_far m.code (Nat.lt_succ_self _) e.symm
  have ap := rows_apart m.code h1 (by decide)
  have hk2 := hk.set_ K5 (.inl rfl) (Nat.le_refl _) 7 cv'
  refine ⟨K5, ⟨?_, ?_, own_setFar (h1.kept hg ap) (p := ⟨E, 7, none⟩) (own_far h1 (Nat.lt_succ_self _)) _, h2.kept hk2⟩, hk2⟩
  · have := K5.set_ 7 cv'
    simpa [emC] using this
  · rw [List.length_append, insCs_app, insCs_one]
    exact own_setFar ho (p := ⟨E, 7, none⟩) (own_far ho (Nat.lt_succ_self _)) _
end
theorem wrap_len {n : Nat} (h : n ≤ 1099511627776) : IntKind.i64.wrap ((n + 1 : Nat) - 1 : Int) = n := by
  rw [IntWalk.i64_in _ (by omega)]; omega

theorem put_any (E : Nat) (h : EH) (L : List Ins) (NS : List Nr) (nc : List Value) (nv cv : Value) (op a b : Int) (w : World) (m : Em w E h L NS nc nv cv) (hl : L.length ≤ 1099511627776) :
    Calls Tryz.prog 23 #[.pointer (some ⟨E, 0, none⟩), .int .i64 op, .int .u64 a, .int .u64 b] w fun e w' => e = .returned (.int .i64 L.length) ∧ EmE w w' E h (L ++ [⟨op, a, b⟩]) NS nc := by
  obtain ⟨A, c, rfl⟩ := own_slice m.code
  have e7 : w.cell? ⟨E, 7, none⟩ = some (.slice A L.length c) := m.blk.cell 7
  have hE := m.lt
  go_enter Tryz.func23, Tryz.ntmps23
  go_upto_region 2 with ((at_builtin; refine wpList_append1 (base := E + 1) rfl _ _ rfl insEl m.code rfl rfl rfl rfl (by omega) (by unfold maxLen; omega) hE ?_; intro v' w5 ho hg hb; obtain ⟨K5, M6, q6⟩ := Em.ins m ho hg; obtain ⟨A5, c5, rfl⟩ := own_slice ho; have f5 : w5.frozen? ⟨E, 7, none⟩ = false := K5.frozen 7; have e5 : w5.cell? ⟨E, 7, none⟩ = some (.slice A L.length c) := K5.cell 7))
  have e6 : (w5.setCell ⟨E, 7, none⟩ (.slice A5 (L.length + 1) c5)).cell? ⟨E, 7, none⟩ = some (.slice A5 (L.length + 1) c5) := M6.blk.cell 7
  have wl := wrap_len hl
  go_wp2_with fail
  go_ret
  exact ⟨by simp [wl], q6, _, _, [], by rw [List.append_nil]; exact M6, .nil _⟩

theorem own_put {w : World} {base size n g cap i : Nat} {e : TypeId} {xs : List Value} (h : w.ownsRow base e size (.slice (some ⟨g, 0, none⟩) n cap) n xs) (u : Value) : (w.setCell ⟨g, i, none⟩ u).ownsRow base e size (.slice (some ⟨g, 0, none⟩) n cap) n (xs.set i u) := by
  refine ⟨by rw [List.length_set]; exact h.1, ?_⟩
  rcases h.2 with ⟨h', _⟩ | ⟨g', cap', cur, h', hb, hg, h1, h2, h3, h4⟩
  · cases h'
  · simp only [Value.slice.injEq, Option.some.injEq, Addr.mk.injEq, and_true] at h'
    obtain ⟨rfl, _, rfl⟩ := h'
    have hg2 : Blk w g e cur := hg
    refine .inr ⟨g, cap, cur.setIfInBounds i u, rfl, hb, hg2.set_ i u, h1, h2, by simpa using h3, ?_⟩
    rw [Array.toList_setIfInBounds, List.take_set, h4]
theorem insCs_poke (x : Int) : ∀ (L : List Ins) (p : Nat), insCs (L.modify p fun i => { i with a := x }) = (insCs L).set (p * 3 + 1) (.int .u64 x)
  | [], p => by simp [insCs]
  | i :: r, 0 => by simp [insCs, insC]
  | i :: r, p + 1 => by
    have ih := insCs_poke x r p
    show insC i ++ insCs (r.modify p _) = (insC i ++ insCs r).set _ _
    rw [ih, List.set_append_right _ _ (by simp [insC]; omega)]
    congr 2
    simp [insC]; omega
theorem own_num {w : World} {base size n : Nat} {e : TypeId} {A : Option Addr} {c : Nat} {xs : List Value} (h : w.ownsRow base e size (.slice A n c) n xs) (hn : 0 < n) : ∃ g, A = some ⟨g, 0, none⟩ ∧ base ≤ g ∧ (∃ cs, Blk w g e cs) ∧ ∀ j u, xs[j]? = some u → w.cell? ⟨g, j, none⟩ = some u := by
  rcases h.2 with ⟨h', h0⟩ | ⟨g, cap, cur, h', hb, hg, _⟩
  · omega
  · have hh := h.cells (g := g) (by rw [h']; rfl)
    simp only [Value.slice.injEq] at h'
    obtain ⟨rfl, _, rfl⟩ := h'
    refine ⟨g, rfl, hb, ⟨cur, hg⟩, fun j u hu => ?_⟩
    have := hh j u hu
    rw [Addr.add_lit, Nat.zero_add] at this
    exact this
theorem Em.poke {w : World} {E g c p : Nat} {h : EH} {L : List Ins} {NS : List Nr} {nc : List Value} {nv : Value} (m : Em w E h L NS nc nv (.slice (some ⟨g, 0, none⟩) L.length c)) (hg : E + 1 ≤ g) (hb : ∃ cs, Blk w g 84 cs) (x : Int) :
    Em (w.setCell ⟨g, p * 3 + 1, none⟩ (.int .u64 x)) E h (L.modify p fun i => { i with a := x }) NS nc nv (.slice (some ⟨g, 0, none⟩) L.length c) ∧ Keeps E w (w.setCell ⟨g, p * 3 + 1, none⟩ (.int .u64 x)) := by
  have h1 := m.nears
  have h2 := m.rows
  obtain ⟨cs, hb⟩ := hb
  have hk := (Keeps.refl E w).set_ hb (.inr (.inl rfl)) (by omega) (p * 3 + 1) (.int .u64 x)
  refine ⟨⟨m.blk.far (by show E ≠ g; omega) _, ?_, own_setFar h1 ?_ _, h2.kept hk⟩, hk⟩
  · rw [insCs_poke]
    have := own_put (i := p * 3 + 1) m.code (.int .u64 x)
    simpa using this
  · show nv.ownBlock ≠ some g
    rcases rows_apart m.code h1 (by decide) with e | e
    · rw [e]; simp
    · exact e

def nums (l : List Nat) : List Value := l.map fun p : Nat => .int .i64 (p : Int)
theorem nums_get {l : List Nat} {j p : Nat} (h : l[j]? = some p) : (nums l)[j]? = some (.int .i64 (p : Int)) := by simp [nums, h]
theorem nums_app (a b : List Nat) : nums (a ++ b) = nums a ++ nums b := by simp [nums]
theorem landed_take {C : List Ins} {ps : List Nat} {j p : Nat} (h : ps[j]? = some p) : landed C (ps.take (j + 1)) = (landed C (ps.take j)).modify p fun i => { i with a := (C.length : Int) - 1 - p } := by
  rw [List.take_add_one, h]
  show landed C (ps.take j ++ [p]) = _
  unfold landed
  rw [List.foldl_append]
  show List.modify _ _ _ = _
  rw [show (List.foldl (fun C p => C.modify p fun i => ({ i with a := (C.length : Int) - 1 - p } : Ins)) C (ps.take j)).length = C.length from landed_length _ _]

set_option maxHeartbeats 1000000 in
theorem land_any (E : Nat) (h : EH) (L : List Ins) (NS : List Nr) (nc : List Value) (nv cv : Value) (ps : List Nat) (A : Option Addr) (c : Nat) (w : World) (m : Em w E h L NS nc nv cv) (hl : L.length ≤ 1099511627776) (hs : 0 < ps.length → SlcT w 3 A (nums ps)) (hp : ∀ p ∈ ps, p < L.length) (hpn : ps.length ≤ 1099511627776) :
    Calls Tryz.prog 76 #[.pointer (some ⟨E, 0, none⟩), .slice A ps.length c] w fun e w' => e = .returned (.tuple #[]) ∧ EmE w w' E h (landed L ps) NS nc := by
  go_enter Tryz.func76, Tryz.ntmps76
  go_wp2_with fail
  go_loopw [8] (fun i wr => ∃ (j : Nat) (v1 v2 : Value), j ≤ ps.length ∧ i = .int .i64 j ∧ Keeps E w wr ∧ Em wr E h (landed L (ps.take j)) NS nc v1 v2) (fun i _ => ps.length - (intOf i).toNat)
  case atStart => exact ⟨0, _, _, Nat.zero_le _, rfl, .refl _ _, m⟩
  case round =>
    obtain ⟨j, v1, v2, hj, rfl, hk, hm⟩ := hrel
    obtain ⟨A2, c2, rfl⟩ := own_slice hm.code
    rcases Nat.lt_or_ge j ps.length with hlt | hge
    · obtain ⟨p, hpj⟩ : ∃ p, ps[j]? = some p := ⟨_, List.getElem?_eq_getElem hlt⟩
      have hpl := hp p (List.mem_of_getElem? hpj)
      have hLn : (landed L (ps.take j)).length = L.length := landed_length _ _
      obtain ⟨gs, os, css, frs, rfl, hgs, hcs⟩ := (hs (by omega)).kept hk int_plain
      obtain ⟨g, rfl, hg1, hgb, hgc⟩ := own_num hm.code (by omega)
      have x0 := hcs j _ (nums_get hpj)
      have e7 : wr.cell? ⟨E, 7, none⟩ = some (.slice (some ⟨g, 0, none⟩) (landed L (ps.take j)).length c2) := hm.blk.cell 7
      obtain ⟨cs0, hb0⟩ := hgb
      have hnx : ∃ u, wr.cell? ⟨g, p * 3 + 1, none⟩ = some u := by
        have hl2 : p * 3 + 1 < (insCs (landed L (ps.take j))).length := by rw [insCs_len, hLn]; omega
        exact ⟨_, hgc _ _ (List.getElem?_eq_getElem hl2)⟩
      obtain ⟨u0, x1⟩ := hnx
      have f1 : wr.frozen? ⟨g, p * 3 + 1, none⟩ = false := hb0.frozen _
      have w1 : IntKind.i64.wrap ((L.length : Int) - 1) = (L.length : Int) - 1 := IntWalk.i64_in _ (by omega)
      have w2 : IntKind.i64.wrap ((L.length : Int) - 1 - (p : Int)) = (L.length : Int) - 1 - (p : Int) := IntWalk.i64_in _ (by omega)
      have w3 : IntKind.u64.wrap ((L.length : Int) - 1 - (p : Int)) = (L.length : Int) - 1 - (p : Int) := IntWalk.u64_in _ (by omega)
      have i1 : (j : Int) < (ps.length : Int) := by omega
      have i2 : (p : Int) < (L.length : Int) := by omega
      rw [hLn] at e7
      obtain ⟨M2, K2⟩ := Em.poke (p := p) (by rw [hLn] at hm ⊢; exact hm) hg1 ⟨cs0, hb0⟩ ((L.length : Int) - 1 - (p : Int))
      go_upto_region 3 with fail
      go_region
      go_wp2_with fail
      go_roundw
      case rel => exact ⟨j + 1, _, _, by omega, by go_num, (hk.trans K2).drew, by rw [landed_take hpj]; rw [hLn] at M2; exact M2.drew⟩
      case measure => simp [intOf]; omega
    · obtain rfl : j = ps.length := by omega
      rw [List.take_length] at hm
      go_wp2_with fail
      go_end0
      exact ⟨rfl, hk, _, _, [], by rw [List.append_nil]; exact hm, .nil _⟩
end Go.Proofs.YtfpikilhbkeajaaGreatDoor.EmitPut

namespace Go.Proofs.YtfpikilhbkeajaaGreatDoor.LeafMap
set_option maxRecDepth 100000
open Go.RowKit Go.PlainAid Base Query EmitPlain
open Go.Maps (Keyed)

def lfV (l : Lf) : Value := .agg #[.int .i64 l.field, .string l.term]
structure LfOk (l : Lf) : Prop where
  field : (Lit.int .i64 l.field).wf = true
  term : l.term.size ≤ maxLen
theorem laidOut : laidOutB Tryz.prog = true := by kernel_rfl
theorem lawL : Keyed Tryz.prog 51 := Keyed.of_law (deep_law_laid laidOut (m := 2) (by omega) (of_decide_eq_true (by kernel_rfl)) (by kernel_rfl) (by rw [Tryz.underlying51]))
def lk (l : Lf) : Lit := .string (keyBytes [.int .i64 l.field, .string l.term.data.toList])
theorem keyLits_lf {l : Lf} (h : LfOk l) (d : Nat) : Tryz.prog.keyLits (d + 2) 51 [.int .i64 l.field, .string l.term] = some [.int .i64 l.field, .string l.term.data.toList] := by
  have c0 : Tryz.prog.cellsOf 51 = 2 := by kernel_rfl
  have c1 : Tryz.prog.cellsOf 3 = 1 := by kernel_rfl
  have c2 : Tryz.prog.cellsOf 9 = 1 := by kernel_rfl
  have h1 := h.field
  have h2 := h.term
  simp [Program.keyLits, Tryz.underlying51, Tryz.underlying3, Tryz.underlying9, c0, c1, c2, h1, h2]
theorem keyOf_lf {l : Lf} (h : LfOk l) : keyOf Tryz.prog 51 (lfV l) = some (lk l) := by
  have e1 : Tryz.prog.keyType 51 = true := by kernel_rfl
  have e2 : (lfV l).formed Tryz.prog 51 = true := by
    have c0 : Tryz.prog.cellsOf 51 = 2 := by kernel_rfl
    simp [lfV, Value.formed, Tryz.underlying51, c0]
  obtain ⟨d, hd⟩ : ∃ d, Tryz.prog.types.size + 1 = d + 2 := ⟨Tryz.prog.types.size - 1, by have : (2 : Nat) ≤ Tryz.prog.types.size := of_decide_eq_true (by kernel_rfl); omega⟩
  unfold keyOf
  rw [Tryz.underlying51]
  show (if _ then _ else _) = _
  rw [e1, e2, hd]
  show Option.map _ (Tryz.prog.keyLits (d + 2) 51 [.int .i64 l.field, .string l.term]) = _
  rw [keyLits_lf h]
  rfl
theorem lk_key {l : Lf} (h : LfOk l) : WideAt.IsKeyLit (lk l) := lawL.key (keyOf_lf h)
theorem lk_inj {a b : Lf} (ha : LfOk a) (hb : LfOk b) (h : lk a = lk b) : a = b := by
  have := lawL.inj (keyOf_lf ha) (by rw [h]; exact keyOf_lf hb)
  obtain ⟨f1, t1⟩ := a
  obtain ⟨f2, t2⟩ := b
  simpa [lfV] using this
theorem lk_ne {a b : Lf} (ha : LfOk a) (hb : LfOk b) (h : a ≠ b) : lk a ≠ lk b := fun e => h (lk_inj ha hb e)
theorem keyOf_inv {v : Value} {kl : Lit} (h : keyOf Tryz.prog 51 v = some kl) : ∃ l, LfOk l ∧ v = lfV l ∧ kl = lk l := by
  have c0 : Tryz.prog.cellsOf 51 = 2 := by kernel_rfl
  have c1 : Tryz.prog.cellsOf 3 = 1 := by kernel_rfl
  have c2 : Tryz.prog.cellsOf 9 = 1 := by kernel_rfl
  have h0 := h
  unfold keyOf at h
  rw [Tryz.underlying51] at h
  replace h : (if (Tryz.prog.keyType 51 && v.formed Tryz.prog 51) = true then (Tryz.prog.keyLits (Tryz.prog.types.size + 1) 51 v.cells.toList).map (fun ls => Lit.string (keyBytes ls)) else none) = some kl := h
  split at h
  · rename_i hf
    rw [Bool.and_eq_true] at hf
    have hf2 := hf.2
    obtain ⟨xs, rfl⟩ : ∃ xs, v = .agg xs := by
      cases v <;> simp [Value.formed, Tryz.underlying51] at hf2
      exact ⟨_, rfl⟩
    have hsz : xs.size = 2 := by simpa [Value.formed, Tryz.underlying51, c0] using hf2
    obtain ⟨xs⟩ := xs
    match xs, hsz with
    | [a, b], _ =>
      obtain ⟨ls, hls, rfl⟩ := Option.map_eq_some_iff.1 h
      replace hls : Tryz.prog.keyLits (Tryz.prog.types.size + 1) 51 [a, b] = some ls := hls
      generalize Tryz.prog.types.size = D at hls
      unfold Program.keyLits at hls
      rw [Tryz.underlying51] at hls
      simp [c0, c1, c2] at hls
      cases hA : Tryz.prog.keyLits D 3 [a] with
      | none => rw [hA] at hls; cases hls
      | some l1 =>
        cases hB : Tryz.prog.keyLits D 9 [b] with
        | none => rw [hA, hB] at hls; cases hls
        | some l2 =>
          rw [hA, hB] at hls
          obtain ⟨n, e1, rfl⟩ := keyLits_int' Tryz.underlying3 hA
          obtain ⟨t, e2, rfl⟩ := keyLits_string' Tryz.underlying9 hB
          cases e1; cases e2; cases hls
          cases D with
          | zero => simp [Program.keyLits] at hA
          | succ D =>
            have g1 : (Lit.int .i64 n).wf = true := by
              simp [Program.keyLits, Tryz.underlying3] at hA
              exact hA
            have g2 : t.size ≤ maxLen := by
              simp [Program.keyLits, Tryz.underlying9] at hB
              exact hB
            exact ⟨⟨n, t⟩, ⟨g1, g2⟩, rfl, rfl⟩
  · cases h

noncomputable abbrev Rd : Value → Option (DataW Unit × List MemPlace) := plainElem Tryz.prog 3
def IsSet (w : World) (b n : Nat) (S : List Lf) : Prop := ∃ D : DataW Unit, w.ownsMap Tryz.prog 51 Rd b n D ∧ ∀ l, LfOk l → Maps.has D (lk l) = decide (l ∈ S)
def IsNum (w : World) (b n : Nat) (x : Lf → Int) : Prop := ∃ D : DataW Unit, w.ownsMap Tryz.prog 51 Rd b n D ∧ ∀ l, LfOk l → D.atKey (lk l) (.lit (.int .i64 0)) = .lit (.int .i64 (x l))

theorem zeroI (w : World) : (zeroValue 3).run Tryz.prog w = .ok (.int .i64 0) w := by kernel_rfl
section
variable {w w' : World} {b n : Nat} {S : List Lf} {x : Lf → Int} {l : Lf}
theorem IsSet.made (w : World) : IsSet (w.alloc (.map #[] 0)) w.heap.size 0 [] := ⟨_, World.ownsMap_made w _ _ _, fun l _ => by simp [Maps.has_eq]⟩
theorem IsNum.made (w : World) : IsNum (w.alloc (.map #[] 0)) w.heap.size 0 (fun _ => 0) := ⟨_, World.ownsMap_made w _ _ _, fun l _ => rfl⟩
theorem IsSet.kept {row : Option Nat} (h : IsSet w b n S) (hg : w.grownBy w' row) (hb : some b ≠ row) : IsSet w' b n S := let ⟨D, h1, h2⟩ := h; ⟨D, h1.kept hg hb, h2⟩
theorem IsNum.kept {row : Option Nat} (h : IsNum w b n x) (hg : w.grownBy w' row) (hb : some b ≠ row) : IsNum w' b n x := let ⟨D, h1, h2⟩ := h; ⟨D, h1.kept hg hb, h2⟩
theorem IsSet.lt (h : IsSet w b n S) : b < w.heap.size := let ⟨_, h1, _⟩ := h; h1.lt
theorem IsNum.lt (h : IsNum w b n x) : b < w.heap.size := let ⟨_, h1, _⟩ := h; h1.lt
theorem IsSet.below {B : Nat} (h : IsSet w b n S) (hb : Below B w w') (hB : b < B) : IsSet w' b n S := by
  obtain ⟨D, ⟨es, clock, h1, h2⟩, h3⟩ := h
  exact ⟨D, ⟨es, clock, (hb.block b hB).trans h1, h2⟩, h3⟩
theorem IsNum.below {B : Nat} (h : IsNum w b n x) (hb : Below B w w') (hB : b < B) : IsNum w' b n x := by
  obtain ⟨D, ⟨es, clock, h1, h2⟩, h3⟩ := h
  exact ⟨D, ⟨es, clock, (hb.block b hB).trans h1, h2⟩, h3⟩
theorem ownsMap_isMap {D : DataW Unit} (h : w.ownsMap Tryz.prog 51 Rd b n D) : Maps.IsMap D := let ⟨_, _, _, _, _, e⟩ := h; ⟨_, e⟩
theorem IsSet.put (h : IsSet w b n S) (hl : LfOk l) (hn : n < maxLen) : ∃ w', (Instr.mapUpdate 66 (.map (some b)) (lfV l) (.int .i64 0)).run Tryz.prog w = .ok () w' ∧ IsSet w' b (n + 1) (S ++ [l]) ∧ w.grownBy w' (some b) := by
  obtain ⟨D, h1, h2⟩ := h
  obtain ⟨w', hrun, r1, r2⟩ := h1.update lawL Tryz.underlying66 hn (keyOf_lf hl) (plainElem_int (H := Unit) Tryz.underlying3 (a := 0) (by decide))
  refine ⟨w', hrun, ⟨_, r1, fun k hk => ?_⟩, r2⟩
  by_cases e : k = l
  · subst e
    rw [Maps.has_put_same (ownsMap_isMap h1) (lk_key hl)]
    simp
  · rw [Maps.has_put_other (lk_ne hk hl e), h2 k hk]
    simp [e]
theorem IsNum.put (h : IsNum w b n x) (hl : LfOk l) (hn : n < maxLen) {v : Int} (hv : (Lit.int .i64 v).wf = true) : ∃ w', (Instr.mapUpdate 66 (.map (some b)) (lfV l) (.int .i64 v)).run Tryz.prog w = .ok () w' ∧ IsNum w' b (n + 1) (fun k => if k = l then v else x k) ∧ w.grownBy w' (some b) := by
  obtain ⟨D, h1, h2⟩ := h
  obtain ⟨w', hrun, r1, r2⟩ := h1.update lawL Tryz.underlying66 hn (keyOf_lf hl) (plainElem_int (H := Unit) Tryz.underlying3 hv)
  refine ⟨w', hrun, ⟨_, r1, fun k hk => ?_⟩, r2⟩
  by_cases e : k = l
  · subst e
    rw [Maps.atKey_put_same (ownsMap_isMap h1) (lk_key hl)]
    simp
  · rw [Maps.atKey_put_other (lk_ne hk hl e), h2 k hk]
    simp [e]
theorem IsNum.look (h : IsNum w b n x) (hl : LfOk l) : (Instr.lookup 66 (.map (some b)) (lfV l) false).run Tryz.prog w = .ok (.int .i64 (x l)) w := by
  obtain ⟨D, h1, h2⟩ := h
  obtain ⟨c, hrun, hat, _⟩ := h1.lookup_int lawL Tryz.underlying66 Tryz.underlying3 (zeroI w) (keyOf_lf hl)
  rw [h2 l hl] at hat
  cases hat
  exact hrun
end
end Go.Proofs.YtfpikilhbkeajaaGreatDoor.LeafMap
