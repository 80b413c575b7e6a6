/-
  The walk of the emitter's near.
  Code as it is laid, its skips not told yet; lists of queries in memory; the contract of the emitter's query.
  The walk of the emitter's most.
  The walk of compile's split.
  The walk of list's closure: a skip, its place listed in a captured variable.
-/
import Derived.Test.YtfpikilhbkeajaaGreatDoorCEmitA
import Derived.Test.YtfpikilhbkeajaaGreatDoorCQry
import Derived.Test.YtfpikilhbkeajaaGreatDoorCRel
set_option linter.unusedVariables false
set_option linter.unusedSimpArgs false
namespace Go.Proofs.YtfpikilhbkeajaaGreatDoor.EmitNear
set_option maxRecDepth 100000
open Go.RowKit Go.PlainAid Base Query QrySize EmitPlain EmitBase EmitPut LeafMap

theorem step_look {ops : Array Oper} {o : Oper} {a : Act} {w : World} {K : Act → World → Prop} {Q : Exit → Act → World → Prop} {C : Prop} {b n : Nat} {x : Lf → Int} {f : Int} {t : ByteArray} (hgd : o.guard = none) (m y : Operand) (ho : o.op = .lookup 66 m y false)
    (hm : a.eval m = .map (some b)) (hy : a.eval y = .agg #[.int .i64 f, .string t]) (hN : IsNum w b n x) (hl : LfOk ⟨f, t⟩) (h : K (a.put o.dst (.int .i64 (x ⟨f, t⟩))) w) :
    if Region.wanted o (yielded ops a.tmps) = true then Oper.wp Tryz.prog o a w K Q else C := by
  have hw : Region.wanted o (yielded ops a.tmps) = true := by simp [Region.wanted, hgd]
  rw [if_pos hw]
  have hrun : (Instr.lookup 66 (.map (some b)) (.agg #[.int .i64 f, .string t]) false).run Tryz.prog w = .ok (.int .i64 (x ⟨f, t⟩)) w := hN.look hl
  unfold Oper.wp execOp
  simp only [ho, hm, hy, hrun, Sem.run_bind, Sem.run_pure, Result.andThen_ok]
  exact h
theorem intEl : Elem Tryz.prog 23 3 (.int .i64 0) 1 8 := .mk_ (by kernel_rfl) (by kernel_rfl) rfl (by decide)
theorem nearEl : Elem Tryz.prog 37 86 (.agg #[.slice none 0 0, .slice none 0 0, .int .i64 0]) 3 56 := .mk_ (by kernel_rfl) (by kernel_rfl) rfl (by decide)

def OwnV (B : Nat) (xs : List Int) (_ : List Value) : Rel.Fact := fun v w => ∃ A c, v = .slice A xs.length c ∧ w.ownsRow B 3 1 v xs.length (ints xs)
theorem ownV_stable {B : Nat} {xs : List Int} : ∀ l v w w', Below w.heap.size w w' → OwnV B xs l v w → OwnV B xs l v w' := fun _ v w w' hb ⟨A, c, e, h⟩ => ⟨A, c, e, own_below h hb⟩
def NewV (B : Nat) (_ : List Value) : Rel.Fact := fun v w => ∃ g, v = .pointer (some ⟨g, 0, none⟩) ∧ B ≤ g ∧ Blk w g 86 #[.slice none 0 0, .slice none 0 0, .int .i64 0]
theorem newV_stable {B : Nat} : ∀ l v w w', Below w.heap.size w w' → NewV B l v w → NewV B l v w' := fun _ v w w' hb ⟨g, e, hg, h⟩ => ⟨g, e, hg, h.below hb h.lt⟩
def BldV (n : Int) (l : List Value) : Rel.Fact := fun v _ => v = .agg #[.slice none 0 0, l.headD undef, .int .i64 n]
theorem bldV_stable {n : Int} : ∀ l v w w', Below w.heap.size w w' → BldV n l v w → BldV n l v w' := fun _ _ _ _ _ h => h
theorem app_own {o : Oper} {a : Act} {w : World} {K : Act → World → Prop} {Q : Exit → Act → World → Prop} {xs : List Int} {B : Nat} {ad : Addr} {c : Nat} (h0 : 0 < xs.length) (hn : xs.length ≤ 1099511627776) (hgd : o.guard = none) (s x : Operand)
    (ho : o.op = .call { callee := .builtin .append, args := #[s, x], argTypes := #[23, 23] }) (hs : a.eval s = .slice none 0 0) (hx : a.eval x = .slice (some ad) xs.length c)
    (hc : ∀ j u, (ints xs)[j]? = some u → w.cell? (ad.add j) = some u) (hB : B ≤ w.heap.size)
    (hK : ∀ v' w', OwnV B xs [] v' w' → Below w.heap.size w w' → K (a.put o.dst v') w') : Oper.wp Tryz.prog o a w K Q := by
  obtain ⟨ht, ⟨i, hi, hz, hsz, hby⟩, hzs, hpos⟩ := intEl
  have key := step_append_grows (ops := #[]) (E := True) (Q := Q) (K := K) hgd s x _ ho _ i _ 1 8 ht hi hz hsz hby hzs hpos none 0 0 [] hs (fun _ => ⟨rfl, rfl⟩) rfl (fun b hb j u hu => by simp at hu) ad xs.length c (ints xs) hx (by simp [ints]) hc (fun u hu => by obtain ⟨z, _, rfl⟩ := List.mem_map.1 hu; rfl) (by omega) (by unfold maxLen; omega) (by omega) (w := w) (fun v' w' h2 h3 => by
  simp only [Nat.zero_add, List.nil_append] at h2
  obtain ⟨A, c', rfl⟩ := own_slice h2
  exact hK _ _ ⟨A, c', rfl, own_lower h2 hB⟩ ⟨h3.os, h3.tape, h3.output, h3.size, fun k hk => h3.block k hk (fun e => by cases e)⟩)
  have hw : Region.wanted o (yielded #[] a.tmps) = true := by simp [Region.wanted, hgd]
  rw [if_pos hw] at key
  exact key

theorem own_ne {w : World} {base size n g : Nat} {e t : TypeId} {v : Value} {xs : List Value} {cs : Array Value} (h : w.ownsRow base e size v n xs) (hb : Blk w g t cs) (hne : e ≠ t) : v.ownBlock ≠ some g := fun hk => by
  obtain ⟨_, cs', fr, h'⟩ := own_type h g hk
  unfold Blk at hb
  rw [hb] at h'
  exact hne (Obj.cells.inj (Option.some.inj h')).2.1.symm
theorem grown_set {w : World} (g i : Nat) (u : Value) : w.grownBy (w.setCell ⟨g, i, none⟩ u) (some g) := ⟨rfl, rfl, rfl, by simp, fun k _ hk => Below.heap_setCell w _ u k (fun e => hk (by rw [e]))⟩
theorem grown_chain {a b c : World} {row : Option Nat} (h : a.grownBy b row) (k : b.grownBy c row) : a.grownBy c row :=
  ⟨k.os.trans h.os, k.tape.trans h.tape, k.output.trans h.output, Nat.le_trans h.size k.size, fun i hi hne => (k.block i (Nat.lt_of_lt_of_le hi h.size) hne).trans (h.block i hi hne)⟩
theorem grown_of_below {a b : World} (h : Below a.heap.size a b) (row : Option Nat) : a.grownBy b row := ⟨h.os, h.tape, h.output, h.size, fun k hk _ => h.block k hk⟩
theorem hat_grown {w wa w7 : World} {v : Value} {gg : Nat} (hb : Below w.heap.size w wa) (hat : (v.ownBlock = some gg ∧ wa.grownBy w7 (some gg)) ∨ (wa.heap.size ≤ gg ∧ wa.grownBy w7 none)) : w.grownBy w7 v.ownBlock := by
  rcases hat with ⟨e, hg⟩ | ⟨_, hg⟩
  · rw [e]; exact grown_chain (grown_of_below hb _) hg
  · exact grown_chain (grown_of_below hb _) (hg.but _)
def nrC (v vo : Value) (n : Int) : Array Value := #[v, vo, .int .i64 n]
structure Half (W2 wr : World) (g5 : Nat) (vo : Value) (n : Int) (cur : List Int) (k : Nat) (v1 : Value) : Prop where
  grown : W2.grownBy wr (some g5)
  blk : Blk wr g5 86 (nrC v1 vo n)
  own : wr.ownsRow W2.heap.size 3 1 v1 k (ints (cur.take k))
section
variable {W2 wr : World} {g5 : Nat} {vo : Value} {n : Int} {cur : List Int} {k : Nat} {v1 : Value}
theorem Half.alloc (h : Half W2 wr g5 vo n cur k v1) (o : Obj) : Half W2 (wr.alloc o) g5 vo n cur k v1 :=
  ⟨grown_chain h.grown (grown_of_below ((Below.refl _ _).alloc (Nat.le_refl _) o) _), h.blk.alloc o, h.own.alloc o⟩
theorem Half.drew (h : Half W2 wr g5 vo n cur k v1) : Half W2 wr.drew g5 vo n cur k v1 := ⟨grown_chain h.grown (grown_of_below (Below.refl _ _).drew _), h.blk, h.own⟩
theorem Half.more {w7 : World} {gg cap : Nat} {y : Int} (h : Half W2 wr g5 vo n cur k v1) (hy : cur[k]? = some y) (hg5 : g5 < W2.heap.size) (ho : w7.ownsRow W2.heap.size 3 1 (.slice (some ⟨gg, 0, none⟩) (k + 1) cap) (k + 1) (ints (cur.take k) ++ [.int .i64 y])) (hat : (v1.ownBlock = some gg ∧ wr.grownBy w7 (some gg)) ∨ (wr.heap.size ≤ gg ∧ wr.grownBy w7 none)) :
    Blk w7 g5 86 (nrC v1 vo n) ∧ Half W2 (w7.setCell ⟨g5, 0, none⟩ (.slice (some ⟨gg, 0, none⟩) (k + 1) cap)) g5 vo n cur (k + 1) (.slice (some ⟨gg, 0, none⟩) (k + 1) cap) := by
  have hb7 : Blk w7 g5 86 (nrC v1 vo n) := by
    rcases hat with ⟨e, hg⟩ | ⟨_, hg⟩
    · refine h.blk.grown hg fun e' => ?_
      have := own_ne h.own h.blk (by decide)
      rw [e] at this
      exact this e'.symm
    · exact h.blk.grown hg (by simp)
  have hgr : W2.grownBy w7 (some g5) := by
    rcases hat with ⟨e, hg⟩ | ⟨_, hg⟩
    · have hlt := (h.own.lt gg e).1
      exact ⟨hg.os.trans h.grown.os, hg.tape.trans h.grown.tape, hg.output.trans h.grown.output, Nat.le_trans h.grown.size hg.size, fun i hi hne => (hg.block i (Nat.lt_of_lt_of_le hi h.grown.size) (fun e' => by cases e'; omega)).trans (h.grown.block i hi hne)⟩
    · exact ⟨hg.os.trans h.grown.os, hg.tape.trans h.grown.tape, hg.output.trans h.grown.output, Nat.le_trans h.grown.size hg.size, fun i hi hne => (hg.block i (Nat.lt_of_lt_of_le hi h.grown.size) (by simp)).trans (h.grown.block i hi hne)⟩
  refine ⟨hb7, grown_chain hgr (grown_set _ _ _), ?_, ?_⟩
  · have := hb7.set_ 0 (.slice (some ⟨gg, 0, none⟩) (k + 1) cap)
    simpa [nrC] using this
  · rw [List.take_add_one, hy]
    have := own_setFar ho (p := ⟨g5, 0, none⟩) (own_far ho hg5) (.slice (some ⟨gg, 0, none⟩) (k + 1) cap)
    simpa [ints] using this
end
theorem Em.near {w w5 : World} {E : Nat} {h : EH} {L : List Ins} {NS : List Nr} {nv nv' cv : Value} {nc cs : List Value} {n : Nr} (m : Em w E h L NS nc nv cv) (hn : NrV w n cs)
    (ho : w5.ownsRow (E + 1) 86 3 nv' (NS.length + 1) (nc ++ cs)) (hg : w.grownBy w5 nv.ownBlock) :
    Blk w5 E 71 (emC h nv cv) ∧ Em (w5.setCell ⟨E, 2, none⟩ nv') E h L (NS ++ [n]) (nc ++ cs) nv' cv ∧ Keeps E w (w5.setCell ⟨E, 2, none⟩ nv') := by
  have h1 := m.nears
  have h2 := m.rows
  have hk : Keeps E w w5 := .of_grown hg fun k hk => by
    obtain ⟨q1, cs, fr, q2⟩ := own_type h1 k hk
    exact ⟨by omega, cs, _, fr, q2, .inr (.inr rfl)⟩
  have K5 : Blk w5 E 71 (emC h nv cv) := m.blk.grown hg fun e => own_far h1 (Nat.lt_succ_self _) e.symm
  have ap := rows_apart h1 m.code (by decide)
  have hk2 := hk.set_ K5 (.inl rfl) (Nat.le_refl _) 2 nv'
  refine ⟨K5, ⟨?_, own_setFar (m.code.kept hg ap) (p := ⟨E, 2, none⟩) (own_far m.code (Nat.lt_succ_self _)) _, ?_, (h2.kept hk2).snoc (hn.kept hk2)⟩, hk2⟩
  · have := K5.set_ 2 nv'
    simpa [emC] using this
  · rw [List.length_append]
    exact own_setFar ho (p := ⟨E, 2, none⟩) (own_far ho (Nat.lt_succ_self _)) _

set_option maxHeartbeats 2000000 in
theorem near_any (E : Nat) (h : EH) (L : List Ins) (NS : List Nr) (nc : List Value) (nv cv : Value) (x : Lf → Int) (nm : Nat) (hd : Head) (nk : Nat) (A1 A2 A3 A4 : Option Addr) (c1 c2 c3 c4 : Nat) (w : World) (m : Em w E h L NS nc nv cv) (hn : NS.length ≤ 1099511627776)
    (hx0 : IsNum w h.mb nm x) (hmb : h.mb < E) (hf : Hwf hd) (s1 : Slc w E A1 (strs hd.terms)) (s2 : Slc w E A2 (ints hd.offs)) (ht : hd.terms.length = hd.offs.length) (ho0 : 0 < hd.offs.length) (hol : hd.offs.length ≤ 1099511627776) :
    Calls Tryz.prog 49 #[.pointer (some ⟨E, 0, none⟩), .agg (qcells hd nk A1 A2 A3 A4 c1 c2 c3 c4)] w fun e w' => e = .returned (.int .u64 NS.length) ∧ EmE w w' E h L (NS ++ [⟨hd.terms.map fun t => x ⟨hd.field, t⟩, hd.offs, hd.n⟩]) nc := by
  obtain ⟨C, hC⟩ : ∃ C, C = qcells hd nk A1 A2 A3 A4 c1 c2 c3 c4 := ⟨_, rfl⟩
  obtain ⟨g1, o1, rfl, hg1, hc1⟩ := s1 (by intro e; have := congrArg List.length e; simp [strs] at this; rw [this] at ht; simp at ht; omega)
  obtain ⟨g2, o2, rfl, hg2, hc2⟩ := s2 (by intro e; have := congrArg List.length e; simp [ints] at this; rw [this] at ho0; simp at ho0)
  obtain ⟨W1, hW1⟩ : ∃ W, W = w.alloc (.cells C 29) := ⟨_, rfl⟩
  have K1 : Blk W1 w.heap.size 29 C := by rw [hW1]; exact Blk.new w _ _
  have hE := m.lt
  have hsz : W1.heap.size = w.heap.size + 1 := by rw [hW1]; simp
  have hbW : Below w.heap.size w W1 := by rw [hW1]; exact Base.bel
  have q3 : W1.cell? ⟨w.heap.size, 3, none⟩ = some (.slice (some ⟨g1, o1, none⟩) hd.terms.length c1) := by rw [K1.cell 3, hC]; rfl
  have q4 : W1.cell? ⟨w.heap.size, 4, none⟩ = some (.slice (some ⟨g2, o2, none⟩) hd.offs.length c2) := by rw [K1.cell 4, hC]; rfl
  have q5 : W1.cell? ⟨w.heap.size, 5, none⟩ = some (.int .i64 hd.n) := by rw [K1.cell 5, hC]; rfl
  have q4a : ∀ o, (W1.alloc o).cell? ⟨w.heap.size, 4, none⟩ = some (.slice (some ⟨g2, o2, none⟩) hd.offs.length c2) := fun o => by rw [(K1.alloc o).cell 4, hC]; rfl
  have q5a : ∀ o, (W1.alloc o).cell? ⟨w.heap.size, 5, none⟩ = some (.int .i64 hd.n) := fun o => by rw [(K1.alloc o).cell 5, hC]; rfl
  have HW := Lib.hid hW1
  rw [← hC]
  have HC := Lib.hid hC
  clear hW1 hC
  go_enter Tryz.func49, Tryz.ntmps49
  go_upto_region 1 with fail
  rw [← HW.out]
  obtain ⟨ie1, ⟨ii, ie2, ie3, ie4, ie5⟩, ie6, ie7⟩ := intEl
  have hN2 : ∀ W, Below W1.heap.size W1 W → ∀ j u, (ints hd.offs)[j]? = some u → W.cell? ((⟨g2, o2, none⟩ : Addr).add j) = some u := fun W hW j u hu => by
    rw [Addr.add_lit]
    exact (hW.cell (p := ⟨g2, o2 + j, none⟩) (by show g2 < _; omega)).trans ((hbW.cell (p := ⟨g2, o2 + j, none⟩) (by show g2 < _; omega)).trans (hc2 j u hu))
  have hone : ∀ u ∈ ints hd.offs, u.oneCell' = true := fun u hu => by
    obtain ⟨o, _, rfl⟩ := List.mem_map.1 hu
    rfl
  have ho1 : 0 < hd.offs.length := ho0
  have ho2 : hd.offs.length ≤ 1099511627776 := hol
  refine RelbT.wp_region_relbt 7 (fun wx => Below W1.heap.size W1 wx) (fun wa wb => Below wa.heap.size wa wb) (by kernel_rfl) (by kernel_rfl) (by kernel_rfl) (by simp) (bdrew (Below.refl _ _)) ?_
  simp only [List.take_succ_cons, List.take_zero, List.drop_succ_cons, List.drop_zero]
  apply Relb.relb_one [] [] (by kernel_rfl) (by kernel_rfl) (by kernel_rfl)
  case hs =>
    intro vv wx hx hf
    clear hf
    try simp only [Relb.putD, Act.put, Base.s1, Base.s2, Base.s3]
    intro KK hK
    go_simp
    exact hK _ _ hx (Below.refl _ _) rfl
  apply Relb.relb_one [(0, 8)] [0] (by kernel_rfl) (by kernel_rfl) (by kernel_rfl)
  case hs =>
    intro vv wx hx hf
    have e8 : vv 0 = _ := hf 0 (by simp)
    clear hf
    have z4 := (hx.cell (p := ⟨w.heap.size, 4, none⟩) (by show w.heap.size < _; omega)).trans q4
    have z5 := (hx.cell (p := ⟨w.heap.size, 5, none⟩) (by show w.heap.size < _; omega)).trans q5
    try simp only [Relb.putD, e8, Act.put, Base.s1, Base.s2, Base.s3]
    intro KK hK
    go_simp
    exact hK _ _ hx (Below.refl _ _) rfl
  apply Relb.relb_kind [(1, 9)] [] [1] (OwnV W1.heap.size hd.offs) (by kernel_rfl) (by kernel_rfl) (by kernel_rfl) (by kernel_rfl) (ownV_stable)
  case hs =>
    intro vv wx hx hf
    have e9 : vv 1 = _ := hf 1 (by simp)
    clear hf
    have z4 := (hx.cell (p := ⟨w.heap.size, 4, none⟩) (by show w.heap.size < _; omega)).trans q4
    have z5 := (hx.cell (p := ⟨w.heap.size, 5, none⟩) (by show w.heap.size < _; omega)).trans q5
    try simp only [Relb.putD, e9, Act.put, Base.s1, Base.s2, Base.s3]
    intro KK hK
    rw [if_pos (by rfl)]
    refine app_own (B := W1.heap.size) ho0 hol (by rfl) _ _ (by rfl) (by rfl) (by rfl) (hN2 _ hx) (Below.size hx) ?_
    intro v' wy hv' hby
    exact hK _ _ (bchain hx hby) hby hv'
  apply Relb.relb_one [] [] (by kernel_rfl) (by kernel_rfl) (by kernel_rfl)
  case hs =>
    intro vv wx hx hf
    clear hf
    try simp only [Relb.putD, Act.put, Base.s1, Base.s2, Base.s3]
    intro KK hK
    go_simp
    exact hK _ _ hx (Below.refl _ _) rfl
  apply Relb.relb_one [(3, 11)] [3] (by kernel_rfl) (by kernel_rfl) (by kernel_rfl)
  case hs =>
    intro vv wx hx hf
    have e11 : vv 3 = _ := hf 3 (by simp)
    clear hf
    have z4 := (hx.cell (p := ⟨w.heap.size, 4, none⟩) (by show w.heap.size < _; omega)).trans q4
    have z5 := (hx.cell (p := ⟨w.heap.size, 5, none⟩) (by show w.heap.size < _; omega)).trans q5
    try simp only [Relb.putD, e11, Act.put, Base.s1, Base.s2, Base.s3]
    intro KK hK
    go_simp
    exact hK _ _ hx (Below.refl _ _) rfl
  apply Relb.relb_kind [(2, 10), (4, 12)] [2] [2, 4] (BldV hd.n) (by kernel_rfl) (by kernel_rfl) (by kernel_rfl) (by kernel_rfl) (bldV_stable)
  case hs =>
    intro vv wx hx hf
    obtain ⟨A10, c10, e10, s10⟩ := hf 2 (by simp)
    replace e10 : vv 2 = _ := e10
    have e12 : vv 4 = _ := hf 4 (by simp)
    clear hf
    try simp only [Relb.putD, e10, e12, Act.put, Base.s1, Base.s2, Base.s3]
    intro KK hK
    go_simp
    exact hK _ _ hx (Below.refl _ _) (by rw [BldV, List.map_cons, e10]; rfl)
  apply Relb.relb_kind [] [] [] (NewV W1.heap.size) (by kernel_rfl) (by kernel_rfl) (by kernel_rfl) (by kernel_rfl) (newV_stable)
  case hs =>
    intro vv wx hx hf
    clear hf
    try simp only [Relb.putD, Act.put, Base.s1, Base.s2, Base.s3]
    intro KK hK
    go_simp
    exact hK _ _ (balloc hx _) (balloc (Below.refl _ _) _) ⟨wx.heap.size, rfl, Below.size hx, Blk.new _ _ _⟩
  refine RelbT.relbt_end [(0, 8), (1, 9), (2, 10), (3, 11), (4, 12), (5, 13), (6, 5)] (by kernel_rfl) (by kernel_rfl) ?_
  intro vv wx hx hf
  have e8 : vv 0 = _ := hf 0 (by decide)
  have e9 : vv 1 = _ := hf 1 (by decide)
  obtain ⟨A10, c10, e10, s10⟩ := hf 2 (by decide)
  replace e10 : vv 2 = _ := e10
  have e11 : vv 3 = _ := hf 3 (by decide)
  have e12 : vv 4 = _ := hf 4 (by decide)
  obtain e13 := hf 5 (by decide)
  replace e13 : vv 5 = _ := e13
  obtain ⟨g5, e5, hg5, k5⟩ := hf 6 (by decide)
  replace e5 : vv 6 = _ := e5
  clear hf
  simp only [List.map_cons, List.headD_cons, e10] at e13
  simp only [Relb.putD, e8, e9, e10, e11, e12, e13, e5, Act.put, Base.s1, Base.s2, Base.s3]
  have f50 : wx.frozen? ⟨g5, 0, none⟩ = false := k5.frozen 0
  have f51 : wx.frozen? ⟨g5, 1, none⟩ = false := k5.frozen 1
  have f52 : wx.frozen? ⟨g5, 2, none⟩ = false := k5.frozen 2
  have k50 : wx.cell? ⟨g5, 0, none⟩ = some (.slice none 0 0) := k5.cell 0
  have k51 : wx.cell? ⟨g5, 1, none⟩ = some (.slice none 0 0) := k5.cell 1
  have k52 : wx.cell? ⟨g5, 2, none⟩ = some (.int .i64 0) := k5.cell 2
  have q3x := (hx.cell (p := ⟨w.heap.size, 3, none⟩) (by show w.heap.size < _; omega)).trans q3
  rw [show vv (0 + 1 + 1) = _ from e10] at s10
  clear e8 e9 e10 e11 e12 e13 e5
  go_upto_region 2 with fail
  obtain ⟨W2, hW2⟩ : ∃ W, W = ((wx.setCell ⟨g5, 0, none⟩ (.slice none 0 0)).setCell ⟨g5, 1, none⟩ (.slice A10 hd.offs.length c10)).setCell ⟨g5, 2, none⟩ (.int .i64 hd.n) := ⟨_, rfl⟩
  rw [← hW2]
  have gW2 : wx.grownBy W2 (some g5) := by rw [hW2]; exact grown_chain (grown_chain (grown_set _ _ _) (grown_set _ _ _)) (grown_set _ _ _)
  have KN : Blk W2 g5 86 (nrC (.slice none 0 0) (.slice A10 hd.offs.length c10) hd.n) := by
    rw [hW2]
    have := ((k5.set_ 0 (.slice none 0 0)).set_ 1 (.slice A10 hd.offs.length c10)).set_ 2 (.int .i64 hd.n)
    simpa [nrC] using this
  have so : W2.ownsRow W1.heap.size 3 1 (.slice A10 hd.offs.length c10) hd.offs.length (ints hd.offs) := s10.kept gW2 (.inr (own_ne s10 k5 (by decide)))
  have b2 : Below W1.heap.size W1 W2 := hx.trans ⟨gW2.os, gW2.tape, gW2.output, gW2.size, fun k hk => gW2.block k (Nat.lt_of_lt_of_le hk hx.size) (fun e => by cases e; omega)⟩
  have hg5l : g5 < W2.heap.size := KN.lt
  obtain ⟨vo, hvo⟩ : ∃ v, v = Value.slice A10 hd.offs.length c10 := ⟨_, rfl⟩
  rw [← hvo] at KN so
  obtain ⟨cur, hcur⟩ : ∃ l, l = hd.terms.map fun t => x ⟨hd.field, t⟩ := ⟨_, rfl⟩
  have hclen : cur.length = hd.terms.length := by rw [hcur]; simp
  have H0 : Half W2 W2 g5 vo hd.n cur 0 (.slice none 0 0) := ⟨grown_of_below (Below.refl _ _) _, KN, World.ownsRow_nil _ _ _ _⟩
  have hsz2 := b2.size
  -- what stands still in the loop
  have still : ∀ wr k v1, Half W2 wr g5 vo hd.n cur k v1 → Below W1.heap.size W1 wr := fun wr k v1 hh => b2.trans ⟨hh.grown.os, hh.grown.tape, hh.grown.output, hh.grown.size, fun j hj => hh.grown.block j (Nat.lt_of_lt_of_le hj b2.size) (fun e => by cases e; omega)⟩
  have emst : ∀ wr, Below W1.heap.size W1 wr → Em wr E h L NS nc nv cv := fun wr hb => m.grow (hbW.trans (hb.mono (by omega)))
  have numst : ∀ wr, Below W1.heap.size W1 wr → IsNum wr h.mb nm x := fun wr hb => hx0.below (hbW.trans (hb.mono (by omega))) (by omega)
  have q3y : W2.cell? ⟨w.heap.size, 3, none⟩ = some (.slice (some ⟨g1, o1, none⟩) hd.terms.length c1) := (b2.cell (p := ⟨w.heap.size, 3, none⟩) (by show w.heap.size < _; omega)).trans q3
  have q1 : W1.cell? ⟨w.heap.size, 1, none⟩ = some (.int .i64 hd.field) := by rw [K1.cell 1, HC.out]; rfl
  have HST := Lib.hid still
  have HEM := Lib.hid emst
  have HNU := Lib.hid numst
  have HVO := Lib.hid hvo
  have HCU := Lib.hid hcur
  have HH0 := Lib.hid H0
  have HSZ := Lib.hid hsz
  have HSZ2 := Lib.hid hsz2
  have HCL := Lib.hid hclen
  have HK1 := Lib.hid K1
  have HBW := Lib.hid hbW
  have HTO := Lib.hid ht
  have hol2 : hd.terms.length ≤ 1099511627776 := by omega
  clear q3 q4 q5 q4a q5a q3x f50 f51 f52 k50 k51 k52 hW2 still emst numst hvo hcur H0 k5 hone hN2 hclen K1 ht
  go_wp2_with fail
  go_loopw [17] (fun i wr => ∃ (k : Nat) (v1 : Value), k ≤ hd.terms.length ∧ i = .int .i64 k ∧ Half W2 wr g5 vo hd.n cur k v1) (fun i _ => hd.terms.length - (intOf i).toNat)
  case atStart => exact ⟨0, _, Nat.zero_le _, rfl, HH0.out⟩
  case round =>
    obtain ⟨k, v1, hk, rfl, hP⟩ := hrel
    obtain ⟨A3, c3', rfl⟩ := own_slice hP.own
    have hst := HST.out _ _ _ hP
    rcases Nat.lt_or_ge k hd.terms.length with hlt | hge
    · obtain ⟨t, htk⟩ : ∃ t, hd.terms[k]? = some t := ⟨_, List.getElem?_eq_getElem hlt⟩
      have hcy : cur[k]? = some (x ⟨hd.field, t⟩) := by rw [HCU.out, List.getElem?_map, htk]; rfl
      have x0 : wr.cell? ⟨g1, o1 + k, none⟩ = some (.string t) := (hst.cell (p := ⟨g1, o1 + k, none⟩) (by show g1 < _; omega)).trans ((hbW.cell (p := ⟨g1, o1 + k, none⟩) (by show g1 < _; omega)).trans (hc1 k _ (by simp [strs, htk])))
      have i1 : (k : Int) < (hd.terms.length : Int) := by omega
      have i3 : (k : Int) < 9223372036854775807 := by omega
      have n0 : wr.cell? ⟨g5, 0, none⟩ = some (.slice A3 k c3') := hP.blk.cell 0
      have q1y : wr.cell? ⟨w.heap.size, 1, none⟩ = some (.int .i64 hd.field) := (hst.cell (p := ⟨w.heap.size, 1, none⟩) (by show w.heap.size < _; omega)).trans q1
      have e6 : wr.cell? ⟨E, 6, none⟩ = some (.map (some h.mb)) := (HEM.out wr hst).blk.cell 6
      have hlk : (Instr.lookup 66 (.map (some h.mb)) (.agg #[.int .i64 hd.field, .string t]) false).run Tryz.prog wr.drew = .ok (.int .i64 (x ⟨hd.field, t⟩)) wr.drew := (HNU.out wr.drew hst.drew).look (l := ⟨hd.field, t⟩) ⟨hf.field, hf.terms t (List.mem_of_getElem? htk)⟩
      have hPl := hP.own
      obtain ⟨ie1, ⟨ii, ie2, ie3, ie4, ie5⟩, ie6, ie7⟩ := intEl
      have hszr : W2.heap.size ≤ wr.heap.size := hP.grown.size
      have HHP := Lib.hid hP
      have HCY := Lib.hid hcy
      have HS5 := Lib.hid hsz
      clear hP hcy hst htk hsz hsz2
      go_upto_region 5 with fail
      have hnew : ∀ o, (wr.alloc o).drew.heap[wr.heap.size]? = some o := fun o => heap_alloc_new wr o
      have n0a : ∀ o, (wr.alloc o).cell? ⟨g5, 0, none⟩ = some (.slice A3 k c3') := fun o => (HHP.out.alloc o).blk.cell 0
      go_region_law ((refine step_append_kept (by rfl) _ _ _ (by rfl) W2.heap.size 3 ii _ 1 8 ie1 ie2 ie3 ie4 ie5 ie6 ie7 (.slice A3 k c3') k _ (by rfl) ((hPl.alloc _).drew) ⟨wr.heap.size, 0, none⟩ 1 1 [.int .i64 (x ⟨hd.field, t⟩)] (by rfl) (by rfl) (World.news_of_block (cs := #[.int .i64 (x ⟨hd.field, t⟩)]) (t := 3) (fr := (0, 0)) (hnew _)) (by simp [Value.oneCell']) (by omega) (by unfold maxLen; omega) (by omega) (by simp only [World.size_drew, World.size_alloc]; omega) ?_; intro gg cap w7 hown7 hat; obtain ⟨b7, HN7⟩ := ((HHP.out.alloc _).drew).more HCY.out hg5l hown7 hat; have y4 : w7.frozen? ⟨g5, 0, none⟩ = false := b7.frozen 0; have z4 : w7.cell? ⟨g5, 0, none⟩ = some (.slice A3 k c3') := b7.cell 0))
      all_goals
        go_wp2_with fail
        go_roundw
        case rel => exact ⟨k + 1, _, by omega, by go_num, HN7⟩
        case measure => simp [intOf]; omega
    · obtain rfl : k = hd.terms.length := by omega
      have M := HEM.out wr hst
      have hn1 := M.nears
      obtain ⟨An, cn, rfl⟩ := own_slice hn1
      have e2 : wr.cell? ⟨E, 2, none⟩ = some (.slice An NS.length cn) := M.blk.cell 2
      have e2a : ∀ o, (wr.alloc o).cell? ⟨E, 2, none⟩ = some (.slice An NS.length cn) := fun o => (M.blk.alloc o).cell 2
      have n0 : wr.cell? ⟨g5, 0, none⟩ = some (.slice A3 hd.terms.length c3') := hP.blk.cell 0
      have n1 : wr.cell? ⟨g5, 1, none⟩ = some vo := hP.blk.cell 1
      have n2 : wr.cell? ⟨g5, 2, none⟩ = some (.int .i64 hd.n) := hP.blk.cell 2
      have hnr : NrV wr ⟨cur, hd.offs, hd.n⟩ [.slice A3 hd.terms.length c3', vo, .int .i64 hd.n] := by
        have hcl := HCL.out
        have o1' := hP.own
        rw [← hcl, List.take_length] at o1'
        have o2' := so.kept hP.grown (.inr (own_ne so KN (by decide)))
        rw [HVO.out] at o2' ⊢
        exact ⟨A3, c3', A10, c10, by rw [hcl], slcT_own o1' (by have := HTO.out; have := HCL.out; omega), slcT_own o2' ho0⟩
      have HM := Lib.hid M
      have hne : NewS w [.slice A3 hd.terms.length c3', vo, .int .i64 hd.n] := by
        intro v hv k hk'
        simp only [List.mem_cons, List.not_mem_nil, or_false] at hv
        rcases hv with rfl | rfl | rfl
        · have := (hP.own.lt k hk').1; omega
        · have := (so.lt k hk').1; omega
        · simp [Value.ownBlock] at hk'
      have HNEW := Lib.hid hne
      have HNR := Lib.hid hnr
      have HKW : Keeps E w wr := .of_below (hbW.trans (hst.mono (by omega))) E
      have HKW' := Lib.hid HKW
      have hszE : E < wr.heap.size := M.lt
      have HS5 := Lib.hid hsz
      obtain ⟨ne1, ⟨ii, ne2, ne3, ne4, ne5⟩, ne6, ne7⟩ := nearEl
      have hnew : ∀ o, (wr.alloc o).drew.heap[wr.heap.size]? = some o := fun o => heap_alloc_new wr o
      have wl : IntKind.i64.wrap ((NS.length + 1 : Nat) - 1 : Int) = NS.length := wrap_len hn
      have wu : IntKind.u64.wrap (NS.length : Int) = NS.length := IntWalk.u64_in _ (by omega)
      clear M hnr hne HKW hP hst hsz hsz2 so KN gW2 b2
      go_upto_region 7 with fail
      go_region_law ((refine step_append_kept (by rfl) _ _ _ (by rfl) (E + 1) 86 ii _ 3 56 ne1 ne2 ne3 ne4 ne5 ne6 ne7 (.slice An NS.length cn) NS.length nc (by rfl) ((hn1.alloc _).drew) ⟨wr.heap.size, 0, none⟩ 1 1 [.slice A3 hd.terms.length c3', vo, .int .i64 hd.n] (by rfl) (by rfl) (World.news_of_block (cs := #[.slice A3 hd.terms.length c3', vo, .int .i64 hd.n]) (t := 86) (fr := (0, 0)) (hnew _)) (by rw [HVO.out]; simp [Value.oneCell']) (by omega) (by unfold maxLen; omega) (by omega) (by simp only [World.size_drew, World.size_alloc]; omega) ?_; intro gg cap w7 hown7 hat; have hgr7 : wr.grownBy w7 (Value.slice An NS.length cn).ownBlock := (hat_grown (wa := (wr.alloc _).drew) ((Below.refl _ _).alloc (Nat.le_refl _) _).drew hat); obtain ⟨b7, M7, K7⟩ := Em.near HM.out HNR.out hown7 hgr7; have y4 : w7.frozen? ⟨E, 2, none⟩ = false := b7.frozen 2; have z4 : w7.cell? ⟨E, 2, none⟩ = some (.slice An NS.length cn) := b7.cell 2))
      all_goals
        have z6 : (w7.setCell ⟨E, 2, none⟩ (.slice (some ⟨gg, 0, none⟩) (NS.length + 1) cap)).cell? ⟨E, 2, none⟩ = some (.slice (some ⟨gg, 0, none⟩) (NS.length + 1) cap) := M7.blk.cell 2
        go_wp2_with fail
        go_ret
        refine ⟨by simp [wl, wu], HKW'.out.trans K7, ?_⟩
        rw [← HCU.out]
        exact ⟨_, _, _, M7, HNEW.out⟩
end Go.Proofs.YtfpikilhbkeajaaGreatDoor.EmitNear

namespace Go.Proofs.YtfpikilhbkeajaaGreatDoor.EmitRaw
set_option maxRecDepth 100000
open Go.RowKit Go.PlainAid Base Query QrySize EmitPlain EmitBase EmitPut LeafMap EmitNear

def Stay (E : Nat) (w : World) (g : Nat) : Prop := g < w.heap.size ∧ (g < E ∨ ∀ cs t fr, w.heap[g]? = some (.cells cs t fr) → ¬ emT t)
theorem keeps_at {E g : Nat} {w w' : World} (h : Keeps E w w') (hs : Stay E w g) : w'.heap[g]? = w.heap[g]? := h.block g hs.1 hs.2
theorem Stay.kept {E g : Nat} {w w' : World} (hs : Stay E w g) (h : Keeps E w w') : Stay E w' g :=
  ⟨Nat.lt_of_lt_of_le hs.1 h.size, hs.2.imp id fun h2 cs t fr he => h2 cs t fr (by rw [← keeps_at h hs]; exact he)⟩
theorem Stay.blk {E g : Nat} {w : World} {t : TypeId} {cs : Array Value} (h : Blk w g t cs) (ht : ¬ emT t) : Stay E w g := ⟨h.lt, .inr fun cs' t' fr h' => by
  unfold Blk at h
  rw [h] at h'
  rw [← (Obj.cells.inj (Option.some.inj h')).2.1]
  exact ht⟩
def KL (w : World) (E : Nat) (A : Option Addr) (ks : List Qry) : Prop := ks ≠ [] → ∃ (g o : Nat) (kc : Nat → List Value), A = some ⟨g, o, none⟩ ∧ Stay E w g ∧
  (∀ i, i < ks.length → ∀ j u, (kc i)[j]? = some u → w.cell? ⟨g, o + i * 15 + j, none⟩ = some u) ∧ ∀ i k, ks[i]? = some k → QVal w E (kc i) k
theorem KL.kept {w w' : World} {E : Nat} {A : Option Addr} {ks : List Qry} (h : KL w E A ks) (hk : Keeps E w w') (hE : E ≤ w.heap.size) : KL w' E A ks := fun hne => by
  obtain ⟨g, o, kc, e, hs, hc, hq⟩ := h hne
  exact ⟨g, o, kc, e, hs.kept hk, fun i hi j u hu => (cell_block (keeps_at hk hs) _).trans (hc i hi j u hu), fun i k hi => (hq i k hi).kept (hk.below hE) (Nat.le_refl _)⟩

structure Raw (w wr : World) (E : Nat) (h : EH) (L : List Ins) (NS : List Nr) (nc : List Value) (r : List (Bool × Ins) × List Nr) (sv : Value) : Prop where
  keeps : Keeps E w wr
  em : ∃ nv cv nc', Em wr E h (L ++ r.1.map Prod.snd) (NS ++ r.2) (nc ++ nc') nv cv ∧ NewS w nc' ∧ ∀ v ∈ nc ++ nc', ∀ k, sv.ownBlock = some k → v.ownBlock ≠ some k
  own : wr.ownsRow w.heap.size 3 1 sv (posns r.1 L.length).length (nums (posns r.1 L.length))
def Fits (L : List Ins) (NS : List Nr) (a b : Nat) : Prop := L.length + a ≤ 1099511627776 ∧ NS.length + b ≤ 1099511627776
theorem keeps_new {E : Nat} {w w1 w' : World} {row : Option Nat} (h : Keeps E w w1) (hg : w1.grownBy w' row) (hr : ∀ k, row = some k → w.heap.size ≤ k) : Keeps E w w' :=
  ⟨hg.os.trans h.os, hg.tape.trans h.tape, hg.output.trans h.output, Nat.le_trans h.size hg.size, fun k hk hc => (hg.block k (Nat.lt_of_lt_of_le hk h.size) (fun e => by have := hr k e.symm; omega)).trans (h.block k hk hc)⟩
section
variable {w wr w1 w' : World} {E : Nat} {h : EH} {L : List Ins} {NS : List Nr} {nc : List Value} {r : List (Bool × Ins) × List Nr} {sv : Value}
theorem Raw.start {nv cv : Value} (m : Em w E h L NS nc nv cv) : Raw w w E h L NS nc ([], []) (.slice none 0 0) :=
  ⟨.refl _ _, ⟨nv, cv, [], by simpa using m, .nil _, fun _ _ k hk => by simp [Value.ownBlock] at hk⟩, World.ownsRow_nil _ _ _ _⟩
theorem Raw.grow (m : Raw w wr E h L NS nc r sv) (hb : Below wr.heap.size wr w') : Raw w w' E h L NS nc r sv := by
  obtain ⟨nv, cv, nc', he, hn, ha⟩ := m.em
  exact ⟨m.keeps.trans (.of_below hb E), ⟨nv, cv, nc', he.grow hb, hn, ha⟩, own_below m.own hb⟩
theorem Raw.alloc (m : Raw w wr E h L NS nc r sv) (o : Obj) : Raw w (wr.alloc o) E h L NS nc r sv := m.grow ((Below.refl _ _).alloc (Nat.le_refl _) o)
theorem Raw.drew (m : Raw w wr E h L NS nc r sv) : Raw w wr.drew E h L NS nc r sv := m.grow (Below.refl _ _).drew
theorem Raw.lt (m : Raw w wr E h L NS nc r sv) : E < wr.heap.size := let ⟨_, _, _, he, _⟩ := m.em; he.lt
theorem Raw.slice (m : Raw w wr E h L NS nc r sv) : ∃ A c, sv = .slice A (posns r.1 L.length).length c := own_slice m.own
theorem raw_code {c : List Ins} {ns : List Nr} {nv cv : Value} {nc' : List Value} (m : Raw w wr E h L NS nc r sv) (hn : NewS w nc') (ha : ∀ v ∈ nc ++ nc', ∀ k, sv.ownBlock = some k → v.ownBlock ≠ some k) (he : EmE wr w' E h ((L ++ r.1.map Prod.snd) ++ c) ((NS ++ r.2) ++ ns) (nc ++ nc')) : Raw w w' E h L NS nc (r.1 ++ c.map (fun i => (false, i)), r.2 ++ ns) sv := by
  obtain ⟨hk, nv2, cv2, nc2, hm2, hn2⟩ := he
  have hsz := m.keeps.size
  refine ⟨m.keeps.trans hk, ⟨nv2, cv2, nc' ++ nc2, ?_, hn.app (hn2.mono hsz), fun v hv k hks => ?_⟩, ?_⟩
  · have e : (c.map fun i => (false, i)).map Prod.snd = c := by rw [List.map_map]; simp [Function.comp_def]
    simp only [List.map_append, e]
    simpa [List.append_assoc] using hm2
  · rw [← List.append_assoc] at hv
    rcases List.mem_append.1 hv with hv | hv
    · exact ha v hv k hks
    · intro e
      have h1 := hn2 v hv k e
      have h2 := (m.own.lt k hks).2
      omega
  · simp only [posns_append, posns_fin, List.append_nil]
    exact hk.own m.own int_plain
structure Marked (w w1 : World) (E : Nat) (h : EH) (L : List Ins) (NS : List Nr) (nc : List Value) (r : List (Bool × Ins) × List Nr) (o : Int) (sv : Value) : Prop where
  keeps : Keeps E w w1
  em : ∃ nv cv nc', Em w1 E h ((L ++ r.1.map Prod.snd) ++ [⟨o, 0, 0⟩]) (NS ++ r.2) (nc ++ nc') nv cv ∧ NewS w nc' ∧ ∀ v ∈ nc ++ nc', ∀ k, sv.ownBlock = some k → v.ownBlock ≠ some k
  own : w1.ownsRow w.heap.size 3 1 sv (posns r.1 L.length).length (nums (posns r.1 L.length))
theorem raw_mark {o : Int} {nc' : List Value} (m : Raw w wr E h L NS nc r sv) (hn : NewS w nc') (ha : ∀ v ∈ nc ++ nc', ∀ k, sv.ownBlock = some k → v.ownBlock ≠ some k) (he : EmE wr w1 E h ((L ++ r.1.map Prod.snd) ++ [⟨o, 0, 0⟩]) (NS ++ r.2) (nc ++ nc')) : Marked w w1 E h L NS nc r o sv := by
  obtain ⟨hk, nv2, cv2, nc2, hm2, hn2⟩ := he
  have hsz := m.keeps.size
  refine ⟨m.keeps.trans hk, ⟨nv2, cv2, nc' ++ nc2, by rw [← List.append_assoc]; exact hm2, hn.app (hn2.mono hsz), fun v hv k hks => ?_⟩, hk.own m.own int_plain⟩
  rw [← List.append_assoc] at hv
  rcases List.mem_append.1 hv with hv | hv
  · exact ha v hv k hks
  · intro e
    have h1 := hn2 v hv k e
    have h2 := (m.own.lt k hks).2
    omega
theorem Marked.list {o : Int} {gg cap : Nat} (m : Marked w w1 E h L NS nc r o sv)
    (ho : w'.ownsRow w.heap.size 3 1 (.slice (some ⟨gg, 0, none⟩) ((posns r.1 L.length).length + 1) cap) ((posns r.1 L.length).length + 1) (nums (posns r.1 L.length) ++ [.int .i64 ((L.length : Int) + (r.1.length : Int))]))
    (hat : (sv.ownBlock = some gg ∧ w1.grownBy w' (some gg)) ∨ (w1.heap.size ≤ gg ∧ w1.grownBy w' none)) :
    Raw w w' E h L NS nc (r.1 ++ [(true, ⟨o, 0, 0⟩)], r.2) (.slice (some ⟨gg, 0, none⟩) ((posns r.1 L.length).length + 1) cap) := by
  obtain ⟨nv, cv, nc', hm, hn, ha⟩ := m.em
  have own1 := m.own
  have hg := hat_grown (Below.refl _ _) hat
  refine ⟨keeps_new m.keeps hg fun k e => (m.own.lt k e).1, ⟨nv, cv, nc', ?_, hn, fun v hv k hks => ?_⟩, ?_⟩
  · have hr := hm.rows.grown hg fun v hv k e => ha v hv k e
    have e1 := hm.blk.grown hg fun e => own_ne own1 hm.blk (by decide) e.symm
    have e2 := hm.code.kept hg (rows_apart own1 hm.code (by decide))
    have e3 := hm.nears.kept hg (rows_apart own1 hm.nears (by decide))
    have := Em.mk e1 e2 e3 hr
    simpa [List.append_assoc] using this
  · simp only [Value.ownBlock, Option.some.injEq] at hks
    subst hks
    rcases hat with ⟨e, _⟩ | ⟨h1, _⟩
    · exact ha v hv gg e
    · intro e
      have := hm.rows.lt v hv gg e
      omega
  · simp only [posns_append, posns, List.length_append, List.length_singleton, nums_app]
    rw [show nums [L.length + r.1.length] = [.int .i64 ((L.length : Int) + (r.1.length : Int))] by simp [nums]]
    exact ho
end
def QC (x : Lf → Int) (q : Qry) : Prop := ∀ (E : Nat) (h : EH) (L : List Ins) (NS : List Nr) (nc : List Value) (nv cv : Value) (nm : Nat) (full : Bool) (cs : List Value) (w : World), Em w E h L NS nc nv cv → IsNum w h.mb nm x → h.mb < E → QVal w E cs q →
    Fits L NS (emit x q full NS.length).1.length (emit x q full NS.length).2.length →
    Calls Tryz.prog 22 #[.pointer (some ⟨E, 0, none⟩), .agg cs.toArray, .bool full] w fun e w' => e = .returned (.tuple #[]) ∧ EmE w w' E h (L ++ (emit x q full NS.length).1) (NS ++ (emit x q full NS.length).2) nc

theorem posns_len (l : List (Bool × Ins)) : ∀ o, (posns l o).length ≤ l.length := by
  induction l with
  | nil => intro o; simp [posns]
  | cons p r ih => intro o; rcases p with ⟨_ | _, i⟩ <;> simp [posns] <;> have := ih (o + 1) <;> omega
theorem grown_below {E : Nat} {w w' : World} {row : Option Nat} (hg : w.grownBy w' row) (hr : ∀ k, row = some k → E ≤ k) (hE : E ≤ w.heap.size) : Below E w w' :=
  ⟨hg.os, hg.tape, hg.output, hg.size, fun k hk => hg.block k (Nat.lt_of_lt_of_le hk hE) (fun e => by have := hr k e.symm; omega)⟩
section
variable {w wr : World} {E : Nat} {h : EH} {L : List Ins} {NS : List Nr} {nc : List Value} {r : List (Bool × Ins) × List Nr} {sv : Value}
theorem raw_query {x : Lf → Int} {q : Qry} {nm : Nat} {b : Bool} {cs : List Value} (m : Raw w wr E h L NS nc r sv) (ih : QC x q) (hx : IsNum w h.mb nm x) (hmb : h.mb < E) (hE : E ≤ w.heap.size) (hq : QVal wr E cs q)
    (hf : Fits (L ++ r.1.map Prod.snd) (NS ++ r.2) (emit x q b (NS.length + r.2.length)).1.length (emit x q b (NS.length + r.2.length)).2.length) :
    Calls Tryz.prog 22 #[.pointer (some ⟨E, 0, none⟩), .agg cs.toArray, .bool b] wr fun e w' => e = .returned (.tuple #[]) ∧ Keeps E wr w' ∧
      Raw w w' E h L NS nc (r.1 ++ (emit x q b (NS.length + r.2.length)).1.map (fun i => (false, i)), r.2 ++ (emit x q b (NS.length + r.2.length)).2) sv := by
  obtain ⟨nv, cv, nc', hm, hn, ha⟩ := m.em
  have key := ih E h (L ++ r.1.map Prod.snd) (NS ++ r.2) (nc ++ nc') nv cv nm b cs wr hm (hx.below (m.keeps.below hE) hmb) hmb hq (by rw [List.length_append]; exact hf)
  rw [List.length_append] at key
  exact key.mono fun e w' ⟨h1, h2⟩ => ⟨h1, h2.1, raw_code (nv := nv) (cv := cv) m hn ha h2⟩
theorem raw_put (o a b : Int) (m : Raw w wr E h L NS nc r sv) (hl : (L ++ r.1.map Prod.snd).length ≤ 1099511627776) :
    Calls Tryz.prog 23 #[.pointer (some ⟨E, 0, none⟩), .int .i64 o, .int .u64 a, .int .u64 b] wr fun e w' => (∃ v, e = .returned v) ∧ Keeps E wr w' ∧ Raw w w' E h L NS nc (r.1 ++ [(false, ⟨o, a, b⟩)], r.2) sv := by
  obtain ⟨nv, cv, nc', hm, hn, ha⟩ := m.em
  refine (put_any E h _ _ _ nv cv o a b wr hm hl).mono fun e w' ⟨h1, h2⟩ => ⟨⟨_, h1⟩, h2.1, ?_⟩
  have := raw_code (c := [⟨o, a, b⟩]) (ns := []) (nv := nv) (cv := cv) m hn ha (by rw [List.append_nil]; exact h2)
  simpa using this
theorem raw_skip (o : Int) (m : Raw w wr E h L NS nc r sv) (hl : (L ++ r.1.map Prod.snd).length ≤ 1099511627776) :
    Calls Tryz.prog 23 #[.pointer (some ⟨E, 0, none⟩), .int .i64 o, .int .u64 0, .int .u64 0] wr fun e w' => e = .returned (.int .i64 ((L.length : Int) + (r.1.length : Int))) ∧ Keeps E wr w' ∧ Marked w w' E h L NS nc r o sv := by
  obtain ⟨nv, cv, nc', hm, hn, ha⟩ := m.em
  exact (put_any E h _ _ _ nv cv o 0 0 wr hm hl).mono fun e w' ⟨h1, h2⟩ => ⟨by rw [h1]; simp, h2.1, raw_mark m hn ha h2⟩
theorem raw_land {A : Option Addr} {c : Nat} (m : Raw w wr E h L NS nc r (.slice A (posns r.1 L.length).length c)) (hl : (L ++ r.1.map Prod.snd).length ≤ 1099511627776) :
    Calls Tryz.prog 76 #[.pointer (some ⟨E, 0, none⟩), .slice A (posns r.1 L.length).length c] wr fun e w' => e = .returned (.tuple #[]) ∧ EmE w w' E h (L ++ landR r.1) (NS ++ r.2) nc := by
  obtain ⟨nv, cv, nc', hm, hn, ha⟩ := m.em
  have hln : (posns r.1 L.length).length ≤ 1099511627776 := by
    have h1 := m.own.1
    have h2 := posns_len r.1 L.length
    simp at hl
    omega
  refine (land_any E h _ _ _ nv cv (posns r.1 L.length) A c wr hm hl (fun h0 => slcT_own m.own h0) (fun p hp => ?_) hln).mono fun e w' ⟨h1, h2⟩ => ⟨h1, ?_⟩
  · have := posns_lt _ _ p hp
    simp
    omega
  · rw [landed_posns] at h2
    obtain ⟨hk, nv2, cv2, nc2, hm2, hn2⟩ := h2
    exact ⟨m.keeps.trans hk, nv2, cv2, nc' ++ nc2, by rw [← List.append_assoc]; exact hm2, hn.app (hn2.mono m.keeps.size)⟩
end
theorem wpList_append1k {P : Program} {base : Nat} {t e : TypeId} {z : Value} {size bytes : Nat} {wr : World} {ops : Array Oper} {rest : List Oper} {o : Oper} {a : Act} {Q : Exit → Act → World → Prop} (hgd : o.guard = none) (s x : Operand)
    (ho : o.op = .call { callee := .builtin .append, args := #[s, x], argTypes := #[t, t] })
    (I : Elem P t e z size bytes) {v : Value} {n : Nat} {xs : List Value} (hown : wr.ownsRow base e size v n xs) (hs : a.eval s = v)
    {cs : Array Value} (hx : a.eval x = .slice (some ⟨wr.heap.size, 0, none⟩) 1 1) (hl : cs.size = size) (h1 : cs.toList.all Value.oneCell' = true)
    (hbytes : (n + 1) * bytes ≤ 140737488355328) (h63 : n + 1 ≤ maxLen) (hbase : base ≤ wr.heap.size)
    (h : ∀ gg cap w', w'.ownsRow base e size (.slice (some ⟨gg, 0, none⟩) (n + 1) cap) (n + 1) (xs ++ cs.toList) → ((v.ownBlock = some gg ∧ wr.grownBy w' (some gg)) ∨ (wr.heap.size ≤ gg ∧ wr.grownBy w' none)) → wpList P ops Q rest (a.put o.dst (.slice (some ⟨gg, 0, none⟩) (n + 1) cap)) w') :
    wpList P ops Q (o :: rest) a (wr.alloc (.cells cs e)) := by
  obtain ⟨ht, ⟨i, hi, hz, hsz, hby⟩, hzs, hpos⟩ := I
  refine wpList_plain hgd fun K' hK' => ?_
  have key := step_append_kept (P := P) (ops := #[]) (E := True) (Q := Q) (K := K') (w := wr.alloc (.cells cs e)) hgd s x t ho base e i z size bytes ht hi hz hsz hby hzs hpos v n xs hs (hown.alloc _) ⟨wr.heap.size, 0, none⟩ 1 1 cs.toList hx (by simpa using hl)
    (fun j u hu => by
      rw [Addr.add_lit, World.cell?_alloc_mark, Nat.zero_add]
      simpa using hu) (fun u hu => (List.all_eq_true.1 h1) u hu) (by omega) h63 hbytes (by simp; omega) (fun gg cap w' hw hat => hK' _ _ (h gg cap w' hw ?_))
  · have hw : Region.wanted o (yielded #[] a.tmps) = true := by simp [Region.wanted, hgd]
    rw [if_pos hw] at key
    exact key
  · have hb : Below wr.heap.size wr (wr.alloc (.cells cs e)) := (Below.refl _ _).alloc (Nat.le_refl _) _
    rcases hat with ⟨e1, hg⟩ | ⟨e1, hg⟩
    · exact .inl ⟨e1, grown_chain (grown_of_below hb _) hg⟩
    · exact .inr ⟨by simp at e1; omega, grown_chain (grown_of_below hb _) hg⟩
end Go.Proofs.YtfpikilhbkeajaaGreatDoor.EmitRaw

namespace Go.Proofs.YtfpikilhbkeajaaGreatDoor.EmitMost
set_option maxRecDepth 100000
open Go.RowKit Go.PlainAid Base Query QrySize EmitPlain EmitBase EmitPut LeafMap EmitNear EmitRaw

theorem kl_kid {w : World} {E : Nat} {A : Option Addr} {ks : List Qry} {i : Nat} {k : Qry} (h : KL w E A ks) (hi : ks[i]? = some k) :
    ∃ g o, A = some ⟨g, o, none⟩ ∧ ∃ A1 A2 A3 A4 c1 c2 c3 c4, QVal w E (qcells k.h k.kids.length A1 A2 A3 A4 c1 c2 c3 c4).toList k ∧ QAt w g (o + i * 15) k.h k.kids.length A1 A2 A3 A4 c1 c2 c3 c4 := by
  obtain ⟨g, o, kc, e, hs, hc, hq⟩ := h (by intro e; rw [e] at hi; simp at hi)
  have hlt : i < ks.length := (List.getElem?_eq_some_iff.1 hi).1
  obtain ⟨A1, A2, A3, A4, c1, c2, c3, c4, e2, ha⟩ := kid_cells (hq i k hi) (hc i hlt)
  exact ⟨g, o, e, A1, A2, A3, A4, c1, c2, c3, c4, by rw [← e2]; exact hq i k hi, ha⟩
theorem chn_zero (sk o : Option Int) (l : List Lay) (n : Nat) : chn sk o (l.take 0) n = ([], []) := rfl
theorem chn_le (sk o : Option Int) (l : List Lay) (n i : Nat) : ((chn sk o (l.take i)) n).1.length ≤ ((chn sk o l) n).1.length ∧ ((chn sk o (l.take i)) n).2.length ≤ ((chn sk o l) n).2.length := by
  cases l with
  | nil => simp
  | cons f r =>
    cases i with
    | zero => simp [chn, nop]
    | succ i =>
      have e : furthers sk o r = (EmitPlain.cat (furthers sk o (r.take i)) (furthers sk o (r.drop i))) := by rw [← furthers_append, List.take_append_drop]
      simp only [List.take_succ_cons, chn]
      rw [e, ← cat_assoc]
      generalize ((EmitPlain.cat (fin f) (furthers sk o (r.take i)))) = F
      simp [cat]
theorem further_len (sk o : Option Int) (F : Lay?) (f : Lay) (n : Nat) :
    (((EmitPlain.cat F (further sk o f))) n).1.length = (F n).1.length + (if sk.isSome then 1 else 0) + (f (n + (F n).2.length)).1.length + (if o.isSome then 1 else 0) ∧ (((EmitPlain.cat F (further sk o f))) n).2.length = (F n).2.length + (f (n + (F n).2.length)).2.length := by
  cases sk <;> cases o <;> simp [cat, further, fin, skp, one, nop] <;> omega
section
variable {sk o : Option Int} {l : List Lay} {f : Lay} {n k : Nat}
theorem kid_len0 (h : l[0]? = some f) : (f n).1.length ≤ ((chn sk o l) n).1.length ∧ (f n).2.length ≤ ((chn sk o l) n).2.length := by
  have := chn_le sk o l n 1
  rw [chn_one h] at this
  simpa [fin] using this
theorem kid_len1 (h : l[k + 1]? = some f) : ((chn sk o (l.take (k + 1))) n).1.length + (if sk.isSome then 1 else 0) + (f (n + ((chn sk o (l.take (k + 1))) n).2.length)).1.length + (if o.isSome then 1 else 0) ≤ ((chn sk o l) n).1.length ∧
    ((chn sk o (l.take (k + 1))) n).2.length + (f (n + ((chn sk o (l.take (k + 1))) n).2.length)).2.length ≤ ((chn sk o l) n).2.length := by
  have h1 := chn_le sk o l n (k + 1 + 1)
  rw [chn_take h] at h1
  have h2 := further_len sk o (chn sk o (l.take (k + 1))) f n
  rw [h2.1, h2.2] at h1
  exact h1
theorem kid_raw0 (h : l[0]? = some f) : chn sk o (l.take (0 + 1)) n = ([] ++ (f (n + 0)).1.map (fun i => (false, i)), [] ++ (f (n + 0)).2) := by
  rw [Nat.zero_add, chn_one h]; rfl
theorem kid_rawN {p : Int} (h : l[k + 1]? = some f) {r : List (Bool × Ins) × List Nr} (hr : chn none (some p) (l.take (k + 1)) n = r) : chn none (some p) (l.take (k + 1 + 1)) n = ((r.1 ++ (f (n + r.2.length)).1.map (fun i => (false, i))) ++ [(false, ⟨p, 0, 0⟩)], r.2 ++ (f (n + r.2.length)).2) := by
  rw [chn_take h]
  simp [cat, further, nop, fin, one, hr]
theorem kid_rawS {s p : Int} (h : l[k + 1]? = some f) {r : List (Bool × Ins) × List Nr} (hr : chn (some s) (some p) (l.take (k + 1)) n = r) : chn (some s) (some p) (l.take (k + 1 + 1)) n = (((r.1 ++ [(true, ⟨s, 0, 0⟩)]) ++ (f (n + r.2.length)).1.map (fun i => (false, i))) ++ [(false, ⟨p, 0, 0⟩)], r.2 ++ (f (n + r.2.length)).2) := by
  rw [chn_take h]
  simp [cat, further, skp, fin, one, hr]
end
theorem qcs {w : World} {g : Nat} {t : TypeId} {v0 v1 v2 v3 v4 v5 v6 v7 v8 v9 v10 v11 v12 v13 v14 : Value} (h : Blk w g t #[v0, v1, v2, v3, v4, v5, v6, v7, v8, v9, v10, v11, v12, v13, v14]) : w.cell? ⟨g, 0, none⟩ = some v0 ∧ w.cell? ⟨g, 1, none⟩ = some v1 ∧ w.cell? ⟨g, 2, none⟩ = some v2 ∧ w.cell? ⟨g, 3, none⟩ = some v3 ∧ w.cell? ⟨g, 4, none⟩ = some v4 ∧ w.cell? ⟨g, 5, none⟩ = some v5 ∧ w.cell? ⟨g, 6, none⟩ = some v6 ∧ w.cell? ⟨g, 7, none⟩ = some v7 ∧ w.cell? ⟨g, 8, none⟩ = some v8 ∧ w.cell? ⟨g, 9, none⟩ = some v9 ∧ w.cell? ⟨g, 10, none⟩ = some v10 ∧ w.cell? ⟨g, 11, none⟩ = some v11 ∧ w.cell? ⟨g, 12, none⟩ = some v12 ∧ w.cell? ⟨g, 13, none⟩ = some v13 ∧ w.cell? ⟨g, 14, none⟩ = some v14 :=
  ⟨h.cell 0, h.cell 1, h.cell 2, h.cell 3, h.cell 4, h.cell 5, h.cell 6, h.cell 7, h.cell 8, h.cell 9, h.cell 10, h.cell 11, h.cell 12, h.cell 13, h.cell 14⟩
theorem qry_plain : ¬ emT 29 := by unfold emT; decide

set_option maxHeartbeats 2000000 in
theorem most_any (x : Lf → Int) (ks : List Qry) (IH : ∀ k ∈ ks, QC x k) (hd : Head) (A1 A2 A3 A4 : Option Addr) (c1 c2 c3 c4 : Nat) (E : Nat) (h : EH) (L : List Ins) (NS : List Nr) (nc : List Value) (nv cv : Value) (nm : Nat) (full : Bool) (w : World)
    (m : Em w E h L NS nc nv cv) (hx : IsNum w h.mb nm x) (hmb : h.mb < E) (hkl : KL w E A4 ks) (hks : ks.length ≤ 1099511627776)
    (hfit : Fits L NS ((chn (if full then none else some 16) (some 8) (ks.map fun k => emit x k full)) NS.length).1.length ((chn (if full then none else some 16) (some 8) (ks.map fun k => emit x k full)) NS.length).2.length) :
    Calls Tryz.prog 50 #[.pointer (some ⟨E, 0, none⟩), .agg (qcells hd ks.length A1 A2 A3 A4 c1 c2 c3 c4), .bool full] w fun e w' => e = .returned (.tuple #[]) ∧
      EmE w w' E h (L ++ (shut (chn (if full then none else some 16) (some 8) (ks.map fun k => emit x k full)) NS.length).1) (NS ++ (shut (chn (if full then none else some 16) (some 8) (ks.map fun k => emit x k full)) NS.length).2) nc := by
  obtain ⟨sk, hsk⟩ : ∃ s, s = (if full then none else some (16 : Int)) := ⟨_, rfl⟩
  obtain ⟨fs, hfs⟩ : ∃ fs, fs = ks.map fun k => emit x k full := ⟨_, rfl⟩
  rw [← hsk, ← hfs] at hfit ⊢
  obtain ⟨C, hC⟩ : ∃ C, C = qcells hd ks.length A1 A2 A3 A4 c1 c2 c3 c4 := ⟨_, rfl⟩
  obtain ⟨W1, hW1⟩ : ∃ W, W = w.alloc (.cells C 29) := ⟨_, rfl⟩
  have K1 : Blk W1 w.heap.size 29 C := by rw [hW1]; exact Blk.new w _ _
  have hbW : Below w.heap.size w W1 := by rw [hW1]; exact Base.bel
  have q14 : W1.cell? ⟨w.heap.size, 14, none⟩ = some (.slice A4 ks.length c4) := by rw [K1.cell 14, hC]; rfl
  rw [← hC]
  have R0 : Raw w W1 E h L NS nc ([], []) (.slice none 0 0) := (Raw.start m).grow hbW
  have HW := Lib.hid hW1
  have HR0 := Lib.hid R0
  have HSK := Lib.hid hsk
  have HFS := Lib.hid hfs
  have HKL := Lib.hid hkl
  have HFIT := Lib.hid hfit
  have HIH := Lib.hid IH
  have HX := Lib.hid hx
  have hE := m.lt
  clear hW1 hC R0 hsk hfs hkl hfit IH K1 hx hbW
  go_enter Tryz.func50, Tryz.ntmps50
  go_upto_region 1 with fail
  rw [← HW.out]
  go_wp2_with fail
  go_loopw [12, 6] (fun i s wr => ∃ k : Nat, k ≤ ks.length ∧ i = .int .i64 k ∧ Raw w wr E h L NS nc (chn sk (some 8) (fs.take k) NS.length) s) (fun i _ _ => ks.length - (intOf i).toNat)
  case atStart => exact ⟨0, Nat.zero_le _, rfl, HR0.out⟩
  case round =>
    obtain ⟨k, hk, rfl, hR⟩ := hrel
    rcases Nat.lt_or_ge k ks.length with hlt | hge
    · obtain ⟨y, hy⟩ : ∃ y, ks[k]? = some y := ⟨_, List.getElem?_eq_getElem hlt⟩
      obtain ⟨g, o, rfl, B1, B2, B3, B4, d1, d2, d3, d4, hq, x0, x1, x2, x3, x4, x5, x6, x7, x8, x9, x10, x11, x12, x13, x14⟩ := kl_kid (HKL.out.kept hR.keeps (Nat.le_of_lt hE)) hy
      have i1 : (k : Int) < (ks.length : Int) := by omega
      have i3 : (k : Int) < 9223372036854775807 := by omega
      have hfk : fs[k]? = some (emit x y full) := by rw [HFS.out, List.getElem?_map, hy]; rfl
      have hIH := HIH.out y (List.mem_of_getElem? hy)
      unfold qcells at hq
      have HQ := Lib.hid hq
      have HFK := Lib.hid hfk
      have HRR := Lib.hid hR
      have HI := Lib.hid hIH
      clear hq hfk hR hIH hy
      go_upto_region 5 with fail
      obtain ⟨Q, hQ⟩ : ∃ Q, Q = qcells y.h y.kids.length B1 B2 B3 B4 d1 d2 d3 d4 := ⟨_, rfl⟩
      obtain ⟨W8, hW8⟩ : ∃ W, W = wr.alloc (.cells Q 29) := ⟨_, rfl⟩
      have T8 : Blk W8 wr.heap.size 29 Q := by rw [hW8]; exact Blk.new _ _ _
      have hb8 : Below wr.heap.size wr W8 := by rw [hW8]; exact Base.bel
      have hR8 := HRR.out.grow hb8
      have hq8 : QVal W8 E Q.toList y := by
        have hE2 := HRR.out.lt
        rw [hQ]; exact HQ.out.kept (hb8.mono (by omega)) (Nat.le_refl _)
      have HQ8 := Lib.hid hq8
      have HR8 := Lib.hid hR8
      unfold qcells at hQ
      rw [← hQ, ← hW8]
      rw [hQ] at T8
      have HQQ := Lib.hid hQ
      have H8 := Lib.hid hb8
      clear x0 x1 x2 x3 x4 x5 x6 x7 x8 x9 x10 x11 x12 x13 x14 hW8 hq8 hR8 hb8 hQ
      obtain ⟨A6, c6, rfl⟩ := HRR.out.slice
      obtain ⟨z0, z1, z2, z3, z4, z5, z6, z7, z8, z9, z10, z11, z12, z13, z14⟩ := qcs T8
      by_cases hk0 : k = 0
      · have HK0 := Lib.hid hk0
        have d0 : decide ((0 : Int) < (k : Int)) = false := decide_eq_false (by omega)
        have d0n : decide (0 < k) = false := decide_eq_false (by omega)
        clear hk0
        have HF8 : Hid (Fits (L ++ (chn sk (some 8) (fs.take k) NS.length).1.map Prod.snd) (NS ++ (chn sk (some 8) (fs.take k) NS.length).2) (emit x y full (NS.length + (chn sk (some 8) (fs.take k) NS.length).2.length)).1.length (emit x y full (NS.length + (chn sk (some 8) (fs.take k) NS.length).2.length)).2.length) := Lib.hid (by
          have hfit := HFIT.out
          have hkl := kid_len0 (sk := sk) (o := some 8) (n := NS.length) (f := emit x y full) (by have := HFK.out; rwa [HK0.out] at this)
          rw [HK0.out, chn_zero]
          unfold Fits at hfit ⊢
          simp only [List.map_nil, List.append_nil, List.length_nil, Nat.add_zero]
          omega)
        go_upto_region 8 with ((go_at_call 22; rw [← HQQ.out]; refine (raw_query HR8.out HI.out HX.out hmb (Nat.le_of_lt hE) HQ8.out HF8.out).mono ?_; rintro e w4 ⟨rfl, hk4, hR4⟩))
        clear z0 z1 z2 z3 z4 z5 z6 z7 z8 z9 z10 z11 z12 z13 z14
        go_wp2_with fail
        go_roundw
        case rel =>
          refine ⟨k + 1, by omega, by go_num, ?_⟩
          rw [HK0.out]
          rw [HK0.out, chn_zero] at hR4
          have := HFK.out
          rw [HK0.out] at this
          rw [kid_raw0 this]
          exact hR4
        case measure => simp [intOf]; omega
      · obtain ⟨k', hk'⟩ : ∃ k', k = k' + 1 := ⟨k - 1, by omega⟩
        have d0 : decide ((0 : Int) < (k : Int)) = true := decide_eq_true (by omega)
        have d0n : decide (0 < k) = true := decide_eq_true (by omega)
        have hlen := kid_len1 (sk := sk) (o := some 8) (n := NS.length) (by rw [← hk']; exact HFK.out)
        rw [← hk'] at hlen
        obtain ⟨r, hr⟩ : ∃ r, r = chn sk (some 8) (fs.take k) NS.length := ⟨_, rfl⟩
        rw [← hr] at hlen
        have HLN := Lib.hid hlen
        have HKK := Lib.hid hk'
        have HRE := Lib.hid hr
        rw [← hr] at HR8 ⊢
        clear hk0 hlen hk' hr HRR
        cases full
        · have hsk := HSK.out
          simp only [Bool.false_eq_true, if_false] at hsk
          subst hsk
          have hf1 : Hid ((L ++ r.1.map Prod.snd).length ≤ 1099511627776) := Lib.hid (by have h1 := HLN.out.1; have h2 := HFIT.out.1; simp at h1 ⊢; omega)
          have hf0 : (posns r.1 L.length).length ≤ 1099511627776 := by have h1 := posns_len r.1 L.length; have h2 := HLN.out.1; have h3 := HFIT.out.1; simp at h2; omega
          have hwE : w.heap.size ≤ W8.heap.size := HR8.out.keeps.size
          go_upto_region 7 with (first | (go_at_call 23; go_loud (refine (raw_skip 16 HR8.out hf1.out).mono ?_; rintro e w2 ⟨rfl, hk2, hM2⟩; have T2 := hk2.blk T8 qry_plain; have hw2 : w.heap.size ≤ w2.heap.size := hM2.keeps.size; have HM2 := Lib.hid hM2; have hq2 := HQ8.out.kept (hk2.below (by omega)) (Nat.le_refl _); have HQ2 := Lib.hid hq2; clear z0 z1 z2 z3 z4 z5 z6 z7 z8 z9 z10 z11 z12 z13 z14 hM2 hk2 hq2)) | (at_builtin; go_loud (refine wpList_append1k (base := w.heap.size) rfl _ _ rfl intEl HM2.out.own rfl rfl rfl rfl (by omega) (by unfold maxLen; omega) hw2 ?_; intro gg cap w3 ho3 hat3; have hR3 := HM2.out.list ho3 hat3; have T3 := T2.grown (hat_grown (Below.refl _ _) hat3) (fun e => own_ne HM2.out.own T2 (by decide) e.symm); have HR3 := Lib.hid hR3; have hq3 := HQ2.out.kept (grown_below (hat_grown (Below.refl _ _) hat3) (fun k e => by have := (HM2.out.own.lt k e).1; omega) (by omega)) (Nat.le_refl _); have HQ3 := Lib.hid hq3; clear ho3 hat3 hR3 hq3)))
          obtain ⟨z0, z1, z2, z3, z4, z5, z6, z7, z8, z9, z10, z11, z12, z13, z14⟩ := qcs T3
          have hf2 : Hid (Fits (L ++ (r.1 ++ [(true, (⟨16, 0, 0⟩ : Ins))]).map Prod.snd) (NS ++ r.2) (emit x y false (NS.length + r.2.length)).1.length (emit x y false (NS.length + r.2.length)).2.length) := Lib.hid (by
            have h1 := HLN.out; have h2 := HFIT.out; unfold Fits at h2 ⊢; simp at h1 ⊢; omega)
          have hf3 : Hid ((L ++ ((r.1 ++ [(true, (⟨16, 0, 0⟩ : Ins))]) ++ (emit x y false (NS.length + r.2.length)).1.map (fun i => (false, i))).map Prod.snd).length ≤ 1099511627776) := Lib.hid (by
            have h1 := HLN.out; have h2 := HFIT.out; unfold Fits at h2; simp at h1 ⊢; omega)
          go_upto_region 8 with ((go_at_call 22; rw [← HQQ.out]; refine (raw_query HR3.out HI.out HX.out hmb (Nat.le_of_lt hE) HQ3.out hf2.out).mono ?_; rintro e w4 ⟨rfl, hk4, hR4⟩; have HR4 := Lib.hid hR4; clear hR4 hk4))
          clear z0 z1 z2 z3 z4 z5 z6 z7 z8 z9 z10 z11 z12 z13 z14
          go_upto_region 10 with ((go_at_call 23; refine (raw_put 8 0 0 HR4.out hf3.out).mono ?_; rintro e w5 ⟨⟨v5, rfl⟩, hk5, hR5⟩; have HR5 := Lib.hid hR5; clear hR5 hk5))
          go_wp2_with fail
          go_roundw
          case rel =>
            refine ⟨k + 1, by omega, by go_num, ?_⟩
            have hfk := HFK.out
            rw [HKK.out] at hfk ⊢
            rw [kid_rawS hfk (r := r) (by rw [← HKK.out]; exact HRE.out.symm)]
            exact HR5.out
          case measure => simp [intOf]; omega
        · have hsk := HSK.out
          simp only [if_true] at hsk
          subst hsk
          have hf2 : Hid (Fits (L ++ r.1.map Prod.snd) (NS ++ r.2) (emit x y true (NS.length + r.2.length)).1.length (emit x y true (NS.length + r.2.length)).2.length) := Lib.hid (by
            have h1 := HLN.out; have h2 := HFIT.out; unfold Fits at h2 ⊢; simp at h1 ⊢; omega)
          have hf3 : Hid ((L ++ (r.1 ++ (emit x y true (NS.length + r.2.length)).1.map (fun i => (false, i))).map Prod.snd).length ≤ 1099511627776) := Lib.hid (by
            have h1 := HLN.out; have h2 := HFIT.out; unfold Fits at h2; simp at h1 ⊢; omega)
          go_upto_region 8 with ((go_at_call 22; rw [← HQQ.out]; refine (raw_query HR8.out HI.out HX.out hmb (Nat.le_of_lt hE) HQ8.out hf2.out).mono ?_; rintro e w4 ⟨rfl, hk4, hR4⟩; have HR4 := Lib.hid hR4; clear hR4 hk4))
          clear z0 z1 z2 z3 z4 z5 z6 z7 z8 z9 z10 z11 z12 z13 z14
          go_upto_region 10 with ((go_at_call 23; refine (raw_put 8 0 0 HR4.out hf3.out).mono ?_; rintro e w5 ⟨⟨v5, rfl⟩, hk5, hR5⟩; have HR5 := Lib.hid hR5; clear hR5 hk5))
          go_wp2_with fail
          go_roundw
          case rel =>
            refine ⟨k + 1, by omega, by go_num, ?_⟩
            have hfk := HFK.out
            rw [HKK.out] at hfk ⊢
            rw [kid_rawN hfk (r := r) (by rw [← HKK.out]; exact HRE.out.symm)]
            exact HR5.out
          case measure => simp [intOf]; omega
    · obtain rfl : k = ks.length := by omega
      have hfl : fs.length = ks.length := by rw [HFS.out]; simp
      rw [← hfl, List.take_length] at hR
      obtain ⟨A6, c6, rfl⟩ := hR.slice
      have hf1 : Hid ((L ++ ((chn sk (some 8) fs) NS.length).1.map Prod.snd).length ≤ 1099511627776) := Lib.hid (by have h2 := HFIT.out.1; simp at h2 ⊢; omega)
      have HRZ := Lib.hid hR
      clear hR hfl
      go_wp2_with (go_at_call 76; refine (raw_land HRZ.out hf1.out).mono ?_; rintro e w4 ⟨rfl, hk4⟩)
      go_end0
      exact ⟨rfl, hk4⟩
end Go.Proofs.YtfpikilhbkeajaaGreatDoor.EmitMost

namespace Go.Proofs.YtfpikilhbkeajaaGreatDoor.EmitSplit
set_option maxRecDepth 100000
open Go.RowKit Go.PlainAid Base Query QrySize EmitPlain EmitBase EmitPut LeafMap EmitNear EmitRaw EmitMost

def KLQ (w : World) (E : Nat) (A : Option Addr) (ks : List Qry) : Prop := ks ≠ [] → ∃ (g o : Nat) (kc : Nat → List Value) (cs : Array Value) (fr : Nat × Nat), A = some ⟨g, o, none⟩ ∧ w.heap[g]? = some (.cells cs 29 fr) ∧
  (∀ i, i < ks.length → ∀ j u, (kc i)[j]? = some u → w.cell? ⟨g, o + i * 15 + j, none⟩ = some u) ∧ ∀ i k, ks[i]? = some k → QVal w E (kc i) k
theorem KLQ.kl {w : World} {E : Nat} {A : Option Addr} {ks : List Qry} (h : KLQ w E A ks) : KL w E A ks := fun hne => by
  obtain ⟨g, o, kc, cs, fr, e, hs, hc, hq⟩ := h hne
  exact ⟨g, o, kc, e, ⟨(Array.getElem?_eq_some_iff.1 hs).1, .inr fun cs' t' fr' h' => by
    rw [hs] at h'
    rw [← (Obj.cells.inj (Option.some.inj h')).2.1]
    exact qry_plain⟩, hc, hq⟩
theorem KLQ.below {w w' : World} {E : Nat} {A : Option Addr} {ks : List Qry} (h : KLQ w E A ks) (hb : Below w.heap.size w w') (hE : E ≤ w.heap.size) : KLQ w' E A ks := fun hne => by
  obtain ⟨g, o, kc, cs, fr, e, hs, hc, hq⟩ := h hne
  have hg : g < w.heap.size := (Array.getElem?_eq_some_iff.1 hs).1
  exact ⟨g, o, kc, cs, fr, e, (hb.block g hg).trans hs, fun i hi j u hu => (cell_block (hb.block g hg) _).trans (hc i hi j u hu), fun i k hi => (hq i k hi).kept hb hE⟩
def QsV (w : World) (B : Nat) (ks : List Qry) (xs : List Value) : Prop := ∃ f : Nat → List Value, xs = ((List.range ks.length).map f).flatten ∧ ∀ i k, ks[i]? = some k → QVal w B (f i) k
theorem QsV.nil (w : World) (B : Nat) : QsV w B [] [] := ⟨fun _ => [], rfl, fun i n h => by simp at h⟩
theorem QsV.below {w w' : World} {B B' : Nat} {ks : List Qry} {xs : List Value} (h : QsV w B ks xs) (hb : Below B' w w') (hB : B ≤ B') : QsV w' B ks xs := by
  obtain ⟨f, e, h⟩ := h
  exact ⟨f, e, fun i k hk => (h i k hk).kept hb hB⟩
theorem QsV.snoc {w : World} {B : Nat} {ks : List Qry} {xs cs : List Value} {q : Qry} (h : QsV w B ks xs) (hq : QVal w B cs q) : QsV w B (ks ++ [q]) (xs ++ cs) := by
  obtain ⟨f, rfl, h⟩ := h
  refine ⟨fun i => if i < ks.length then f i else cs, ?_, fun i m hm => ?_⟩
  · rw [List.length_append, List.length_singleton, List.range_succ, List.map_append, List.flatten_append]
    congr 1
    · congr 1
      apply List.map_congr_left
      intro i hi
      simp only [List.mem_range] at hi
      rw [if_pos hi]
    · simp
  · by_cases hi : i < ks.length
    · rw [List.getElem?_append_left hi] at hm
      show QVal w B (if i < ks.length then f i else cs) m
      rw [if_pos hi]
      exact h i m hm
    · rw [List.getElem?_append_right (by omega)] at hm
      have : i - ks.length = 0 := by
        rcases Nat.eq_zero_or_pos (i - ks.length) with h | h
        · exact h
        · rw [List.getElem?_eq_none (by simp; omega)] at hm; cases hm
      rw [this] at hm
      simp only [List.getElem?_cons_zero, Option.some.injEq] at hm
      subst hm
      show QVal w B (if i < ks.length then f i else cs) q
      rw [if_neg hi]
      exact hq
theorem flat_get : ∀ (L : List (List Value)), (∀ l ∈ L, l.length = 15) → ∀ (i j : Nat) (u : Value) (l : List Value), L[i]? = some l → l[j]? = some u → L.flatten[i * 15 + j]? = some u
  | [], _, i, j, u, l, h, _ => by simp at h
  | x :: r, hl, 0, j, u, l, h, hu => by
    simp only [List.getElem?_cons_zero, Option.some.injEq] at h
    subst h
    rw [List.flatten_cons, List.getElem?_append_left (by have := (List.getElem?_eq_some_iff.1 hu).1; omega)]
    simpa using hu
  | x :: r, hl, i + 1, j, u, l, h, hu => by
    have hx : x.length = 15 := hl x (by simp)
    rw [List.flatten_cons, List.getElem?_append_right (by omega), hx, show (i + 1) * 15 + j - 15 = i * 15 + j by omega]
    exact flat_get r (fun l hl' => hl l (by simp [hl'])) i j u l (by simpa using h) hu
theorem klq_own {w : World} {base B n : Nat} {A : Option Addr} {c : Nat} {ks : List Qry} {xs : List Value} (h : w.ownsRow base 29 15 (.slice A n c) n xs) (hn : n = ks.length) (hq : QsV w B ks xs) : KLQ w B A ks := fun hne => by
  obtain ⟨f, rfl, hf⟩ := hq
  have hpos : 0 < n := by rw [hn]; exact List.length_pos_iff.2 hne
  obtain ⟨g, rfl, _, ⟨cs, hb⟩, hc⟩ := own_num h hpos
  refine ⟨g, 0, f, cs, (0, 0), rfl, hb, fun i hi j u hu => ?_, hf⟩
  rw [Nat.zero_add]
  refine hc _ _ (flat_get _ (fun l hl => ?_) i j u (f i) (by simp [hi]) hu)
  obtain ⟨i', hi', rfl⟩ := List.mem_map.1 hl
  exact (hf i' _ (List.getElem?_eq_getElem (List.mem_range.1 hi'))).len
theorem split_take {α : Type} {oc : List Int} {o p : Int} {ks : List α} {k : Nat} {y : α} (hy : ks[k]? = some y) (hp : oc[k]? = some p) : split oc o (ks.take (k + 1)) = split oc o (ks.take k) ++ (if p == o then [y] else []) := by
  induction k generalizing ks oc with
  | zero =>
    cases ks with
    | nil => simp at hy
    | cons a r =>
      cases oc with
      | nil => simp at hp
      | cons b s =>
        simp only [List.getElem?_cons_zero, Option.some.injEq] at hy hp
        subst hy; subst hp
        simp only [split, List.take_succ_cons, List.take_zero, List.zip_cons_cons, List.zip_nil_left, List.filter_cons, List.filter_nil]
        split <;> simp
  | succ k ih =>
    cases ks with
    | nil => simp at hy
    | cons a r =>
      cases oc with
      | nil => simp at hp
      | cons b s =>
        have := ih (ks := r) (oc := s) (by simpa using hy) (by simpa using hp)
        simp only [split, List.take_succ_cons, List.zip_cons_cons, List.filter_cons] at this ⊢
        split <;> simp [this]
theorem split_len {α : Type} (oc : List Int) (o : Int) (ks : List α) : (split oc o ks).length ≤ ks.length := by
  unfold split
  rw [List.length_map]
  refine Nat.le_trans (List.length_filter_le _ _) ?_
  rw [List.length_zip]
  omega
theorem qryEl : Elem Tryz.prog 27 29 (.agg #[.int .i64 0, .int .i64 0, .string ByteArray.empty, .slice none 0 0, .slice none 0 0, .int .i64 0, .int .u64 0, .bool false, .bool false, .string ByteArray.empty, .bool false, .bool false, .string ByteArray.empty, .slice none 0 0, .slice none 0 0]) 15 192 := .mk_ (by kernel_rfl) (by kernel_rfl) rfl (by decide)

def IsSplit (B : Nat) (ks : List Qry) (w : World) (e : Ending) (w' : World) : Prop := ∃ A c, e = .returned (.slice A ks.length c) ∧ KLQ w' B A ks ∧ Below w.heap.size w w'

set_option maxHeartbeats 2000000 in
theorem split_any (hd : Head) (ks : List Qry) (A1 A2 A3 A4 : Option Addr) (c1 c2 c3 c4 : Nat) (oc : Int) (B : Nat) (w : World) (hB : B ≤ w.heap.size) (hkl : KL w B A4 ks) (hoc : Slc w B A3 (ints hd.occur)) (hlen : hd.occur.length = ks.length) (hks : ks.length ≤ 1048576) :
    Calls Tryz.prog 77 #[.agg (qcells hd ks.length A1 A2 A3 A4 c1 c2 c3 c4), .int .i64 oc] w (IsSplit B (split hd.occur oc ks) w) := by
  obtain ⟨C, hC⟩ : ∃ C, C = qcells hd ks.length A1 A2 A3 A4 c1 c2 c3 c4 := ⟨_, rfl⟩
  obtain ⟨W1, hW1⟩ : ∃ W, W = w.alloc (.cells C 29) := ⟨_, rfl⟩
  have K1 : Blk W1 w.heap.size 29 C := by rw [hW1]; exact Blk.new w _ _
  have hbW : Below w.heap.size w W1 := by rw [hW1]; exact Base.bel
  have hsz : W1.heap.size = w.heap.size + 1 := by rw [hW1]; simp
  have q14 : W1.cell? ⟨w.heap.size, 14, none⟩ = some (.slice A4 ks.length c4) := by rw [K1.cell 14, hC]; rfl
  have q13 : W1.cell? ⟨w.heap.size, 13, none⟩ = some (.slice A3 ks.length c3) := by rw [K1.cell 13, hC, ← hlen]; rfl
  rw [← hC]
  have HW := Lib.hid hW1
  have HKL := Lib.hid (hkl.kept (Keeps.of_below hbW B) hB)
  have HOC := Lib.hid hoc
  have HLN := Lib.hid hlen
  have HSZ := Lib.hid hsz
  have HBW := Lib.hid hbW
  clear hW1 hC hkl hoc hlen K1 hbW hsz
  go_enter Tryz.func77, Tryz.ntmps77
  go_upto_region 1 with fail
  rw [← HW.out]
  go_wp2_with fail
  go_loopw [11, 5] (fun i s wr => ∃ (k : Nat) (xs : List Value), k ≤ ks.length ∧ i = .int .i64 k ∧ Below W1.heap.size W1 wr ∧ wr.ownsRow W1.heap.size 29 15 s (split hd.occur oc (ks.take k)).length xs ∧ QsV wr B (split hd.occur oc (ks.take k)) xs) (fun i _ _ => ks.length - (intOf i).toNat)
  case atStart => exact ⟨0, [], Nat.zero_le _, rfl, Below.refl _ _, World.ownsRow_nil _ _ _ _, .nil _ _⟩
  case round =>
    obtain ⟨k, xs, hk, rfl, hbr, hown, hqs⟩ := hrel
    rcases Nat.lt_or_ge k ks.length with hlt | hge
    · obtain ⟨y, hy⟩ : ∃ y, ks[k]? = some y := ⟨_, List.getElem?_eq_getElem hlt⟩
      obtain ⟨p, hp⟩ : ∃ p, hd.occur[k]? = some p := ⟨_, List.getElem?_eq_getElem (by rw [HLN.out]; exact hlt)⟩
      have hsz1 := HSZ.out
      obtain ⟨g3, o3, rfl, hg3, hc3⟩ := HOC.out (by intro e; have := congrArg List.length e; simp [ints] at this; rw [this] at hp; simp at hp)
      have z13 : ∀ W, Below W1.heap.size W1 W → W.cell? ⟨g3, o3 + k, none⟩ = some (.int .i64 p) := fun W hW => (hW.cell (p := ⟨g3, o3 + k, none⟩) (by show g3 < _; omega)).trans ((HBW.out.cell (p := ⟨g3, o3 + k, none⟩) (by show g3 < _; omega)).trans (hc3 k _ (by simp [ints, hp])))
      obtain ⟨g, o, rfl, B1, B2, B3, B4, d1, d2, d3, d4, hq, x0, x1, x2, x3, x4, x5, x6, x7, x8, x9, x10, x11, x12, x13, x14⟩ := kl_kid (HKL.out.kept (Keeps.of_below (w' := wr) (w := W1) hbr B) (by omega)) hy
      have i1 : (k : Int) < (ks.length : Int) := by omega
      have i3 : (k : Int) < 9223372036854775807 := by omega
      have i4 : (split hd.occur oc (ks.take k)).length ≤ 1048576 := Nat.le_trans (split_len _ _ _) (by rw [List.length_take]; omega)
      obtain ⟨A5, c5, rfl⟩ := own_slice hown
      unfold qcells at hq
      have HQ := Lib.hid hq
      have HY := Lib.hid hy
      have HP := Lib.hid hp
      have HZ := Lib.hid z13
      have HQS := Lib.hid hqs
      have HOW := Lib.hid hown
      have HBR := Lib.hid hbr
      have hszr := hbr.size
      clear hq hy hp z13 hqs hown hsz1
      go_upto_region 5 with fail
      obtain ⟨Q, hQ⟩ : ∃ Q, Q = qcells y.h y.kids.length B1 B2 B3 B4 d1 d2 d3 d4 := ⟨_, rfl⟩
      obtain ⟨W8, hW8⟩ : ∃ W, W = wr.alloc (.cells Q 29) := ⟨_, rfl⟩
      have T8 : Blk W8 wr.heap.size 29 Q := by rw [hW8]; exact Blk.new _ _ _
      have hb8 : Below wr.heap.size wr W8 := by rw [hW8]; exact Base.bel
      unfold qcells at hQ
      rw [← hQ, ← hW8]
      rw [hQ] at T8
      have HQQ := Lib.hid hQ
      have H8 := Lib.hid hb8
      have hb8w : Below W1.heap.size W1 W8 := HBR.out.trans (hb8.mono hszr)
      have y13 := HZ.out W8 hb8w
      have q13' : W8.cell? ⟨w.heap.size, 13, none⟩ = some (.slice (some ⟨g3, o3, none⟩) ks.length c3) := (hb8w.cell (p := ⟨w.heap.size, 13, none⟩) (by show w.heap.size < _; have := HSZ.out; omega)).trans q13
      have hown8 := own_below HOW.out hb8
      have HB8 := Lib.hid hb8w
      have hsz8 := hb8w.size
      clear x0 x1 x2 x3 x4 x5 x6 x7 x8 x9 x10 x11 x12 x13 x14 hW8 hb8 hQ hb8w hbr
      obtain ⟨z0, z1, z2, z3, z4, z5, z6, z7, z8, z9, z10, z11, z12, z13, z14⟩ := qcs T8
      by_cases hpo : p = oc
      · subst hpo
        go_upto_region 7 with ((at_builtin; refine wpList_append1 (base := W1.heap.size) rfl _ _ rfl qryEl hown8 rfl rfl rfl rfl (by omega) (by unfold maxLen; omega) hsz8 ?_; intro v' w5 ho hg hb))
        clear z0 z1 z2 z3 z4 z5 z6 z7 z8 z9 z10 z11 z12 z13 z14
        go_wp2_with fail
        go_roundw
        case rel =>
          have hst := split_take (o := p) HY.out HP.out
          rw [beq_self_eq_true, if_pos rfl] at hst
          have hb5 := hb _ HB8.out
          refine ⟨k + 1, _, by omega, by go_num, hb5, by rw [hst, List.length_append]; exact ho, ?_⟩
          rw [hst]
          have hsz1 := HSZ.out
          have hqy : QVal w5 B Q.toList y := by
            rw [HQQ.out]
            exact (HQ.out.kept H8.out (by omega)).kept (hb W8 (Below.refl _ _)) (by omega)
          have := ((HQS.out.below H8.out (by omega)).below (hb W8 (Below.refl _ _)) (by omega)).snoc hqy
          rw [HQQ.out] at this
          exact this
        case measure => simp [intOf]; omega
      · have dp : (p == oc) = false := beq_eq_false_iff_ne.2 hpo
        have HPO := Lib.hid hpo
        clear hpo
        go_wp2_with fail
        go_roundw
        case rel =>
          have hst := split_take (o := oc) HY.out HP.out
          rw [dp, if_neg (by simp), List.append_nil] at hst
          refine ⟨k + 1, _, by omega, by go_num, HB8.out, by rw [hst]; exact hown8, ?_⟩
          rw [hst]
          exact HQS.out.below H8.out (by have := HSZ.out; omega)
        case measure => simp [intOf]; omega
    · obtain rfl : k = ks.length := by omega
      rw [List.take_length] at hown hqs
      obtain ⟨A5, c5, rfl⟩ := own_slice hown
      have HKQ := Lib.hid (klq_own hown rfl hqs)
      have HBB := Lib.hid (bchain HBW.out hbr)
      clear hown hqs hbr
      go_wp2_with fail
      go_ret
      exact ⟨_, _, rfl, HKQ.out, HBB.out⟩
end Go.Proofs.YtfpikilhbkeajaaGreatDoor.EmitSplit

namespace Go.Proofs.YtfpikilhbkeajaaGreatDoor.EmitMiss
set_option maxRecDepth 100000
open Go.RowKit Go.PlainAid Base Query QrySize EmitPlain EmitBase EmitPut LeafMap EmitNear EmitRaw EmitMost EmitSplit

structure KeepL (w w' : World) : Prop where
  size : w.heap.size ≤ w'.heap.size
  block : ∀ (k : Nat) (cs : Array Value) (t : TypeId) (fr : Nat × Nat), w.heap[k]? = some (.cells cs t fr) → t = 29 ∨ t = 65 → w'.heap[k]? = w.heap[k]?
section
variable {E : Nat} {w w' w'' : World}
theorem KeepL.refl (w : World) : KeepL w w := ⟨Nat.le_refl _, fun _ _ _ _ _ _ => rfl⟩
theorem KeepL.trans (h : KeepL w w') (k : KeepL w' w'') : KeepL w w'' := ⟨Nat.le_trans h.size k.size, fun i cs t fr hi ht => (k.block i cs t fr ((h.block i cs t fr hi ht).trans hi) ht).trans (h.block i cs t fr hi ht)⟩
theorem KeepL.of_keeps (h : Keeps E w w') : KeepL w w' := ⟨h.size, fun k cs t fr hk ht => h.block k (Array.getElem?_eq_some_iff.1 hk).1 (.inr fun cs' t' fr' h' => by
  rw [hk] at h'
  rw [← (Obj.cells.inj (Option.some.inj h')).2.1]
  rcases ht with rfl | rfl
  · exact qry_plain
  · unfold emT; decide)⟩
theorem KeepL.of_below (h : Below w.heap.size w w') : KeepL w w' := ⟨h.size, fun k _ _ _ hk _ => h.block k (Array.getElem?_eq_some_iff.1 hk).1⟩
theorem KeepL.of_grown {row : Option Nat} (h : w.grownBy w' row) (hr : ∀ k, row = some k → ∃ cs t fr, w.heap[k]? = some (.cells cs t fr) ∧ t ≠ 29 ∧ t ≠ 65) : KeepL w w' := ⟨h.size, fun k cs t fr hk ht => h.block k (Array.getElem?_eq_some_iff.1 hk).1 fun e => by
  obtain ⟨cs', t', fr', h', n1, n2⟩ := hr k e.symm
  rw [hk] at h'
  have := (Obj.cells.inj (Option.some.inj h')).2.1
  subst this
  rcases ht with e | e
  · exact n1 e
  · exact n2 e⟩
theorem KeepL.blk {g : Nat} {cs : Array Value} (h : KeepL w w') (hb : Blk w g 65 cs) : Blk w' g 65 cs := (h.block g cs _ _ hb (.inr rfl)).trans hb
theorem klq_keep {A : Option Addr} {ks : List Qry} (h : KLQ w E A ks) (hk : KeepL w w') (hb : Below E w w') : KLQ w' E A ks := fun hne => by
  obtain ⟨g, o, kc, cs, fr, e, hs, hc, hq⟩ := h hne
  have hg := hk.block g cs _ fr hs (.inl rfl)
  exact ⟨g, o, kc, cs, fr, e, hg.trans hs, fun i hi j u hu => (cell_block hg _).trans (hc i hi j u hu), fun i k hi => (hq i k hi).kept hb (Nat.le_refl _)⟩
end
structure RawB (w wr : World) (E SB EB : Nat) (h : EH) (L : List Ins) (NS : List Nr) (nc : List Value) (r : List (Bool × Ins) × List Nr) (sv : Value) : Prop where
  raw : Raw w wr E h L NS nc r sv
  sb : Blk wr SB 23 #[sv]
  eb : Blk wr EB 65 #[.pointer (some ⟨E, 0, none⟩)]
  low : w.heap.size ≤ SB
theorem ints_plain : ¬ emT 23 := by unfold emT; decide
theorem ptr_plain : ¬ emT 65 := by unfold emT; decide
section
variable {w wr w1 w' : World} {E SB EB : Nat} {h : EH} {L : List Ins} {NS : List Nr} {nc : List Value} {r : List (Bool × Ins) × List Nr} {sv : Value}
theorem RawB.grow (m : RawB w wr E SB EB h L NS nc r sv) (hb : Below wr.heap.size wr w') : RawB w w' E SB EB h L NS nc r sv :=
  ⟨m.raw.grow hb, m.sb.below hb m.sb.lt, m.eb.below hb m.eb.lt, m.low⟩
theorem RawB.next {r' : List (Bool × Ins) × List Nr} (m : RawB w wr E SB EB h L NS nc r sv) (hk : Keeps E wr w') (hr : Raw w w' E h L NS nc r' sv) : RawB w w' E SB EB h L NS nc r' sv :=
  ⟨hr, hk.blk m.sb ints_plain, hk.blk m.eb ptr_plain, m.low⟩
theorem raw_set {g : Nat} {cs : Array Value} (m : Raw w wr E h L NS nc r sv) (hb : Blk wr g 23 cs) (hg : w.heap.size ≤ g) (hE : E < w.heap.size) (u : Value) : Raw w (wr.setCell ⟨g, 0, none⟩ u) E h L NS nc r sv := by
  obtain ⟨nv, cv, nc', he, hn, ha⟩ := m.em
  have hgr := grown_set (w := wr) g 0 u
  refine ⟨keeps_new m.keeps hgr fun k e => by obtain rfl := Option.some.inj e; exact hg, ⟨nv, cv, nc', ⟨he.blk.grown hgr (fun e => by have := Option.some.inj e; omega), he.code.kept hgr (.inr (own_ne he.code hb (by decide))), he.nears.kept hgr (.inr (own_ne he.nears hb (by decide))), ?_⟩, hn, ha⟩, m.own.kept hgr (.inr (own_ne m.own hb (by decide)))⟩
  obtain ⟨f, e, hf⟩ := he.rows
  refine ⟨f, e, fun i n hi => ?_⟩
  obtain ⟨A1, c1, A2, c2, e2, h1, h2⟩ := hf i n hi
  have stay : ∀ {A : Option Addr} {xs : List Value}, SlcT wr 3 A xs → SlcT (wr.setCell ⟨g, 0, none⟩ u) 3 A xs := fun {A xs} hs => by
    refine hs.grown hgr fun a k ea ek => ?_
    obtain ⟨g', o', cs', fr', e', h', _⟩ := hs
    intro e3
    rw [ea] at e'
    obtain rfl := Option.some.inj e'
    obtain rfl := Option.some.inj ek
    simp only at e3
    subst e3
    unfold Blk at hb
    rw [hb] at h'
    exact absurd (Obj.cells.inj (Option.some.inj h')).2.1 (by decide)
  exact ⟨A1, c1, A2, c2, e2, stay h1, stay h2⟩
end

theorem hat_low {w wa w7 : World} {v : Value} {gg : Nat} (hb : Below w.heap.size w wa) (hat : (v.ownBlock = some gg ∧ wa.grownBy w7 (some gg)) ∨ (wa.heap.size ≤ gg ∧ wa.grownBy w7 none)) : (v.ownBlock = some gg ∧ w.grownBy w7 (some gg)) ∨ (w.heap.size ≤ gg ∧ w.grownBy w7 none) := by
  rcases hat with ⟨e, hg⟩ | ⟨h1, hg⟩
  · exact .inl ⟨e, grown_chain (grown_of_below hb _) hg⟩
  · exact .inr ⟨Nat.le_trans hb.size h1, grown_chain (grown_of_below hb _) hg⟩

set_option maxHeartbeats 2000000 in
theorem miss_any (w wr : World) (E SB EB : Nat) (h : EH) (L : List Ins) (NS : List Nr) (nc : List Value) (r : List (Bool × Ins) × List Nr) (sv : Value) (m : RawB w wr E SB EB h L NS nc r sv) (hE : E < w.heap.size) (hl : L.length + r.1.length ≤ 1099511627776) :
    Calls Tryz.prog 78 #[.pointer (some ⟨SB, 0, none⟩), .pointer (some ⟨EB, 0, none⟩)] wr fun e w' => e = .returned (.tuple #[]) ∧ ∃ sv', RawB w w' E SB EB h L NS nc (r.1 ++ [(true, ⟨15, 0, 0⟩)], r.2) sv' ∧ KeepL wr w' ∧ Below E wr w' := by
  obtain ⟨A6, c6, rfl⟩ := m.raw.slice
  have s0 : wr.cell? ⟨SB, 0, none⟩ = some (.slice A6 (posns r.1 L.length).length c6) := m.sb.cell 0
  have e0 : wr.cell? ⟨EB, 0, none⟩ = some (.pointer (some ⟨E, 0, none⟩)) := m.eb.cell 0
  have hf1 : Hid ((L ++ r.1.map Prod.snd).length ≤ 1099511627776) := Lib.hid (by simp; omega)
  have hf0 : (posns r.1 L.length).length ≤ 1099511627776 := by have h1 := posns_len r.1 L.length; omega
  have HM := Lib.hid m
  clear m hl
  go_enter Tryz.func78, Tryz.ntmps78
  obtain ⟨ie1, ⟨ii, ie2, ie3, ie4, ie5⟩, ie6, ie7⟩ := intEl
  go_region_law (first | (refine step_append_kept (by rfl) _ _ _ (by rfl) w.heap.size 3 ii _ 1 8 ie1 ie2 ie3 ie4 ie5 ie6 ie7 (.slice A6 (posns r.1 L.length).length c6) (posns r.1 L.length).length _ (by rfl) (HM2.out.own.alloc _) ⟨w2.heap.size, 0, none⟩ 1 1 [.int .i64 ((L.length : Int) + (r.1.length : Int))] (by rfl) (by rfl) (World.news_of_block (cs := #[.int .i64 ((L.length : Int) + (r.1.length : Int))]) (t := 3) (fr := (0, 0)) (hnew2 _)) (by simp [Value.oneCell']) (by omega) (by unfold maxLen; omega) (by omega) (by simp only [World.size_alloc]; omega) ?_; intro gg cap w3 ho3 hat3; have hat4 := hat_low ((Below.refl w2.heap.size w2).alloc (Nat.le_refl _) _) hat3; have hR3 := HM2.out.list ho3 hat4; have S3 := HS2.out.grown (hat_grown (Below.refl _ _) hat4) (fun e => own_ne HM2.out.own HS2.out (by decide) e.symm); have E3 := HE2.out.grown (hat_grown (Below.refl _ _) hat4) (fun e => own_ne HM2.out.own HE2.out (by decide) e.symm); have s03 : w3.cell? ⟨SB, 0, none⟩ = some (.slice A6 (posns r.1 L.length).length c6) := S3.cell 0; have f03 : w3.frozen? ⟨SB, 0, none⟩ = false := S3.frozen 0) | (rw [if_pos (by rfl)]; go_simp; go_at_call 23; refine (raw_skip 15 (HM.out.raw.drew) hf1.out).mono ?_; rintro e w2 ⟨rfl, hk2, hM2⟩; have HM2 := Lib.hid hM2; have HS2 := Lib.hid (hk2.blk (HM.out.sb.drew) ints_plain); have HE2 := Lib.hid (hk2.blk (HM.out.eb.drew) ptr_plain); have hnew2 : ∀ o, (w2.alloc o).heap[w2.heap.size]? = some o := fun o => heap_alloc_new w2 o; have s02 : w2.cell? ⟨SB, 0, none⟩ = some (.slice A6 (posns r.1 L.length).length c6) := HS2.out.cell 0; have s02a : ∀ o, (w2.alloc o).cell? ⟨SB, 0, none⟩ = some (.slice A6 (posns r.1 L.length).length c6) := fun o => (HS2.out.alloc o).cell 0; have hw2 : w.heap.size ≤ w2.heap.size := hM2.keeps.size; have HK2 := Lib.hid hk2; clear hM2 hk2; dsimp only))
  all_goals
    have hlow := HM.out.low
    have hk0 : Keeps E wr w2 := (Keeps.refl E wr).drew.trans HK2.out
    have hEr : E < wr.heap.size := HM.out.raw.lt
    have hg4 := hat_grown (Below.refl _ _) hat4
    have hsz2 := hk0.size
    have hsz3 := hg4.size
    go_end0
    refine ⟨rfl, _, ⟨raw_set hR3 S3 hlow hE _, ?_, E3.far (p := ⟨SB, 0, none⟩) (fun e => ?_) _, hlow⟩, ?_, ?_⟩
    · have := S3.set_ 0 (.slice (some ⟨gg, 0, none⟩) ((posns r.1 L.length).length + 1) cap)
      simpa using this
    · simp only at e
      unfold Blk at S3 E3
      rw [e, S3] at E3
      exact absurd (Obj.cells.inj (Option.some.inj E3)).2.1 (by decide)
    · refine ((KeepL.of_keeps hk0).trans (KeepL.of_grown hg4 fun k e => ?_)).trans (KeepL.of_grown (grown_set SB 0 _) fun k e => ?_)
      · obtain ⟨_, cs, fr, h'⟩ := own_type HM2.out.own k e
        exact ⟨cs, _, fr, h', by decide, by decide⟩
      · obtain rfl := Option.some.inj e
        exact ⟨_, _, _, S3, by decide, by decide⟩
    · refine ((hk0.below (Nat.le_of_lt hEr)).trans (grown_below hg4 (fun k e => ?_) (by omega))).trans (grown_below (grown_set SB 0 _) (fun k e => ?_) (by omega))
      · have := (HM2.out.own.lt k e).1; omega
      · obtain rfl := Option.some.inj e; omega
end Go.Proofs.YtfpikilhbkeajaaGreatDoor.EmitMiss
