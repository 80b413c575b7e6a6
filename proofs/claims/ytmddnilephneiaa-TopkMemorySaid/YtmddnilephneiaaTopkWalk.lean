/-
  The walks of topk.Join, Select, After and of slices.Equal over hits.
-/
import Derived.Test.YtmddnilephneiaaKeepWalk
namespace Go.Proofs.Ytmddnilephneiaa.TopkWalk
open Go.RowKit Go.PlainAid HitPlain HeapPlain KeepPlain Base HitBase PushWalk OfferWalk KeepWalk

/-- A keeper at block b that keeps S. -/
def KB (w : World) (B b : Nat) (k : Int) (S : List Hit) : Prop := ∃ v, Keeps w B b k v S

section
variable {w w' : World} {B b : Nat} {k : Int} {S S' : List Hit} {v : Value}
theorem KB.below (h : KB w B b k S) (hb : Below w.heap.size w w') : KB w' B b k S := by
  obtain ⟨v, L, h1, h2, h3, h4⟩ := h
  exact ⟨v, L, h1.below hb, h2, h3, h4⟩
theorem KB.len (h : KB w B b k S) : S.length ≤ k.toNat := by
  obtain ⟨v, L, h1, h2, h3, h4⟩ := h
  exact h4
theorem Offered.kb (hK : Keeps w B b k v S) (hB : B ≤ w.heap.size) (h : Offered w B b k v S' w') : KB w' B b k S' ∧ Below B w w' := by
  obtain ⟨v', h1, h2, _⟩ := h
  obtain ⟨L, hL, _⟩ := hK
  refine ⟨⟨v', h1⟩, h2.toBelow (fun q hq => ⟨?_, fun e => ?_⟩) hB⟩
  · have := hL.base; omega
  · have := (hL.own.lt q e).1; omega
end

theorem offer_kb (B b : Nat) (k : Int) (S : List Hit) (i s : Int) (w : World) (hK : KB w B b k S) (hB : B ≤ w.heap.size) (hn : (S.length + 1) * 16 ≤ 140737488355328) :
    Calls Try.prog 18 #[.pointer (some ⟨b, 0, none⟩), .agg #[.int .i64 i, .int .u64 s]] w fun e w' =>
      e = .returned (.bool (kept k.toNat S (i, s))) ∧ KB w' B b k ((insS (i, s) S).take k.toNat) ∧ Below B w w' := by
  obtain ⟨v, hv⟩ := hK
  exact (offer_any B b k v S i s w hv hB hn).mono fun _ _ ⟨he, ho⟩ => ⟨he, Offered.kb hv hB ho⟩

theorem hits_kb (B b : Nat) (k : Int) (S : List Hit) (w : World) (hK : KB w B b k S) (hB : B ≤ w.heap.size) (hn : S.length * 16 ≤ 140737488355328) :
    Calls Try.prog 13 #[.pointer (some ⟨b, 0, none⟩)] w fun e w' => ∃ A c, e = .returned (.slice A S.length c) ∧ w'.ownsRow w.heap.size 29 2 (.slice A S.length c) S.length (hc S) ∧ Below w.heap.size w w' := by
  obtain ⟨v, hv⟩ := hK
  exact hits_any B b k v S w hv hB hn

/-- A place of a list of hits in memory. -/
theorem slc_at {w : World} {B : Nat} {A : Option Addr} {L : List Hit} (h : Slc w B A (hc L)) (hne : L ≠ []) :
    ∃ g o, A = some ⟨g, o, none⟩ ∧ g < B ∧ ∀ j x, L[j]? = some x → w.cell? ⟨g, o + j * 2, none⟩ = some (.int .i64 x.1) ∧ w.cell? ⟨g, o + j * 2 + 1, none⟩ = some (.int .u64 x.2) := by
  obtain ⟨g, o, e, hg, hcell⟩ := h (by cases L with | nil => exact absurd rfl hne | cons x r => simp [hc, hitC])
  exact ⟨g, o, e, hg, fun j x hx => ⟨hcell _ _ (hc_at0 L j x hx), by have := hcell _ _ (hc_at1 L j x hx); rwa [← Nat.add_assoc] at this⟩⟩

theorem drewN_drewN (w : World) (a b : Nat) : (w.drewN a).drewN b = w.drewN (a + b) := by
  simp [World.drewN, Nat.add_assoc]

set_option maxHeartbeats 2000000 in
theorem equal_q (L : List Hit) (A1 A2 : Option Addr) (c1 c2 B1 B2 : Nat) (w : World) (hl : L.length ≤ 8796093022208) (h1 : Slc w B1 A1 (hc L)) (h2 : Slc w B2 A2 (hc L)) :
    Calls Try.prog 12 #[.slice A1 L.length c1, .slice A2 L.length c2] w fun e w' => e = .returned (.bool true) ∧ ∃ q, w' = w.drewN q := by
  go_enter Try.func12, Try.ntmps12
  go_wp2_with fail
  go_loopw [13] (fun i wr => ∃ j q : Nat, j ≤ L.length ∧ i = .int .i64 j ∧ wr = w.drewN q) (fun i _ => L.length - (intOf i).toNat)
  case atStart => exact ⟨0, 0, Nat.zero_le _, rfl, rfl⟩
  case round =>
    obtain ⟨j, q, hj, rfl, hwr⟩ := hrel
    have HW := Lib.hid hwr
    by_cases hlt : j < L.length
    · obtain ⟨⟨x1, x2⟩, hx⟩ : ∃ x, L[j]? = some x := ⟨_, List.getElem?_eq_getElem hlt⟩
      have hne : L ≠ [] := by intro e; rw [e] at hlt; simp at hlt
      obtain ⟨g1, o1, rfl, _, a1⟩ := slc_at h1 hne
      obtain ⟨g2, o2, rfl, _, a2⟩ := slc_at h2 hne
      obtain ⟨p0, p1⟩ := a1 j _ hx
      obtain ⟨q0, q1⟩ := a2 j _ hx
      have r0 : wr.cell? ⟨g1, o1 + j * 2, none⟩ = some (.int .i64 x1) := by rw [hwr]; exact p0
      have r1 : wr.cell? ⟨g1, o1 + j * 2 + 1, none⟩ = some (.int .u64 x2) := by rw [hwr]; exact p1
      have r2 : wr.cell? ⟨g2, o2 + j * 2, none⟩ = some (.int .i64 x1) := by rw [hwr]; exact q0
      have r3 : wr.cell? ⟨g2, o2 + j * 2 + 1, none⟩ = some (.int .u64 x2) := by rw [hwr]; exact q1
      clear a1 a2 hx h1 h2 p0 p1 q0 q1 hwr
      go_wp2_with fail
      go_quiet (fail)
      go_wp2_with fail
      go_roundw
      case rel => exact ⟨j + 1, _, by omega, by go_num, by rw [HW.out, drewN_drewN]⟩
      case measure => simp [intOf]; omega
    · clear hwr
      go_wp2_with fail
      go_ret
      exact ⟨rfl, q, HW.out⟩
theorem equal_eq (L : List Hit) (A1 A2 : Option Addr) (c1 c2 B1 B2 : Nat) (w : World) (hl : L.length ≤ 8796093022208) (h1 : Slc w B1 A1 (hc L)) (h2 : Slc w B2 A2 (hc L)) :
    Calls Try.prog 12 #[.slice A1 L.length c1, .slice A2 L.length c2] w fun e w' => e = .returned (.bool true) ∧ Below w.heap.size w w' :=
  (equal_q L A1 A2 c1 c2 B1 B2 w hl h1 h2).mono fun _ _ ⟨he, q, hq⟩ => ⟨he, hq ▸ bdrewN (Below.refl _ _) q⟩

/-- A list as it lies: where, its capacity, its hits. -/
abbrev Lst := Option Addr × Nat × List Hit
def lv (x : Lst) : Value := .slice x.1 x.2.2.length x.2.1
/-- Lists of hits in memory below block B. -/
def Lsts (w : World) (B : Nat) (A : Option Addr) (ls : List Lst) : Prop := Slc w B A (ls.map lv) ∧ ∀ x ∈ ls, Slc w B x.1 (hc x.2.2)
theorem Lsts.below {w w' : World} {B B' : Nat} {A : Option Addr} {ls : List Lst} (h : Lsts w B A ls) (hb : Below B' w w') (hB : B ≤ B') : Lsts w' B A ls := ⟨h.1.below hb hB, fun x hx => (h.2 x hx).below hb hB⟩
def allHits (ls : List Lst) : List Hit := (ls.map (fun x => x.2.2)).flatten
theorem allHits_snoc (a : List Lst) (x : Lst) : allHits (a ++ [x]) = allHits a ++ x.2.2 := by simp [allHits]
theorem allHits_take_le (ls : List Lst) (n : Nat) : (allHits (ls.take n)).length ≤ (allHits ls).length := by
  have h : allHits ls = allHits (ls.take n) ++ allHits (ls.drop n) := by
    unfold allHits
    rw [← List.flatten_append, ← List.map_append, List.take_append_drop]
  rw [h, List.length_append]; omega
theorem take_snoc {α : Type} {l : List α} {j : Nat} {x : α} (h : l[j]? = some x) : l.take (j + 1) = l.take j ++ [x] := by
  obtain ⟨hj, e⟩ := List.getElem?_eq_some_iff.1 h
  rw [List.take_succ_eq_append_getElem hj, e]

theorem own_base {w : World} {B B' size n : Nat} {e : TypeId} {v : Value} {xs : List Value} (h : w.ownsRow B e size v n xs) (hB : B' ≤ B) : w.ownsRow B' e size v n xs :=
  ⟨h.1, h.2.imp id fun ⟨g, cap, cur, h1, h2, h3⟩ => ⟨g, cap, cur, h1, Nat.le_trans hB h2, h3⟩⟩

/-- What a function hands back that makes a list of hits. -/
def Makes (w : World) (L : List Hit) (e : Ending) (w' : World) : Prop :=
  ∃ A c, e = .returned (.slice A L.length c) ∧ w'.ownsRow w.heap.size 29 2 (.slice A L.length c) L.length (hc L) ∧ Below w.heap.size w w'

set_option maxRecDepth 100000 in
set_option maxHeartbeats 4000000 in
theorem join_any (ls : List Lst) (A : Option Addr) (c B : Nat) (k : Int) (w : World) (hB : B ≤ w.heap.size) (h : Lsts w B A ls) (hl : ls.length ≤ 8796093022208) (hn : ((allHits ls).length + 1) * 16 ≤ 140737488355328) :
    Calls Try.prog 16 #[.slice A ls.length c, .int .i64 k] w (Makes w (tk k.toNat (allHits ls))) := by
  go_enter Try.func16, Try.ntmps16
  go_wp2_with (go_at_call 10; refine (new_any _ _).mono ?_; rintro e w1 ⟨rfl, hk1, hb1, hlt1⟩)
  have hkb : KB w1 w.heap.size w.heap.size k (tk k.toNat []) := ⟨_, by rw [tk_nil]; exact hk1⟩
  have hs1 := hb1.size
  clear hk1
  go_loopw [14] (fun i wr => ∃ j : Nat, j ≤ ls.length ∧ i = .int .i64 j ∧ KB wr w.heap.size w.heap.size k (tk k.toNat (allHits (ls.take j))) ∧ Below w.heap.size w wr) (fun i _ => ls.length - (intOf i).toNat)
  case atStart => exact ⟨0, Nat.zero_le _, rfl, hkb, hb1⟩
  case round =>
    obtain ⟨j, hj, rfl, hkr, hbr⟩ := hrel
    clear hkb hb1 hs1 hlt1
    have hsr := hbr.size
    by_cases hlt : j < ls.length
    · obtain ⟨⟨Ax, cx, L⟩, hx⟩ : ∃ x, ls[j]? = some x := ⟨_, List.getElem?_eq_getElem hlt⟩
      have hmem : ((Ax, cx, L) : Lst) ∈ ls := List.mem_of_getElem? hx
      obtain ⟨g, o, rfl, hg, hc0⟩ := (h.1.below hbr hB) (by intro e; have := congrArg List.length e; simp at this; rw [this] at hlt; simp at hlt)
      have p0 : wr.cell? ⟨g, o + j, none⟩ = some (.slice Ax L.length cx) := hc0 j _ (by rw [List.getElem?_map, hx]; rfl)
      have hsl : Slc w B Ax (hc L) := h.2 _ hmem
      have ha : Hid (allHits (ls.take (j + 1)) = allHits (ls.take j) ++ L) := Lib.hid (by rw [take_snoc hx, allHits_snoc])
      have hle := allHits_take_le ls (j + 1)
      rw [ha.out, List.length_append] at hle
      clear hc0 hx hmem
      obtain ⟨P0, hP0⟩ : ∃ P0, P0 = allHits (ls.take j) := ⟨_, rfl⟩
      rw [← hP0] at hkr hle ha
      clear hP0
      go_wp2_with fail
      obtain ⟨wo, rfl⟩ : ∃ wo : World, wo = wr := ⟨_, rfl⟩
      go_loopw [20] (fun i wr2 => ∃ q : Nat, q ≤ L.length ∧ i = .int .i64 q ∧ KB wr2 w.heap.size w.heap.size k (tk k.toNat (P0 ++ L.take q)) ∧ Below w.heap.size w wr2) (fun i _ => L.length - (intOf i).toNat)
      case atStart => exact ⟨0, Nat.zero_le _, rfl, by rw [List.take_zero, List.append_nil]; exact hkr, hbr⟩
      case round =>
        clear hkr hbr hsr p0
        obtain ⟨q, hq, rfl, hkr, hbr⟩ := hrel
        have hsr := hbr.size
        by_cases hql : q < L.length
        · obtain ⟨⟨x1, x2⟩, hx⟩ : ∃ x, L[q]? = some x := ⟨_, List.getElem?_eq_getElem hql⟩
          obtain ⟨g2, o2, rfl, hg2, a2⟩ := slc_at (hsl.below hbr hB) (by intro e; rw [e] at hql; simp at hql)
          obtain ⟨q0, q1⟩ := a2 q _ hx
          have ht : Hid (tk k.toNat (P0 ++ L.take (q + 1)) = (insS (x1, x2) (tk k.toNat (P0 ++ L.take q))).take k.toNat) := Lib.hid (by rw [take_snoc hx, ← List.append_assoc, tk_snoc])
          have hlen : (tk k.toNat (P0 ++ L.take q)).length ≤ P0.length + q := by rw [tk_len, List.length_append, List.length_take]; omega
          clear a2 hx
          have hkr2 := hkr.below ((Below.refl _ _).alloc (Nat.le_refl _) (.cells #[.int .i64 x1, .int .u64 x2] 29))
          go_wp2_with (go_at_call 18; refine (offer_kb _ _ _ _ _ _ _ hkr2 (by simp; omega) (by omega)).mono ?_; rintro e w5 ⟨rfl, hk5, hb5⟩)
          go_roundw
          case rel => exact ⟨q + 1, by omega, by go_num, by rw [ht.out]; exact hk5, (hbr.alloc hsr _).trans hb5⟩
          case measure => simp [intOf]; omega
        · obtain rfl : q = L.length := by omega
          rw [List.take_length] at hkr
          go_wp2_with fail
          go_roundw
          case rel => exact ⟨j + 1, by omega, by go_num, by rw [ha.out]; exact hkr, hbr⟩
          case measure => simp [intOf]; omega
    · obtain rfl : j = ls.length := by omega
      rw [List.take_length] at hkr
      have hlen : (tk k.toNat (allHits ls)).length ≤ (allHits ls).length := by rw [tk_len]; omega
      go_wp2_with (go_at_call 13; refine (hits_kb _ _ _ _ _ hkr hsr (by omega)).mono ?_; rintro e w5 ⟨A5, c5, rfl, hown5, hb5⟩)
      go_ret
      exact ⟨A5, c5, rfl, own_base hown5 hsr, hbr.trans (hb5.mono hsr)⟩

set_option maxHeartbeats 2000000 in
theorem select_any (L : List Hit) (A : Option Addr) (c B : Nat) (k : Int) (w : World) (hB : B ≤ w.heap.size) (h : Slc w B A (hc L)) (hn : (L.length + 1) * 16 ≤ 140737488355328) :
    Calls Try.prog 15 #[.slice A L.length c, .int .i64 k] w (Makes w (tk k.toNat L)) := by
  have hb1 : Below w.heap.size w (w.alloc (.cells #[.slice A L.length c] 26)) := (Below.refl _ _).alloc (Nat.le_refl _) _
  have hs1 : (w.alloc (.cells #[.slice A L.length c] 26)).heap.size = w.heap.size + 1 := by simp
  have hL : Lsts (w.alloc (.cells #[.slice A L.length c] 26)) (w.heap.size + 1) (some ⟨w.heap.size, 0, none⟩) [(A, c, L)] := ⟨slc_new w #[.slice A L.length c] _, fun x hx => by
    have : x = (A, c, L) := by simpa using hx
    subst this
    exact (h.below hb1 hB).mono (by omega)⟩
  have e : allHits [(A, c, L)] = L := by simp [allHits]
  have key := join_any [(A, c, L)] _ 1 _ k _ (by omega) hL (by simp) (by rw [e]; exact hn)
  rw [e] at key
  have K := Lib.hid key
  clear key hL
  go_enter Try.func15, Try.ntmps15
  go_wp2_with (go_at_call 16; refine K.out.mono ?_; rintro e w5 ⟨A5, c5, rfl, hown5, hb5⟩)
  go_ret
  exact ⟨A5, c5, rfl, own_base hown5 (by omega), bchain hb1 hb5⟩

/-- The hits that h stands ahead of. -/
def behind (h : Hit) (L : List Hit) : List Hit := L.filter (fun x => btr h x)
theorem behind_snoc_y {h x : Hit} {L : List Hit} (hb : btr h x = true) : behind h (L ++ [x]) = behind h L ++ [x] := by simp [behind, hb]
theorem behind_snoc_n {h x : Hit} {L : List Hit} (hb : btr h x = false) : behind h (L ++ [x]) = behind h L := by simp [behind, hb]
theorem behind_le (h : Hit) (L : List Hit) : (behind h L).length ≤ L.length := List.length_filter_le _ _

set_option maxRecDepth 100000 in
set_option maxHeartbeats 4000000 in
theorem after_any (L : List Hit) (A : Option Addr) (c B : Nat) (h1 h2 k : Int) (w : World) (hB : B ≤ w.heap.size) (h : Slc w B A (hc L)) (hn : (L.length + 1) * 16 ≤ 140737488355328) :
    Calls Try.prog 23 #[.slice A L.length c, .agg #[.int .i64 h1, .int .u64 h2], .int .i64 k] w (Makes w (tk k.toNat (behind (h1, h2) L))) := by
  have hb0 : Below w.heap.size w (w.alloc (.cells #[.int .i64 h1, .int .u64 h2] 29)) := (Below.refl _ _).alloc (Nat.le_refl _) _
  have b0 : (w.alloc (.cells #[.int .i64 h1, .int .u64 h2] 29)).cell? ⟨w.heap.size, 0, none⟩ = some (.int .i64 h1) := by rw [World.cell?_alloc_mark]; rfl
  have b1 : (w.alloc (.cells #[.int .i64 h1, .int .u64 h2] 29)).cell? ⟨w.heap.size, 1, none⟩ = some (.int .u64 h2) := by rw [World.cell?_alloc_mark]; rfl
  have hs0 : (w.alloc (.cells #[.int .i64 h1, .int .u64 h2] 29)).heap.size = w.heap.size + 1 := by simp
  generalize hw0 : w.alloc (.cells #[.int .i64 h1, .int .u64 h2] 29) = w0 at hb0 b0 b1 hs0
  have HW0 := Lib.hid hw0
  clear hw0
  go_enter Try.func23, Try.ntmps23
  go_wp2_with fail
  rw [HW0.out]
  refine (new_any _ _).mono ?_
  rintro e w1 ⟨rfl, hk1, hb1, hlt1⟩
  rw [hs0] at hk1
  have HS0 := Lib.hid hs0
  have hkb : KB w1 (w.heap.size + 1) (w.heap.size + 1) k (tk k.toNat (behind (h1, h2) [])) := ⟨_, by unfold behind; rw [List.filter_nil, tk_nil]; exact hk1⟩
  rw [hs0]
  rw [hs0] at hb1 hlt1
  clear hk1 hs0
  go_wp2_with fail
  go_loopw [14] (fun i wr => ∃ j : Nat, j ≤ L.length ∧ i = .int .i64 j ∧ KB wr (w.heap.size + 1) (w.heap.size + 1) k (tk k.toNat (behind (h1, h2) (L.take j))) ∧ Below (w.heap.size + 1) w0 wr) (fun i _ => L.length - (intOf i).toNat)
  case atStart => exact ⟨0, Nat.zero_le _, rfl, hkb, hb1⟩
  case round =>
    obtain ⟨j, hj, rfl, hkr, hbr⟩ := hrel
    clear hkb hb1 hlt1
    have hsr := hbr.size
    rw [HS0.out] at hsr
    have hbw : Below w.heap.size w wr := hb0.trans (hbr.mono (by omega))
    by_cases hlt : j < L.length
    · obtain ⟨⟨x1, x2⟩, hx⟩ : ∃ x, L[j]? = some x := ⟨_, List.getElem?_eq_getElem hlt⟩
      obtain ⟨g2, o2, rfl, hg2, a2⟩ := slc_at (h.below hbw hB) (by intro e; rw [e] at hlt; simp at hlt)
      obtain ⟨q0, q1⟩ := a2 j _ hx
      have hle := behind_le (h1, h2) (L.take j)
      rw [List.length_take] at hle
      have hlen : (tk k.toNat (behind (h1, h2) (L.take j))).length ≤ j := by rw [tk_len]; omega
      have c0 : wr.cell? ⟨w.heap.size, 0, none⟩ = some (.int .i64 h1) := (hbr.cell (p := ⟨w.heap.size, 0, none⟩) (by show w.heap.size < _; omega)).trans b0
      have c1 : wr.cell? ⟨w.heap.size, 1, none⟩ = some (.int .u64 h2) := (hbr.cell (p := ⟨w.heap.size, 1, none⟩) (by show w.heap.size < _; omega)).trans b1
      have hbx : Below wr.heap.size wr (wr.alloc (.cells #[.int .i64 x1, .int .u64 x2] 29)) := (Below.refl _ _).alloc (Nat.le_refl _) _
      have e0 : (wr.alloc (.cells #[.int .i64 x1, .int .u64 x2] 29)).cell? ⟨w.heap.size, 0, none⟩ = some (.int .i64 h1) := (hbx.cell (p := ⟨w.heap.size, 0, none⟩) (by show w.heap.size < _; omega)).trans c0
      have e1 : (wr.alloc (.cells #[.int .i64 x1, .int .u64 x2] 29)).cell? ⟨w.heap.size, 1, none⟩ = some (.int .u64 h2) := (hbx.cell (p := ⟨w.heap.size, 1, none⟩) (by show w.heap.size < _; omega)).trans c1
      have hx0 : (wr.alloc (.cells #[.int .i64 x1, .int .u64 x2] 29)).cell? ⟨wr.heap.size, 0, none⟩ = some (.int .i64 x1) := by rw [World.cell?_alloc_mark]; rfl
      have hx1 : (wr.alloc (.cells #[.int .i64 x1, .int .u64 x2] 29)).cell? ⟨wr.heap.size, 1, none⟩ = some (.int .u64 x2) := by rw [World.cell?_alloc_mark]; rfl
      have hsx : wr.heap.size < (wr.alloc (.cells #[.int .i64 x1, .int .u64 x2] 29)).heap.size := by simp
      have hkx := hkr.below hbx
      have hbrx : Below (w.heap.size + 1) w0 (wr.alloc (.cells #[.int .i64 x1, .int .u64 x2] 29)) := hbr.trans (hbx.mono hsr)
      have HC0 := Lib.hid hx0
      have HC1 := Lib.hid hx1
      clear a2 hx0 hx1
      cases hb : btr (h1, h2) (x1, x2)
      · have HB := Lib.hid hb
        have ht : Hid (tk k.toNat (behind (h1, h2) (L.take (j + 1))) = tk k.toNat (behind (h1, h2) (L.take j))) := Lib.hid (by rw [take_snoc hx, behind_snoc_n hb])
        clear hb hx
        go_wp2_with (go_at_call 25; refine (better_any _ _ _ _ _).mono ?_; rw [HB.out]; rintro e w4 ⟨rfl, hb4⟩)
        go_roundw
        case rel => exact ⟨j + 1, by omega, by go_num, by rw [ht.out]; exact hkx.below hb4, hbrx.trans (hb4.mono (by omega))⟩
        case measure => simp [intOf]; omega
      · have HB := Lib.hid hb
        have ht : Hid (tk k.toNat (behind (h1, h2) (L.take (j + 1))) = (insS (x1, x2) (tk k.toNat (behind (h1, h2) (L.take j)))).take k.toNat) := Lib.hid (by rw [take_snoc hx, behind_snoc_y hb, tk_snoc])
        clear hb hx
        go_wp2_with (go_at_call 25; refine (better_any _ _ _ _ _).mono ?_; rw [HB.out]; rintro e w4 ⟨rfl, hb4⟩; have d0 := (hb4.cell (p := ⟨wr.heap.size, 0, none⟩) hsx).trans HC0.out; have d1 := (hb4.cell (p := ⟨wr.heap.size, 1, none⟩) hsx).trans HC1.out)
        have hs4 := hb4.size
        go_at_call 18
        refine (offer_kb _ _ _ _ _ _ _ (hkx.below hb4) (by omega) (by omega)).mono ?_
        rintro e w5 ⟨rfl, hk5, hb5⟩
        go_wp2_with fail
        go_roundw
        case rel => exact ⟨j + 1, by omega, by go_num, by rw [ht.out]; exact hk5, (hbrx.trans (hb4.mono (by omega))).trans hb5⟩
        case measure => simp [intOf]; omega
    · obtain rfl : j = L.length := by omega
      rw [List.take_length] at hkr
      have hle := behind_le (h1, h2) L
      have hlen : (tk k.toNat (behind (h1, h2) L)).length ≤ L.length := by rw [tk_len]; omega
      go_wp2_with (go_at_call 13; refine (hits_kb _ _ _ _ _ hkr hsr (by omega)).mono ?_; rintro e w5 ⟨A5, c5, rfl, hown5, hb5⟩)
      go_ret
      exact ⟨A5, c5, rfl, own_base hown5 (by omega), hbw.trans (hb5.mono (by omega))⟩
end Go.Proofs.Ytmddnilephneiaa.TopkWalk
