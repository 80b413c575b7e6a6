/-
  The walks of a keeper: New, Len, Worst, Hits.
-/
import Derived.Test.YtmddnilephneiaaOfferWalk
import Derived.Test.YtmddnilephneiaaSortHits
namespace Go.Proofs.Ytmddnilephneiaa.KeepWalk
open Go.RowKit Go.PlainAid HitPlain HeapPlain KeepPlain Base HitBase PushWalk SinkWalk OfferWalk

theorem hitElem : Elem Try.prog 26 29 (.agg #[.int .i64 0, .int .u64 0]) 2 16 := .mk_ (by kernel_rfl) (by kernel_rfl) rfl (by decide)

theorem new_any (k : Int) (w : World) :
    Calls Try.prog 10 #[.int .i64 k] w fun e w' => e = .returned (.pointer (some ⟨w.heap.size, 0, none⟩)) ∧ Keeps w' w.heap.size w.heap.size k (.slice none 0 0) [] ∧ Below w.heap.size w w' ∧ w.heap.size < w'.heap.size := by
  go_enter Try.func10, Try.ntmps10
  go_wp2_with fail
  go_ret
  exact ⟨rfl, ⟨[], ⟨Blk.new _ _ _, World.ownsRow_nil _ _ _ _, by simp [Value.ownBlock], Nat.le_refl _, fun i a b hi ha => by simp at ha⟩, .refl _, List.Pairwise.nil, Nat.zero_le _⟩, by (repeat (first | exact Below.refl _ _ | assumption | refine balloc ?_ _ | refine bdrew ?_ | refine bdrewN ?_ _ | refine bchain ?_ (by assumption))), by simp⟩

theorem len_keep (B b : Nat) (k : Int) (v : Value) (S : List Hit) (w : World) (hK : Keeps w B b k v S) :
    Calls Try.prog 14 #[.pointer (some ⟨b, 0, none⟩)] w fun e w' => e = .returned (.int .i64 S.length) ∧ w' = w := by
  obtain ⟨L, hL, hperm, _, _⟩ := hK
  obtain ⟨A, c, rfl⟩ := own_slice hL.own
  have e1 : w.cell? ⟨b, 1, none⟩ = some (.slice A L.length c) := hL.blk.cell 1
  have HL := Lib.hid hperm.length_eq
  go_enter Try.func14, Try.ntmps14
  go_wp2_with (go_at_call 32; refine (len_any _ _ _ _ _ (by assumption)).mono ?_; rintro e w' ⟨rfl, rfl⟩)
  go_ret
  rw [HL.out]
  exact ⟨rfl, rfl⟩

/-- The last of the kept. -/
def worst (S : List Hit) : Hit × Bool := match S.getLast? with | some r => (r, true) | none => ((0, 0), false)

set_option maxHeartbeats 1000000 in
theorem worst_any (B b : Nat) (k : Int) (v : Value) (S : List Hit) (w : World) (hK : Keeps w B b k v S) :
    Calls Try.prog 21 #[.pointer (some ⟨b, 0, none⟩)] w fun e w' => e = .returned (.tuple #[.agg #[.int .i64 (worst S).1.1, .int .u64 (worst S).1.2], .bool (worst S).2]) ∧ Below w.heap.size w w' := by
  obtain ⟨L, hL, hperm, hs, _⟩ := hK
  have hlt := hL.blk.lt
  by_cases h0 : L.length = 0
  · obtain rfl := List.eq_nil_of_length_eq_zero h0
    have hS : S = [] := List.nil_perm.1 hperm
    subst hS
    obtain ⟨A, c, rfl⟩ := own_slice hL.own
    have e1 : ∀ o, (w.alloc o).cell? ⟨b, 1, none⟩ = some (.slice A (0 : Nat) c) := fun o => (hL.blk.alloc o).cell 1
    clear h0
    go_enter Try.func21, Try.ntmps21
    go_wp2_with (go_at_call 32; refine (len_any _ _ _ _ _ (e1 _)).mono ?_; rintro e w' ⟨rfl, rfl⟩)
    exact bodyPost_ret (v := .tuple #[.agg #[.int .i64 0, .int .u64 0], .bool false]) (by simp [results, Try.results21, go_sem]) rfl ⟨rfl, by (repeat (first | exact Below.refl _ _ | assumption | refine balloc ?_ _ | refine bdrew ?_ | refine bdrewN ?_ _ | refine bset ?_ (by first | assumption | omega) _ | refine bchain ?_ (by assumption)))⟩
  · have h1 : 0 < L.length := by omega
    obtain ⟨⟨r1, r2⟩, hr⟩ : ∃ r, L[0]? = some r := ⟨_, List.getElem?_eq_getElem h1⟩
    obtain ⟨S0, hS0, _⟩ := keep_head hL.hp hperm hs hr
    have HW : Hid (worst S = ((r1, r2), true)) := Lib.hid (by unfold worst; rw [hS0]; simp)
    obtain ⟨g, cap, rfl, _, hg⟩ := hL.own.form h1
    have e1 : ∀ o, (w.alloc o).cell? ⟨b, 1, none⟩ = some (.slice (some ⟨g, 0, none⟩) L.length cap) := fun o => (hL.blk.alloc o).cell 1
    have x0 : w.cell? ⟨g, 0, none⟩ = some (.int .i64 r1) := by
      rw [hL.own.cellAt 0 (by omega)]
      exact hc_at0 L 0 _ hr
    have x1 : w.cell? ⟨g, 1, none⟩ = some (.int .u64 r2) := by
      rw [hL.own.cellAt 1 (by omega)]
      exact hc_at1 L 0 _ hr
    have hq2 : ((L.length : Int) == 0) = false := beq_eq_false_iff_ne.2 (by omega)
    have n1 : g ≠ w.heap.size := by omega
    clear h0 hS0 hr
    rw [HW.out]
    go_enter Try.func21, Try.ntmps21
    go_wp2_with (go_at_call 32; refine (len_any _ _ _ _ _ (e1 _)).mono ?_; rintro e w' ⟨rfl, rfl⟩)
    exact bodyPost_ret (v := .tuple #[.agg #[.int .i64 r1, .int .u64 r2], .bool true]) (by simp [results, Try.results21, go_sem]) rfl ⟨rfl, by (repeat (first | exact Below.refl _ _ | assumption | refine balloc ?_ _ | refine bdrew ?_ | refine bdrewN ?_ _ | refine bset ?_ (by first | assumption | omega) _ | refine bchain ?_ (by assumption)))⟩

/-- A list of hits that the call has made. -/
def Own (w : World) (B : Nat) (A : Option Addr) (c : Nat) (L : List Hit) : Prop := w.ownsRow B 29 2 (.slice A L.length c) L.length (hc L)

theorem own_of_row {w w' : World} {B g n cap : Nat} {L M : List Hit} (h : w.ownsRow B 29 2 (.slice (some ⟨g, 0, none⟩) n cap) n (hc L)) (hr : SortBase.Rw w g 0 n w' M.toArray) :
    w'.ownsRow B 29 2 (.slice (some ⟨g, 0, none⟩) n cap) n (hc M) := by
  have hM : M.length = n := by simpa using hr.size
  rcases h.2 with ⟨h', _⟩ | ⟨g', cap', cur, h', hb, hg, hnc, hcm, hcs, htake⟩
  · simp at h'
  · simp only [Value.slice.injEq, Option.some.injEq, Addr.mk.injEq, and_true, true_and] at h'
    obtain ⟨rfl, rfl⟩ := h'
    obtain ⟨cur', hg', hsz⟩ := hr.shape cur _ _ hg
    refine ⟨by rw [hc_len, hM], .inr ⟨g, cap, cur', rfl, hb, hg', hnc, hcm, by omega, ?_⟩⟩
    apply List.ext_getElem?
    intro j
    rw [List.getElem?_take]
    by_cases hj : j < n * 2
    · rw [if_pos hj]
      have hcell : w'.cell? ⟨g, j, none⟩ = cur'[j]? := cell_of_row w' g j cur' _ (0, 0) hg'
      have hk : j / 2 < M.length := by omega
      have hx : M[j / 2]? = some M[j / 2] := List.getElem?_eq_getElem hk
      have hgt : M.toArray[j / 2]! = M[j / 2] := by rw [getElem!_pos M.toArray (j / 2) (by simpa using hk)]; simp
      rw [Array.getElem?_toList, ← hcell]
      rcases Nat.mod_two_eq_zero_or_one j with h2 | h2
      · have e : j = j / 2 * 2 := by omega
        have h0 := SortHits.hold0 hr.holds (i := j / 2) (by simpa using hk)
        rw [hgt, ← e] at h0
        rw [h0]
        have := hc_at0 M (j / 2) _ hx
        rw [← e] at this
        exact this.symm
      · have e : j = j / 2 * 2 + 1 := by omega
        have h0 := SortHits.hold1 hr.holds (i := j / 2) (by simpa using hk)
        rw [hgt, ← e] at h0
        rw [h0]
        have := hc_at1 M (j / 2) _ hx
        rw [← e] at this
        exact this.symm
    · rw [if_neg hj, List.getElem?_eq_none (by rw [hc_len, hM]; omega)]

theorem own_holds {w : World} {B g n cap : Nat} {L : List Hit} (h : w.ownsRow B 29 2 (.slice (some ⟨g, 0, none⟩) n cap) n (hc L)) (hn : L.length = n) : Go.Sort.HoldsK hitC 2 w g 0 L.toArray := by
  intro j hj
  rw [Go.Sort.size_flatK] at hj
  simp at hj
  have hk : j / 2 < L.length := by omega
  have hx : L[j / 2]? = some L[j / 2] := List.getElem?_eq_getElem hk
  have hgt : L.toArray[j / 2]! = L[j / 2] := by rw [getElem!_pos L.toArray (j / 2) (by simpa using hk)]; simp
  refine ⟨?_, by rw [Nat.zero_add]; exact h.frozenAt j⟩
  rw [Nat.zero_add, h.cellAt j (by omega), Go.Sort.get_flatK _ _ _ _ (by simpa using hj), hgt]
  rcases Nat.mod_two_eq_zero_or_one j with h2 | h2
  · have e : j = j / 2 * 2 := by omega
    have := hc_at0 L (j / 2) _ hx
    rw [← e] at this
    rw [this, h2]
    rfl
  · have e : j = j / 2 * 2 + 1 := by omega
    have := hc_at1 L (j / 2) _ hx
    rw [← e] at this
    rw [this, h2]
    rfl

theorem hc_one : ∀ (L : List Hit), ∀ u ∈ hc L, u.oneCell' = true := by
  intro L
  induction L with
  | nil => intro u hu; cases hu
  | cons x r ih =>
    intro u hu
    simp only [hc, hitC, List.cons_append, List.nil_append, List.mem_cons] at hu
    rcases hu with rfl | rfl | hu
    · rfl
    · rfl
    · exact ih u hu

theorem slice_list (g c Bs B : Nat) (L : List Hit) (w : World) (hown : w.ownsRow B 29 2 (.slice (some ⟨g, 0, none⟩) L.length c) L.length (hc L)) (hn : L.length * 16 ≤ 140737488355328)
    (hs : w.cell? ⟨Bs, 0, none⟩ = some (.slice (some ⟨g, 0, none⟩) L.length c)) (hBs : Bs < w.heap.size) (hne : Bs ≠ g) :
    Calls Try.prog 30 #[.iface 26 (.slice (some ⟨g, 0, none⟩) L.length c), .func (.func 31) #[] #[.pointer (some ⟨Bs, 0, none⟩)]] w fun e w' =>
      e = .returned (.tuple #[]) ∧ w'.ownsRow B 29 2 (.slice (some ⟨g, 0, none⟩) L.length c) L.length (hc (srt L)) ∧ Foot w w' (fun k => k ≠ g) := by
  have e : L.toArray.size = L.length := by simp
  have h := SortHits.slice_any g c Bs L.toArray w (own_holds hown rfl) (hown.lt g rfl).2 (by omega) (by rw [e]; exact hs) hBs hne
  rw [e] at h
  exact h.mono fun _ _ ⟨he, hr⟩ => ⟨he, own_of_row hown hr, hr.foot⟩

set_option maxHeartbeats 1000000 in
theorem hits_any (B b : Nat) (k : Int) (v : Value) (S : List Hit) (w : World) (hK : Keeps w B b k v S) (_hB : B ≤ w.heap.size) (hn : S.length * 16 ≤ 140737488355328) :
    Calls Try.prog 13 #[.pointer (some ⟨b, 0, none⟩)] w fun e w' => ∃ A c, e = .returned (.slice A S.length c) ∧ w'.ownsRow w.heap.size 29 2 (.slice A S.length c) S.length (hc S) ∧ Below w.heap.size w w' := by
  obtain ⟨L, hL, hperm, hs, _⟩ := hK
  have hS : Hid (S = srt L) := Lib.hid ((srt_id hs).symm.trans (srt_congr hperm).symm)
  have hll := hperm.length_eq
  rw [← hll] at hn ⊢
  clear hll
  obtain ⟨i0, hi0, hz0, hz1, hz2⟩ := info_parts hitInfo
  by_cases h0 : L.length = 0
  · obtain rfl := List.eq_nil_of_length_eq_zero h0
    have hrow0 : (w.alloc (.cells #[] 29)).ownsRow w.heap.size 29 2 (.slice (some ⟨w.heap.size, 0, none⟩) 0 0) 0 (hc []) := World.ownsRow_lit (e := 29) (size := 2) (base := w.heap.size) w #[] 0 (Nat.le_refl _) (by decide) rfl
    have hb1 : Below w.heap.size w (w.alloc (.cells #[] 29)) := (Below.refl _ _).alloc (Nat.le_refl _) _
    have hsz1 : (w.alloc (.cells #[] 29)).heap.size = w.heap.size + 1 := by simp
    have fin : ∀ w1, w1.ownsRow w.heap.size 29 2 (.slice (some ⟨w.heap.size, 0, none⟩) 0 0) 0 (hc []) → Below w.heap.size w w1 → w.heap.size < w1.heap.size → Calls Try.prog 30 #[.iface 26 (.slice (some ⟨w.heap.size, 0, none⟩) 0 0), .func (.func 31) #[] #[.pointer (some ⟨w1.heap.size, 0, none⟩)]] (w1.alloc (.cells #[.slice (some ⟨w.heap.size, 0, none⟩) 0 0] 26)) fun e w' => e = .returned (.tuple #[]) ∧ w'.ownsRow w.heap.size 29 2 (.slice (some ⟨w.heap.size, 0, none⟩) 0 0) 0 (hc (srt [])) ∧ w'.cell? ⟨w1.heap.size, 0, none⟩ = some (.slice (some ⟨w.heap.size, 0, none⟩) 0 0) ∧ Below w.heap.size w w' := by
      intro w1 h1 h2 h3
      have hbx : (w1.alloc (.cells #[.slice (some ⟨w.heap.size, 0, none⟩) 0 0] 26)).cell? ⟨w1.heap.size, 0, none⟩ = some (.slice (some ⟨w.heap.size, 0, none⟩) 0 0) := by rw [World.cell?_alloc_mark]; rfl
      have hs2 : w1.heap.size < (w1.alloc (.cells #[.slice (some ⟨w.heap.size, 0, none⟩) 0 0] 26)).heap.size := by simp
      refine (slice_list w.heap.size 0 w1.heap.size w.heap.size [] _ (h1.alloc _) (by decide) hbx hs2 (by omega)).mono ?_
      rintro e w' ⟨rfl, h4, h5⟩
      have hb2 := balloc h2 (.cells #[.slice (some ⟨w.heap.size, 0, none⟩) 0 0] 26)
      exact ⟨rfl, h4, (h5.cell (p := ⟨w1.heap.size, 0, none⟩) hs2 (by show w1.heap.size ≠ w.heap.size; omega)).trans hbx, ⟨h5.os.trans hb2.os, h5.tape.trans hb2.tape, h5.output.trans hb2.output, Nat.le_trans hb2.size h5.size, fun k hk => (h5.block k (Nat.lt_of_lt_of_le hk hb2.size) (by omega)).trans (hb2.block k hk)⟩⟩
    have key := fin _ hrow0 hb1 (by omega)
    rw [hsz1] at key
    have FIN := Lib.hid key
    clear fin key
    rcases hL.own.2 with ⟨rfl, _⟩ | ⟨g, cap, cur, rfl, _, hg, _⟩
    · have e1 : ∀ o, (w.alloc o).cell? ⟨b, 1, none⟩ = some (.slice none 0 0) := fun o => (hL.blk.alloc o).cell 1
      clear h0
      go_enter Try.func13, Try.ntmps13
      go_wp2_with (first
        | (at_builtin; refine wpList_append_own_none rfl _ _ _ rfl w.heap.size 29 i0 2 Try.underlying26 hi0 _ 0 (hc []) rfl hrow0 rfl ?_)
        | (go_at_call 30; refine FIN.out.mono ?_; rintro e w3 ⟨rfl, hown3, hc3, hb3⟩))
      go_ret
      rw [hS.out]
      exact ⟨_, _, rfl, hown3, hb3⟩
    · have e1 : ∀ o, (w.alloc o).cell? ⟨b, 1, none⟩ = some (.slice (some ⟨g, 0, none⟩) (0 : Nat) cap) := fun o => (hL.blk.alloc o).cell 1
      clear h0
      go_enter Try.func13, Try.ntmps13
      go_wp2_with (go_at_call 30; refine FIN.out.mono ?_; rintro e w3 ⟨rfl, hown3, hc3, hb3⟩)
      go_ret
      rw [hS.out]
      exact ⟨_, _, rfl, hown3, hb3⟩
  · obtain ⟨g, cap, rfl, _, hg⟩ := hL.own.form (by omega)
    have e1 : ∀ o, (w.alloc o).cell? ⟨b, 1, none⟩ = some (.slice (some ⟨g, 0, none⟩) L.length cap) := fun o => (hL.blk.alloc o).cell 1
    have hcells : ∀ o j u, (hc L)[j]? = some u → (w.alloc o).cell? ((⟨g, 0, none⟩ : Addr).add j) = some u := fun o j u hu => (hL.own.alloc o).cells (by rfl) j u hu
    have hrow0 := World.ownsRow_lit (e := 29) (size := 2) (base := w.heap.size) w #[] 0 (Nat.le_refl _) (by decide) rfl
    have HC := Lib.hid hcells
    have hsz0 : (w.alloc (.cells #[] 29)).heap.size = w.heap.size + 1 := by simp
    clear hcells
    go_enter Try.func13, Try.ntmps13
    go_wp2_with (at_builtin; refine wpList_append_lies _ rfl _ _ _ rfl w.heap.size 29 i0 _ 2 16 Try.underlying26 hi0 hz0 hz1 hz2 rfl (by decide) _ 0 [] rfl hrow0 ⟨g, 0, none⟩ L.length cap (hc L) rfl (hc_len L) (HC.out _) (hc_one L) (by omega) (by unfold maxLen; omega) (by omega) (by omega) _ rfl ?_)
    intro g2 cap2 w1 hown1 hgrow hat hlt
    have hb0 : Below w.heap.size w (w.alloc (.cells #[] 29)) := (Below.refl _ _).alloc (Nat.le_refl _) _
    have hb1 : Below w.heap.size w w1 := below_own hb0 hrow0 (by omega) hgrow
    have hg2 : w.heap.size ≤ g2 := (hown1.lt g2 rfl).1
    have hown2 := hown1.alloc (.cells #[.slice (some ⟨g2, 0, none⟩) L.length cap2] 26)
    have hb2 := balloc hb1 (.cells #[.slice (some ⟨g2, 0, none⟩) L.length cap2] 26)
    have hbx : (w1.alloc (.cells #[.slice (some ⟨g2, 0, none⟩) L.length cap2] 26)).cell? ⟨w1.heap.size, 0, none⟩ = some (.slice (some ⟨g2, 0, none⟩) L.length cap2) := by rw [World.cell?_alloc_mark]; rfl
    have hs2 : w1.heap.size < (w1.alloc (.cells #[.slice (some ⟨g2, 0, none⟩) L.length cap2] 26)).heap.size := by simp
    have hbx2 : ∀ w3, Foot (w1.alloc (.cells #[.slice (some ⟨g2, 0, none⟩) L.length cap2] 26)) w3 (fun k => k ≠ g2) → w3.cell? ⟨w1.heap.size, 0, none⟩ = some (.slice (some ⟨g2, 0, none⟩) L.length cap2) := fun w3 h => (h.cell (p := ⟨w1.heap.size, 0, none⟩) hs2 (by show w1.heap.size ≠ g2; omega)).trans hbx
    have HB := Lib.hid hbx2
    have HX := Lib.hid hbx
    clear hbx2 hbx hrow0 hgrow hat
    go_wp2_with (go_at_call 30; refine (slice_list g2 cap2 w1.heap.size w.heap.size L _ hown2 hn HX.out hs2 (by omega)).mono ?_; rintro e w3 ⟨rfl, hown3, hf3⟩; have hc3 := HB.out _ hf3)
    go_ret
    rw [hS.out]
    refine ⟨some ⟨g2, 0, none⟩, cap2, rfl, ?_, ?_⟩
    · exact hown3
    · exact ⟨hf3.os.trans hb2.os, hf3.tape.trans hb2.tape, hf3.output.trans hb2.output, Nat.le_trans hb2.size hf3.size, fun k hk => (hf3.block k (Nat.lt_of_lt_of_le hk hb2.size) (by omega)).trans (hb2.block k hk)⟩
end Go.Proofs.Ytmddnilephneiaa.KeepWalk
