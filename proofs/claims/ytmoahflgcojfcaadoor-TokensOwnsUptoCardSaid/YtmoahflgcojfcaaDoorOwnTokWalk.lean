/-
  The walk of ownTokens.
-/
import Derived.Test.YtmoahflgcojfcaaDoorOwnTokens
namespace Go.Proofs.YtmoahflgcojfcaaDoor.OwnTokWalk
set_option maxRecDepth 100000
open Go.RowKit Go.PlainAid WordPlain WordsWalk Base App OutRow TokRows OwnTokens

/-- After the first lists have been written over. -/
def half (f : Nat → List Tok) (i : Nat) : Nat → List Tok := fun a => if a < i then stamp a (f a).length else f a
def half2 (f : Nat → List Tok) (i j : Nat) : Nat → List Tok := fun a => if a < i then stamp a (f a).length else if a = i then mix i j (f i) else f a
theorem half_zero (f : Nat → List Tok) : half f 0 = f := by funext a; simp [half]
theorem half2_zero (f : Nat → List Tok) (i : Nat) : half2 f i 0 = half f i := by
  funext a; unfold half half2
  by_cases h : a < i
  · simp [h]
  · by_cases e : a = i
    · subst e; simp [mix_zero]
    · simp [h, e]
theorem half2_all (f : Nat → List Tok) (i : Nat) : half2 f i (f i).length = half f (i + 1) := by
  funext a; unfold half half2
  by_cases h : a < i
  · rw [if_pos h, if_pos (by omega)]
  · by_cases e : a = i
    · subst e; rw [if_neg h, if_pos rfl, if_pos (by omega), mix_all]
    · rw [if_neg h, if_neg e, if_neg (by omega)]
theorem half2_step (f : Nat → List Tok) (i j : Nat) : (fun a => if a = i then mix i (j + 1) (f i) else half2 f i j a) = half2 f i (j + 1) := by
  funext a; unfold half2
  by_cases e : a = i
  · subst e; simp
  · simp [e]
theorem half2_self (f : Nat → List Tok) (i j : Nat) : half2 f i j i = mix i j (f i) := by unfold half2; rw [if_neg (by omega), if_pos rfl]
theorem half_self (f : Nat → List Tok) (i : Nat) : half f i i = f i := by unfold half; rw [if_neg (by omega)]
theorem set_self {vs : List Value} {i : Nat} {v : Value} (h : vs[i]? = some v) : vs.set i v = vs := by
  apply List.ext_getElem?
  intro j
  rw [List.getElem?_set]
  by_cases e : i = j
  · subst e; rw [if_pos rfl, h, if_pos (List.getElem?_eq_some_iff.1 h).1]
  · rw [if_neg e]

/-- How long list a is in turn k, i lists of which have had their token. -/
def hk (n : Nat → Nat) (k i : Nat) : Nat → Nat := fun a => n a + k + (if a < i then 1 else 0)
theorem hk_step (n : Nat → Nat) (k i : Nat) : (fun a => if a = i then hk n k i i + 1 else hk n k i a) = hk n k (i + 1) := by
  funext a; unfold hk
  by_cases e : a = i
  · subst e; simp
  · by_cases h : a < i
    · rw [if_neg e, if_pos h, if_pos (by omega)]
    · rw [if_neg e, if_neg h, if_neg (by omega)]
theorem hk_le (n : Nat → Nat) (k i a : Nat) : n a ≤ hk n k i a := by unfold hk; omega
theorem gr_congr {w W : World} {B g2 cap2 : Nat} {vs vs' : List Value} {n h h' : Nat → Nat} (hG : Gr w W B g2 cap2 vs n h vs') (he : ∀ a, a < vs.length → h a = h' a) (hle : ∀ a, n a ≤ h' a) : Gr w W B g2 cap2 vs n h' vs' :=
  ⟨hG.row, hG.lst.congr (fun a ha => by rw [he a (by rw [← hG.len]; exact ha)]), hG.pre, hG.two, hG.new, hG.low, hG.foot, hle⟩
theorem tokInfo : (Tryd.prog.info? 32).map (fun i => (i.zero, i.size, i.bytes)) = some (some (.agg #[.string ⟨#[]⟩, .int .i64 0, .int .i64 0, .int .i64 0, .int .i64 0]), 5, 48) := by kernel_rfl
theorem tok_five' {w : World} {g o k : Nat} {ts : List Tok} {t : Tok} (hc : ∀ j u, (tokCells ts)[j]? = some u → w.cell? ⟨g, o + j, none⟩ = some u) (ht : ts[k]? = some t) (ho : o = 0 := by rfl) :
    w.cell? ⟨g, k * 5, none⟩ = some (.string t.text) ∧ w.cell? ⟨g, k * 5 + 1, none⟩ = some (.int .i64 t.value) ∧ w.cell? ⟨g, k * 5 + 2, none⟩ = some (.int .i64 t.pos) ∧
      w.cell? ⟨g, k * 5 + 3, none⟩ = some (.int .i64 t.start) ∧ w.cell? ⟨g, k * 5 + 4, none⟩ = some (.int .i64 t.stop) := by
  subst ho
  have e := fun j (hj : j < 5) => tokCells_at ts k t j ht hj
  have c := fun j (hj : j < 5) u (hu : (tokC t)[j]? = some u) => hc (k * 5 + j) u ((e j hj).trans hu)
  simp only [Nat.zero_add] at c
  exact ⟨c 0 (by omega) _ rfl, c 1 (by omega) _ rfl, c 2 (by omega) _ rfl, c 3 (by omega) _ rfl, c 4 (by omega) _ rfl⟩
theorem lstInfo : (Tryd.prog.info? 28).map (fun i => (i.zero, i.size, i.bytes)) = some (some (.slice none 0 0), 1, 24) := by kernel_rfl

theorem grow_at {w W w1 : World} {B g2 cap2 : Nat} {vs vs' : List Value} {n h : Nat → Nat} {i g c hl : Nat} {v : Value} (hG : Gr w W B g2 cap2 vs n h vs') (hv : vs'[i]? = some v) (hBW : B ≤ w.heap.size) (hh : hl = h i)
    (hown : w1.ownsRow B 32 5 (.slice (some ⟨g, 0, none⟩) (hl + 1) c) (hl + 1) (tokCells (stamp i hl) ++ tokC (stT i hl)))
    (hat : (v.ownBlock = some g ∧ W.grownBy w1 (some g)) ∨ (W.heap.size ≤ g ∧ W.grownBy w1 none)) :
    Gr w (w1.setCell ⟨g2, i, none⟩ (.slice (some ⟨g, 0, none⟩) (hl + 1) c)) B g2 cap2 vs n (fun a => if a = i then h i + 1 else h a) (vs'.set i (.slice (some ⟨g, 0, none⟩) (hl + 1) c)) := by
  subst hh
  exact hG.grow hv hBW hown hat

section
variable {w W : World} {B : Nat} {vs : List Value} {f : Nat → List Tok}
/-- A token is written at place j of list i. -/
theorem Lst.store {i j g c : Nat} (h : Lst W B vs (half2 f i j)) (hv : vs[i]? = some (.slice (some ⟨g, 0, none⟩) (f i).length c)) (hj : j < (f i).length) (hf : Foot w W (Off vs)) {W' : World}
    (hW : W' = ((((W.setCell ⟨g, j * 5, none⟩ (.string (stT i j).text)).setCell ⟨g, j * 5 + 1, none⟩ (.int .i64 (stT i j).value)).setCell ⟨g, j * 5 + 2, none⟩ (.int .i64 (stT i j).pos)).setCell ⟨g, j * 5 + 3, none⟩ (.int .i64 (stT i j).start)).setCell ⟨g, j * 5 + 4, none⟩ (.int .i64 (stT i j).stop)) :
    Lst W' B vs (half2 f i (j + 1)) ∧ Foot w W' (Off vs) := by
  have ho := h.own i _ hv
  rw [half2_self, mix_len (by omega)] at ho
  obtain ⟨o1, f1⟩ := own_store ho j (stT i j) hW
  rw [mix_set hj] at o1
  have hl : (mix i (j + 1) (f i)).length = (f i).length := mix_len (by omega)
  have hs := h.step hv f1 (fun a u k hne hu hk e => hne (h.apart a i u _ k hu hv hk (by rw [e]; rfl))) (by rw [hl]; exact o1) (.inl rfl)
  rw [set_self hv, half2_step] at hs
  exact ⟨hs, ⟨f1.os.trans hf.os, f1.tape.trans hf.tape, f1.output.trans hf.output, Nat.le_trans hf.size f1.size, fun k hk ho => (f1.block k (Nat.lt_of_lt_of_le hk hf.size) (fun e => ho i _ hv (by rw [e]; rfl))).trans (hf.block k hk ho)⟩⟩
end

set_option maxHeartbeats 8000000 in
theorem own_tokens (vs : List Value) (f : Nat → List Tok) (g0 o0 c B : Nat) (w : World) (hN : vs.length ≤ 8388608) (hN0 : 0 < vs.length) (hf : ∀ i, (f i).length ≤ 1099511627776) (hL : Lst w B vs f) (hB : B ≤ w.heap.size)
    (hg0 : g0 < w.heap.size) (hoff : Off vs g0) (hA : ∀ j v, vs[j]? = some v → w.cell? ⟨g0, o0 + j, none⟩ = some v) :
    Calls Tryd.prog 23 #[.slice (some ⟨g0, o0, none⟩) vs.length c] w fun e w' => e = .returned (.bool true) ∧ Foot w w' (Off vs) := by
  go_enter Tryd.func23, Tryd.ntmps23
  go_wp2_with fail
  go_loopw [14] (fun i wr => ∃ i' : Nat, i' ≤ vs.length ∧ i = .int .i64 i' ∧ Lst wr B vs (half f i') ∧ Foot w wr (Off vs)) (fun i _ => vs.length - (intOf i).toNat)
  case atStart => exact ⟨0, Nat.zero_le _, rfl, by rw [half_zero]; exact hL, Foot.refl _ _⟩
  case round =>
    obtain ⟨i, hi, rfl, hLi, hFi⟩ := hrel
    by_cases hlt : i < vs.length
    · obtain ⟨v, hv⟩ : ∃ v, vs[i]? = some v := ⟨_, List.getElem?_eq_getElem hlt⟩
      have hown := hLi.own i v hv
      rw [half_self] at hown
      obtain ⟨A, cc, rfl⟩ := own_slice hown
      have hfi := hf i
      have hc0 : wr.cell? ⟨g0, o0 + i, none⟩ = some (.slice A (f i).length cc) := (hFi.cell (p := ⟨g0, o0 + i, none⟩) hg0 hoff).trans (hA i _ hv)
      have HOW := Lib.hid hown
      clear hown
      go_wp2_with fail
      go_loopw [21] (fun j wq => ∃ j' : Nat, j' ≤ (f i).length ∧ j = .int .i64 j' ∧ Lst wq B vs (half2 f i j') ∧ Foot w wq (Off vs)) (fun j _ => (f i).length - (intOf j).toNat)
      case atStart => exact ⟨0, Nat.zero_le _, rfl, by rw [half2_zero]; exact hLi, hFi⟩
      case round =>
        obtain ⟨j, hj, rfl, hLj, hFj⟩ := hrel
        by_cases hlj : j < (f i).length
        · obtain ⟨g, rfl⟩ : ∃ g, A = some ⟨g, 0, none⟩ := by
            rcases HOW.out.2 with ⟨h', hn0⟩ | ⟨g, cap', cur, h', _⟩
            · omega
            · simp only [Value.slice.injEq] at h'
              exact ⟨g, h'.1⟩
          have ho := hLj.own i _ hv
          rw [half2_self, mix_len hj] at ho
          have hx : ∀ m, m < 5 → ∃ u, wr.cell? ⟨g, j * 5 + m, none⟩ = some u := fun m hm => by
            rw [ho.cellAt (j * 5 + m) (by omega)]
            have hl : j * 5 + m < (tokCells (mix i j (f i))).length := by rw [tokCells_len, mix_len hj]; omega
            exact ⟨_, List.getElem?_eq_getElem hl⟩
          obtain ⟨u0, x0⟩ := hx 0 (by omega)
          obtain ⟨u1, x1⟩ := hx 1 (by omega)
          obtain ⟨u2, x2⟩ := hx 2 (by omega)
          obtain ⟨u3, x3⟩ := hx 3 (by omega)
          obtain ⟨u4, x4⟩ := hx 4 (by omega)
          rw [Nat.add_zero] at x0
          have z0 := ho.frozenAt (j * 5)
          have z1 := ho.frozenAt (j * 5 + 1)
          have z2 := ho.frozenAt (j * 5 + 2)
          have z3 := ho.frozenAt (j * 5 + 3)
          have z4 := ho.frozenAt (j * 5 + 4)
          have hst := fun W' hW => Lst.store (w := w) (W' := W') hLj hv hlj hFj hW
          unfold stT at hst
          have HST := Lib.hid hst
          clear hst ho hx
          go_wp2_with fail
          go_roundw
          case rel =>
            obtain ⟨h1, h2⟩ := HST.out _ rfl
            exact ⟨j + 1, by omega, by go_num, h1, h2⟩
          case measure => simp [intOf]; omega
        · obtain rfl : j = (f i).length := by omega
          rw [half2_all] at hLj
          go_wp2_with fail
          go_roundw
          case rel => exact ⟨i + 1, by omega, by go_num, hLj, hFj⟩
          case measure => simp [intOf]; omega
    · obtain rfl : i = vs.length := by omega
      have hL1 : Lst wr B vs (fun a => stamp a (f a).length) := hLi.congr fun a ha => by unfold half; rw [if_pos ha]
      have hsz := hFi.size
      have hA1 : ∀ j v, vs[j]? = some v → wr.cell? ⟨g0, o0 + j, none⟩ = some v := fun j v hv => (hFi.cell (p := ⟨g0, o0 + j, none⟩) hg0 hoff).trans (hA j v hv)
      have hone : ∀ u ∈ vs, u.oneCell' = true := fun u hu => by
        obtain ⟨j, hj⟩ := List.getElem?_of_mem hu
        obtain ⟨A, cc, rfl⟩ := own_slice (hL1.own j u hj)
        rfl
      have hoe : (wr.alloc (.cells #[] 28)).ownsRow w.heap.size 28 1 (.slice (some ⟨wr.heap.size, 0, none⟩) 0 0) 0 [] := World.ownsRow_lit (e := 28) (size := 1) (base := w.heap.size) wr #[] 0 hsz (by decide) rfl
      obtain ⟨i0, hi0, hz0, hz1, hz2⟩ := info_parts lstInfo
      go_wp2_with (at_builtin; refine wpList_append_own _ rfl _ _ 49 rfl w.heap.size 28 i0 (.slice none 0 0) 1 24 Tryd.underlying49 hi0 hz0 hz1 hz2 rfl (by decide) _ _ _ rfl hoe ⟨g0, o0, none⟩ vs.length c vs rfl (by omega) (fun j u hu => by rw [Addr.add_lit]; exact (World.cell?_of_block (Below.heap_alloc wr _ g0 (by omega))).trans (hA1 j u hu)) hone (by unfold maxLen; omega) (by omega) (by simp only [World.size_alloc]; omega) ?_)
      intro v' w1 own1 hg1 _
      try simp only [Nat.zero_add, List.nil_append] at own1
      have hw1 : Below wr.heap.size wr w1 := ⟨hg1.os, hg1.tape, hg1.output, by have := hg1.size; simp only [World.size_alloc] at this; omega, fun k hk => (hg1.block k (by simp only [World.size_alloc]; omega) (by simp [Value.ownBlock]; omega)).trans (Below.heap_alloc wr _ k hk)⟩
      obtain ⟨g2, cap2, rfl, _, _⟩ := own1.form hN0
      have hG1 : Gr w w1 B g2 cap2 vs (fun a => (f a).length) (hk (fun a => (f a).length) 0 0) vs :=
        ⟨own1, (hL1.below hw1).congr (fun a _ => by simp [hk]), fun a v hv => RdV.of_own ((hL1.below hw1).own a v hv), hL1.apart, fun b v k hv hk ho => absurd hk (ho b v hv), fun b v k hv hk => (hL.lt hv hk).2, hFi.trans (Foot.ofBelow hw1 _), fun a => by simp [hk]⟩
      clear own1 hg1 hoe hL1 hA1
      have hnl : ∀ a, (f a).length ≤ 1099511627776 := hf
      obtain ⟨n, hn⟩ : ∃ n : Nat → Nat, n = fun a => (f a).length := ⟨_, rfl⟩
      have hnb : ∀ a, n a ≤ 1099511627776 := fun a => by rw [hn]; exact hf a
      rw [← hn] at hG1
      have HN := Lib.hid hn
      clear hn hnl
      go_wp2_with fail
      go_loopw [7] (fun k wq => ∃ k' : Nat, k' ≤ 40 ∧ k = .int .i64 k' ∧ ∃ vs', Gr w wq B g2 cap2 vs n (hk n k' 0) vs') (fun k _ => 40 - (intOf k).toNat)
      case atStart => exact ⟨0, by omega, rfl, _, hG1⟩
      case round =>
        obtain ⟨k, hk40, rfl, vs1, hGk⟩ := hrel
        by_cases hlt : k < 40
        · have hkd : decide ((k : Int) < 40) = true := decide_eq_true (by omega)
          go_wp2_with fail
          go_loopw [42] (fun i wq => ∃ i' : Nat, i' ≤ vs.length ∧ i = .int .i64 i' ∧ ∃ vs', Gr w wq B g2 cap2 vs n (hk n k i') vs') (fun i _ => vs.length - (intOf i).toNat)
          case atStart => exact ⟨0, by omega, rfl, _, hGk⟩
          case round =>
            obtain ⟨i, hi, rfl, vs2, hGi⟩ := hrel
            by_cases hli : i < vs.length
            · obtain ⟨v, hv⟩ : ∃ v, vs2[i]? = some v := ⟨_, List.getElem?_eq_getElem (by rw [hGi.len]; exact hli)⟩
              have hown := hGi.lst.own i v hv
              rw [stamp_len] at hown
              obtain ⟨A, cc, rfl⟩ := own_slice hown
              have hBw := hGi.foot.size
              obtain ⟨t0, ht0, ty0, ty1, ty2⟩ := info_parts tokInfo
              have hb := hnb i
              have hki : hk n k i i = n i + k := by unfold hk; rw [if_neg (by omega)]; rfl
              have c0 := hGi.cell hv
              have z0 := hGi.frozen i
              obtain ⟨hl, hhl⟩ : ∃ hl, hl = hk n k i i := ⟨_, rfl⟩
              have iw : IntKind.i64.wrap ((i : Int) + 1) = (i : Int) + 1 := IntWalk.i64_in _ (by omega)
              have hnew : ∀ o, (wr.alloc o).drew.heap[wr.heap.size]? = some o := fun o => heap_alloc_new wr o
              have hlb : hl ≤ 1099511627816 := by omega
              rw [← hhl] at hown c0 hv
              have HHL := Lib.hid hhl
              clear hki hhl
              have hGd : Gr w ((wr.alloc (.cells #[.string ⟨#[]⟩, .int .i64 ((i : Int) + 1), .int .i64 (hl : Nat), .int .i64 0, .int .i64 0] 32)).drew) B g2 cap2 vs n (hk n k i) vs2 := hGi.below (bdrew (balloc (Below.refl _ _) _))
              have c0d := hGd.cell hv
              have z0d := hGd.frozen i
              go_upto_region 17 with fail
              go_region_law ((refine step_append_kept (by rfl) _ _ _ (by rfl) B 32 t0 _ 5 48 Tryd.underlying28 ht0 ty0 ty1 ty2 rfl (by omega) (.slice A hl cc) hl (tokCells (stamp i hl)) (by rfl) ((hown.alloc _).drew) ⟨wr.heap.size, 0, none⟩ 1 1 [.string ⟨#[]⟩, .int .i64 ((i : Int) + 1), .int .i64 (hl : Nat), .int .i64 0, .int .i64 0] (by rfl) (by rfl) (World.news_of_block (cs := #[.string ⟨#[]⟩, .int .i64 ((i : Int) + 1), .int .i64 (hl : Nat), .int .i64 0, .int .i64 0]) (t := 32) (fr := (0, 0)) (hnew _)) (by simp [Value.oneCell']) (by omega) (by unfold maxLen; omega) (by omega) (by simp only [World.size_drew, World.size_alloc]; omega) ?_; intro gg cap w5 hown5 hat; obtain ⟨d1, d2⟩ := hGd.after hv hat))
              all_goals
                have hGn := grow_at hGd hv hB HHL.out hown5 hat
                rw [hk_step] at hGn
                clear hGd hGi d1 d2 c0d z0d c0 z0
                go_wp2_with fail
                go_roundw
                case rel => exact ⟨i + 1, by omega, by go_num, _, hGn⟩
                case measure => simp [intOf]; omega
            · obtain rfl : i = vs.length := by omega
              go_wp2_with fail
              go_roundw
              case rel => exact ⟨k + 1, by omega, by go_num, vs2, gr_congr hGi (fun a ha => by unfold hk; rw [if_pos ha]; simp; omega) (hk_le n (k + 1) 0)⟩
              case measure => simp [intOf]; omega
        · have hkd : decide ((k : Int) < 40) = false := decide_eq_false (by omega)
          go_wp2_with fail
          go_loopw [65] (fun i wq => ∃ i' : Nat, i' ≤ vs.length ∧ i = .int .i64 i' ∧ Gr w wq B g2 cap2 vs n (hk n k 0) vs1) (fun i _ => vs.length - (intOf i).toNat)
          case atStart => exact ⟨0, by omega, rfl, hGk⟩
          case round =>
            obtain ⟨i, hi, rfl, hGi⟩ := hrel
            by_cases hli : i < vs.length
            · obtain ⟨v, hv⟩ : ∃ v, vs1[i]? = some v := ⟨_, List.getElem?_eq_getElem (by rw [hGi.len]; exact hli)⟩
              have hown := hGi.lst.own i v hv
              rw [stamp_len] at hown
              obtain ⟨A, cc, rfl⟩ := own_slice hown
              have hb := hnb i
              obtain ⟨hl, hhl⟩ : ∃ hl, hl = n i + k := ⟨_, rfl⟩
              have hki : hk n k 0 i = hl := by unfold hk; rw [if_neg (by omega), hhl]; rfl
              rw [hki] at hown hv
              have c0 := hGi.cell hv
              have HHL := Lib.hid hhl
              have hlb : hl ≤ 1099511627816 := by omega
              have i0' : (0 : Int) ≤ (i : Int) := by omega
              have i1' : (i : Int) < (vs.length : Int) := by omega
              have i1d : decide ((i : Int) < (vs.length : Int)) = true := decide_eq_true i1'
              clear hki hhl
              go_wp2_with fail
              go_loopw [72] (fun j wq => ∃ j' : Nat, j' ≤ hl ∧ j = .int .i64 j' ∧ Gr w wq B g2 cap2 vs n (hk n k 0) vs1) (fun j _ => hl - (intOf j).toNat)
              case atStart => exact ⟨0, by omega, rfl, hGi⟩
              case round =>
                obtain ⟨j, hj, rfl, hGj⟩ := hrel
                by_cases hlj : j < hl
                · have ho := hGj.lst.own i _ hv
                  rw [stamp_len] at ho
                  have hki : hk n k 0 i = hl := by unfold hk; rw [if_neg (by omega), HHL.out]; rfl
                  rw [hki] at ho
                  obtain ⟨g, rfl⟩ : ∃ g, A = some ⟨g, 0, none⟩ := by
                    rcases ho.2 with ⟨h', hn0⟩ | ⟨g, cap', cur, h', _⟩
                    · omega
                    · simp only [Value.slice.injEq] at h'
                      exact ⟨g, h'.1⟩
                  have hgl := (ho.lt g rfl).2
                  have hsl := slc_own ho
                  obtain ⟨g', o', e', _, hc'⟩ := hsl (by intro h; have := congrArg List.length h; rw [tokCells_len, stamp_len] at this; simp at this; omega)
                  obtain ⟨rfl, rfl⟩ : g = g' ∧ 0 = o' := by simpa using e'
                  obtain ⟨y0, y1, y2, y3, y4⟩ := tok_five' hc' (stamp_at hlj)
                  obtain ⟨u, hu⟩ : ∃ u, vs[i]? = some u := ⟨_, List.getElem?_eq_getElem hli⟩
                  have hou := hL.own i u hu
                  obtain ⟨A0, cu, rfl⟩ := own_slice hou
                  have hNi : (f i).length = n i := by rw [HN.out]
                  rw [hNi] at hu hou
                  have ou : wr.cell? ⟨g0, o0 + i, none⟩ = some (.slice A0 (n i) cu) := (hGj.foot.cell (p := ⟨g0, o0 + i, none⟩) hg0 hoff).trans (hA i _ hu)
                  have hg0W : g0 < wr.heap.size := Nat.lt_of_lt_of_le hg0 hGj.foot.size
                  have O1 := Lib.hid (fun (wx : World) (hx : Below wr.heap.size wr wx) => (hx.cell (p := ⟨g0, o0 + i, none⟩) hg0W).trans ou)
                  have Y0 := Lib.hid (fun (wx : World) (hx : Below wr.heap.size wr wx) => (show wx.cell? ⟨g, j * 5, none⟩ = some (.string ⟨#[]⟩) from (hx.cell (p := ⟨g, j * 5, none⟩) hgl).trans y0))
                  have Y1 := Lib.hid (fun (wx : World) (hx : Below wr.heap.size wr wx) => (show wx.cell? ⟨g, j * 5 + 1, none⟩ = some (.int .i64 ((i : Int) + 1)) from (hx.cell (p := ⟨g, j * 5 + 1, none⟩) hgl).trans y1))
                  have Y2 := Lib.hid (fun (wx : World) (hx : Below wr.heap.size wr wx) => (show wx.cell? ⟨g, j * 5 + 2, none⟩ = some (.int .i64 (j : Nat)) from (hx.cell (p := ⟨g, j * 5 + 2, none⟩) hgl).trans y2))
                  have Y3 := Lib.hid (fun (wx : World) (hx : Below wr.heap.size wr wx) => (show wx.cell? ⟨g, j * 5 + 3, none⟩ = some (.int .i64 0) from (hx.cell (p := ⟨g, j * 5 + 3, none⟩) hgl).trans y3))
                  have Y4 := Lib.hid (fun (wx : World) (hx : Below wr.heap.size wr wx) => (show wx.cell? ⟨g, j * 5 + 4, none⟩ = some (.int .i64 0) from (hx.cell (p := ⟨g, j * 5 + 4, none⟩) hgl).trans y4))
                  have iw : IntKind.i64.wrap ((i : Int) + 1) = (i : Int) + 1 := IntWalk.i64_in _ (by omega)
                  have j0' : (0 : Int) ≤ (j : Int) := by omega
                  have j1' : (j : Int) < (hl : Int) := by omega
                  clear y0 y1 y2 y3 y4 ou hc' hsl
                  go_wp2_with fail
                  by_cases hjn : j < n i
                  · obtain ⟨g', rfl⟩ : ∃ g', A0 = some ⟨g', 0, none⟩ := by
                      rcases hou.2 with ⟨h', hn0⟩ | ⟨g', cap', cur, h', _⟩
                      · omega
                      · simp only [Value.slice.injEq] at h'
                        exact ⟨g', h'.1⟩
                    obtain ⟨hgl', hcu⟩ := hGj.pre i _ hu g' _ _ rfl
                    obtain ⟨q0, q1, q2, q3, q4⟩ := tok_five' (g := g') (o := 0) (fun j u hj => by rw [Nat.zero_add]; exact hcu j u hj) (stamp_at hjn)
                    have Q0 := Lib.hid (fun (wx : World) (hx : Below wr.heap.size wr wx) => (show wx.cell? ⟨g', j * 5, none⟩ = some (.string ⟨#[]⟩) from (hx.cell (p := ⟨g', j * 5, none⟩) hgl').trans q0))
                    have Q1 := Lib.hid (fun (wx : World) (hx : Below wr.heap.size wr wx) => (show wx.cell? ⟨g', j * 5 + 1, none⟩ = some (.int .i64 ((i : Int) + 1)) from (hx.cell (p := ⟨g', j * 5 + 1, none⟩) hgl').trans q1))
                    have Q2 := Lib.hid (fun (wx : World) (hx : Below wr.heap.size wr wx) => (show wx.cell? ⟨g', j * 5 + 2, none⟩ = some (.int .i64 (j : Nat)) from (hx.cell (p := ⟨g', j * 5 + 2, none⟩) hgl').trans q2))
                    have Q3 := Lib.hid (fun (wx : World) (hx : Below wr.heap.size wr wx) => (show wx.cell? ⟨g', j * 5 + 3, none⟩ = some (.int .i64 0) from (hx.cell (p := ⟨g', j * 5 + 3, none⟩) hgl').trans q3))
                    have Q4 := Lib.hid (fun (wx : World) (hx : Below wr.heap.size wr wx) => (show wx.cell? ⟨g', j * 5 + 4, none⟩ = some (.int .i64 0) from (hx.cell (p := ⟨g', j * 5 + 4, none⟩) hgl').trans q4))
                    have hd : decide ((j : Int) < (n i : Int)) = true := decide_eq_true (by omega)
                    have hdn : decide (j < n i) = true := decide_eq_true hjn
                    have j2' : (j : Int) < (n i : Int) := by omega
                    clear q0 q1 q2 q3 q4 hcu
                    refine Rel.wp_region_rel (fun wx => Below wr.heap.size wr wx) (fun wa wb => Below wa.heap.size wa wb) (by kernel_rfl) (by kernel_rfl) (bdrew (Below.refl _ _)) (fun _ => Below.refl _ _) ?_
                    apply Rel.rel_one2 1 [] rfl (by kernel_rfl) (by kernel_rfl)
                    case hs =>
                      intro wx hx
                      try simp only [Act.put, List.setIfInBounds_toArray, List.set_cons_zero, List.set_cons_succ]
                      intro KK hK
                      go_simp
                      exact hK _ _ hx (Below.refl _ _) rfl
                    apply Rel.rel_one2 2 [] rfl (by kernel_rfl) (by kernel_rfl)
                    case hs =>
                      intro wx hx
                      try simp only [Act.put, List.setIfInBounds_toArray, List.set_cons_zero, List.set_cons_succ]
                      intro KK hK
                      go_simp
                      exact hK _ _ hx (Below.refl _ _) rfl
                    apply Rel.rel_one2 3 [(0, 75), (1, 76)] rfl (by kernel_rfl) (by kernel_rfl)
                    case hs =>
                      intro wx hx
                      rintro _ rfl _ rfl
                      try simp only [Act.put, List.setIfInBounds_toArray, List.set_cons_zero, List.set_cons_succ]
                      intro KK hK
                      go_simp
                      exact hK _ _ hx (Below.refl _ _) rfl
                    apply Rel.rel_one2 4 [(2, 77)] rfl (by kernel_rfl) (by kernel_rfl)
                    case hs =>
                      intro wx hx
                      rintro _ rfl
                      try simp only [Act.put, List.setIfInBounds_toArray, List.set_cons_zero, List.set_cons_succ]
                      intro KK hK
                      go_simp
                      exact hK _ _ hx (Below.refl _ _) rfl
                    apply Rel.rel_one2 5 [(3, 78)] rfl (by kernel_rfl) (by kernel_rfl)
                    case hs =>
                      intro wx hx
                      rintro _ rfl
                      have y0 := Y0.out wx hx
                      have y1 := Y1.out wx hx
                      have y2 := Y2.out wx hx
                      have y3 := Y3.out wx hx
                      have y4 := Y4.out wx hx
                      have q0 := Q0.out wx hx
                      have q1 := Q1.out wx hx
                      have q2 := Q2.out wx hx
                      have q3 := Q3.out wx hx
                      have q4 := Q4.out wx hx
                      have o1 := O1.out wx hx
                      try simp only [Act.put, List.setIfInBounds_toArray, List.set_cons_zero, List.set_cons_succ]
                      intro KK hK
                      go_simp
                      exact hK _ _ hx (Below.refl _ _) rfl
                    apply Rel.rel_one2 6 [] rfl (by kernel_rfl) (by kernel_rfl)
                    case hs =>
                      intro wx hx
                      try simp only [Act.put, List.setIfInBounds_toArray, List.set_cons_zero, List.set_cons_succ]
                      intro KK hK
                      go_simp
                      exact hK _ _ hx (Below.refl _ _) rfl
                    apply Rel.rel_one2 7 [(5, 80)] rfl (by kernel_rfl) (by kernel_rfl)
                    case hs =>
                      intro wx hx
                      rintro _ rfl
                      try simp only [Act.put, List.setIfInBounds_toArray, List.set_cons_zero, List.set_cons_succ]
                      intro KK hK
                      go_simp
                      exact hK _ _ hx (Below.refl _ _) rfl
                    apply Rel.rel_one2 8 [(4, 79), (6, 81)] rfl (by kernel_rfl) (by kernel_rfl)
                    case hs =>
                      intro wx hx
                      rintro _ rfl _ rfl
                      try simp only [Act.put, List.setIfInBounds_toArray, List.set_cons_zero, List.set_cons_succ]
                      intro KK hK
                      go_simp
                      exact hK _ _ hx (Below.refl _ _) rfl
                    apply Rel.rel_one2 9 [(7, 82)] rfl (by kernel_rfl) (by kernel_rfl)
                    case hs =>
                      intro wx hx
                      rintro _ rfl
                      try simp only [Act.put, List.setIfInBounds_toArray, List.set_cons_zero, List.set_cons_succ]
                      intro KK hK
                      go_simp
                      exact hK _ _ hx (Below.refl _ _) rfl
                    apply Rel.rel_one2 10 [(8, 83)] rfl (by kernel_rfl) (by kernel_rfl)
                    case hs =>
                      intro wx hx
                      rintro _ rfl
                      try simp only [Act.put, List.setIfInBounds_toArray, List.set_cons_zero, List.set_cons_succ]
                      intro KK hK
                      go_simp
                      exact hK _ _ hx (Below.refl _ _) rfl
                    apply Rel.rel_one2 11 [(8, 83)] rfl (by kernel_rfl) (by kernel_rfl)
                    case hs =>
                      intro wx hx
                      rintro _ rfl
                      try simp only [Act.put, List.setIfInBounds_toArray, List.set_cons_zero, List.set_cons_succ]
                      intro KK hK
                      go_simp
                      exact hK _ _ hx (Below.refl _ _) rfl
                    apply Rel.rel_one2 12 [(8, 83), (9, 84), (10, 85)] rfl (by kernel_rfl) (by kernel_rfl)
                    case hs =>
                      intro wx hx
                      rintro _ rfl _ rfl _ rfl
                      try simp only [Act.put, List.setIfInBounds_toArray, List.set_cons_zero, List.set_cons_succ]
                      intro KK hK
                      go_simp
                      exact hK _ _ hx (Below.refl _ _) rfl
                    apply Rel.rel_one2 13 [(8, 83), (11, 86)] rfl (by kernel_rfl) (by kernel_rfl)
                    case hs =>
                      intro wx hx
                      rintro _ rfl _ rfl
                      try simp only [Act.put, List.setIfInBounds_toArray, List.set_cons_zero, List.set_cons_succ]
                      intro KK hK
                      go_simp
                      exact hK _ _ hx (Below.refl _ _) rfl
                    apply Rel.rel_one2 14 [(8, 83), (12, 87)] rfl (by kernel_rfl) (by kernel_rfl)
                    case hs =>
                      intro wx hx
                      rintro _ rfl _ rfl
                      have y0 := Y0.out wx hx
                      have y1 := Y1.out wx hx
                      have y2 := Y2.out wx hx
                      have y3 := Y3.out wx hx
                      have y4 := Y4.out wx hx
                      have q0 := Q0.out wx hx
                      have q1 := Q1.out wx hx
                      have q2 := Q2.out wx hx
                      have q3 := Q3.out wx hx
                      have q4 := Q4.out wx hx
                      have o1 := O1.out wx hx
                      try simp only [Act.put, List.setIfInBounds_toArray, List.set_cons_zero, List.set_cons_succ]
                      intro KK hK
                      go_simp
                      exact hK _ _ hx (Below.refl _ _) rfl
                    apply Rel.rel_one2 15 [(8, 83)] rfl (by kernel_rfl) (by kernel_rfl)
                    case hs =>
                      intro wx hx
                      rintro _ rfl
                      try simp only [Act.put, List.setIfInBounds_toArray, List.set_cons_zero, List.set_cons_succ]
                      intro KK hK
                      go_simp
                      exact hK _ _ hx (Below.refl _ _) rfl
                    apply Rel.rel_one2 16 [(8, 83), (13, 88), (14, 89)] rfl (by kernel_rfl) (by kernel_rfl)
                    case hs =>
                      intro wx hx
                      rintro _ rfl _ rfl _ rfl
                      try simp only [Act.put, List.setIfInBounds_toArray, List.set_cons_zero, List.set_cons_succ]
                      intro KK hK
                      go_simp
                      exact hK _ _ hx (Below.refl _ _) rfl
                    apply Rel.rel_one2 17 [(8, 83), (15, 90)] rfl (by kernel_rfl) (by kernel_rfl)
                    case hs =>
                      intro wx hx
                      rintro _ rfl _ rfl
                      try simp only [Act.put, List.setIfInBounds_toArray, List.set_cons_zero, List.set_cons_succ]
                      intro KK hK
                      go_simp
                      exact hK _ _ hx (Below.refl _ _) rfl
                    apply Rel.rel_one2 18 [(16, 91)] rfl (by kernel_rfl) (by kernel_rfl)
                    case hs =>
                      intro wx hx
                      rintro _ rfl
                      try simp only [Act.put, List.setIfInBounds_toArray, List.set_cons_zero, List.set_cons_succ]
                      intro KK hK
                      go_simp
                      exact hK _ _ hx (Below.refl _ _) rfl
                    apply Rel.rel_one2 19 [(17, 92)] rfl (by kernel_rfl) (by kernel_rfl)
                    case hs =>
                      intro wx hx
                      rintro _ rfl
                      try simp only [Act.put, List.setIfInBounds_toArray, List.set_cons_zero, List.set_cons_succ]
                      intro KK hK
                      go_simp
                      exact hK _ _ hx (Below.refl _ _) rfl
                    apply Rel.rel_one2 20 [(17, 92)] rfl (by kernel_rfl) (by kernel_rfl)
                    case hs =>
                      intro wx hx
                      rintro _ rfl
                      try simp only [Act.put, List.setIfInBounds_toArray, List.set_cons_zero, List.set_cons_succ]
                      intro KK hK
                      go_simp
                      exact hK _ _ hx (Below.refl _ _) rfl
                    apply Rel.rel_one2 21 [(17, 92)] rfl (by kernel_rfl) (by kernel_rfl)
                    case hs =>
                      intro wx hx
                      rintro _ rfl
                      try simp only [Act.put, List.setIfInBounds_toArray, List.set_cons_zero, List.set_cons_succ]
                      intro KK hK
                      go_simp
                      exact hK _ _ hx (Below.refl _ _) rfl
                    apply Rel.rel_one2 22 [(17, 92), (19, 94), (20, 95)] rfl (by kernel_rfl) (by kernel_rfl)
                    case hs =>
                      intro wx hx
                      rintro _ rfl _ rfl _ rfl
                      try simp only [Act.put, List.setIfInBounds_toArray, List.set_cons_zero, List.set_cons_succ]
                      intro KK hK
                      go_simp
                      exact hK _ _ hx (Below.refl _ _) rfl
                    apply Rel.rel_one2 23 [(17, 92), (21, 96)] rfl (by kernel_rfl) (by kernel_rfl)
                    case hs =>
                      intro wx hx
                      rintro _ rfl _ rfl
                      have y0 := Y0.out wx hx
                      have y1 := Y1.out wx hx
                      have y2 := Y2.out wx hx
                      have y3 := Y3.out wx hx
                      have y4 := Y4.out wx hx
                      have q0 := Q0.out wx hx
                      have q1 := Q1.out wx hx
                      have q2 := Q2.out wx hx
                      have q3 := Q3.out wx hx
                      have q4 := Q4.out wx hx
                      have o1 := O1.out wx hx
                      try simp only [Act.put, List.setIfInBounds_toArray, List.set_cons_zero, List.set_cons_succ]
                      intro KK hK
                      go_simp
                      exact hK _ _ hx (Below.refl _ _) rfl
                    apply Rel.rel_one2 24 [(17, 92), (22, 97)] rfl (by kernel_rfl) (by kernel_rfl)
                    case hs =>
                      intro wx hx
                      rintro _ rfl _ rfl
                      have y0 := Y0.out wx hx
                      have y1 := Y1.out wx hx
                      have y2 := Y2.out wx hx
                      have y3 := Y3.out wx hx
                      have y4 := Y4.out wx hx
                      have q0 := Q0.out wx hx
                      have q1 := Q1.out wx hx
                      have q2 := Q2.out wx hx
                      have q3 := Q3.out wx hx
                      have q4 := Q4.out wx hx
                      have o1 := O1.out wx hx
                      try simp only [Act.put, List.setIfInBounds_toArray, List.set_cons_zero, List.set_cons_succ]
                      intro KK hK
                      go_simp
                      exact hK _ _ hx (Below.refl _ _) rfl
                    apply Rel.rel_one2 25 [(17, 92), (18, 93), (23, 98)] rfl (by kernel_rfl) (by kernel_rfl)
                    case hs =>
                      intro wx hx
                      rintro _ rfl _ rfl _ rfl
                      try simp only [Act.put, List.setIfInBounds_toArray, List.set_cons_zero, List.set_cons_succ]
                      intro KK hK
                      go_simp
                      exact hK _ _ hx (Below.refl _ _) rfl
                    apply Rel.rel_one2 26 [(17, 92), (24, 99)] rfl (by kernel_rfl) (by kernel_rfl)
                    case hs =>
                      intro wx hx
                      rintro _ rfl _ rfl
                      try simp only [Act.put, List.setIfInBounds_toArray, List.set_cons_zero, List.set_cons_succ]
                      intro KK hK
                      go_simp
                      exact hK _ _ hx (Below.refl _ _) rfl
                    apply Rel.rel_one2 27 [(25, 100)] rfl (by kernel_rfl) (by kernel_rfl)
                    case hs =>
                      intro wx hx
                      rintro _ rfl
                      try simp only [Act.put, List.setIfInBounds_toArray, List.set_cons_zero, List.set_cons_succ]
                      intro KK hK
                      go_simp
                      exact hK _ _ hx (Below.refl _ _) rfl
                    apply Rel.rel_one2 28 [(25, 100)] rfl (by kernel_rfl) (by kernel_rfl)
                    case hs =>
                      intro wx hx
                      rintro _ rfl
                      try simp only [Act.put, List.setIfInBounds_toArray, List.set_cons_zero, List.set_cons_succ]
                      intro KK hK
                      go_simp
                      exact hK _ _ hx (Below.refl _ _) rfl
                    apply Rel.rel_one2 29 [(25, 100), (26, 101), (27, 102)] rfl (by kernel_rfl) (by kernel_rfl)
                    case hs =>
                      intro wx hx
                      rintro _ rfl _ rfl _ rfl
                      try simp only [Act.put, List.setIfInBounds_toArray, List.set_cons_zero, List.set_cons_succ]
                      intro KK hK
                      go_simp
                      exact hK _ _ hx (Below.refl _ _) rfl
                    apply Rel.rel_one2 30 [(25, 100), (28, 103)] rfl (by kernel_rfl) (by kernel_rfl)
                    case hs =>
                      intro wx hx
                      rintro _ rfl _ rfl
                      have y0 := Y0.out wx hx
                      have y1 := Y1.out wx hx
                      have y2 := Y2.out wx hx
                      have y3 := Y3.out wx hx
                      have y4 := Y4.out wx hx
                      have q0 := Q0.out wx hx
                      have q1 := Q1.out wx hx
                      have q2 := Q2.out wx hx
                      have q3 := Q3.out wx hx
                      have q4 := Q4.out wx hx
                      have o1 := O1.out wx hx
                      try simp only [Act.put, List.setIfInBounds_toArray, List.set_cons_zero, List.set_cons_succ]
                      intro KK hK
                      go_simp
                      exact hK _ _ hx (Below.refl _ _) rfl
                    apply Rel.rel_one2 31 [(25, 100)] rfl (by kernel_rfl) (by kernel_rfl)
                    case hs =>
                      intro wx hx
                      rintro _ rfl
                      try simp only [Act.put, List.setIfInBounds_toArray, List.set_cons_zero, List.set_cons_succ]
                      intro KK hK
                      go_simp
                      exact hK _ _ hx (Below.refl _ _) rfl
                    apply Rel.rel_one2 32 [(25, 100), (29, 104), (30, 105)] rfl (by kernel_rfl) (by kernel_rfl)
                    case hs =>
                      intro wx hx
                      rintro _ rfl _ rfl _ rfl
                      try simp only [Act.put, List.setIfInBounds_toArray, List.set_cons_zero, List.set_cons_succ]
                      intro KK hK
                      go_simp
                      exact hK _ _ hx (Below.refl _ _) rfl
                    apply Rel.rel_one2 33 [(25, 100), (31, 106)] rfl (by kernel_rfl) (by kernel_rfl)
                    case hs =>
                      intro wx hx
                      rintro _ rfl _ rfl
                      have y0 := Y0.out wx hx
                      have y1 := Y1.out wx hx
                      have y2 := Y2.out wx hx
                      have y3 := Y3.out wx hx
                      have y4 := Y4.out wx hx
                      have q0 := Q0.out wx hx
                      have q1 := Q1.out wx hx
                      have q2 := Q2.out wx hx
                      have q3 := Q3.out wx hx
                      have q4 := Q4.out wx hx
                      have o1 := O1.out wx hx
                      try simp only [Act.put, List.setIfInBounds_toArray, List.set_cons_zero, List.set_cons_succ]
                      intro KK hK
                      go_simp
                      exact hK _ _ hx (Below.refl _ _) rfl
                    apply Rel.rel_one2 34 [(25, 100)] rfl (by kernel_rfl) (by kernel_rfl)
                    case hs =>
                      intro wx hx
                      rintro _ rfl
                      try simp only [Act.put, List.setIfInBounds_toArray, List.set_cons_zero, List.set_cons_succ]
                      intro KK hK
                      go_simp
                      exact hK _ _ hx (Below.refl _ _) rfl
                    apply Rel.rel_one2 35 [(25, 100)] rfl (by kernel_rfl) (by kernel_rfl)
                    case hs =>
                      intro wx hx
                      rintro _ rfl
                      try simp only [Act.put, List.setIfInBounds_toArray, List.set_cons_zero, List.set_cons_succ]
                      intro KK hK
                      go_simp
                      exact hK _ _ hx (Below.refl _ _) rfl
                    apply Rel.rel_one2 36 [(25, 100), (33, 108), (34, 109)] rfl (by kernel_rfl) (by kernel_rfl)
                    case hs =>
                      intro wx hx
                      rintro _ rfl _ rfl _ rfl
                      try simp only [Act.put, List.setIfInBounds_toArray, List.set_cons_zero, List.set_cons_succ]
                      intro KK hK
                      go_simp
                      exact hK _ _ hx (Below.refl _ _) rfl
                    apply Rel.rel_one2 37 [(25, 100), (35, 110)] rfl (by kernel_rfl) (by kernel_rfl)
                    case hs =>
                      intro wx hx
                      rintro _ rfl _ rfl
                      have y0 := Y0.out wx hx
                      have y1 := Y1.out wx hx
                      have y2 := Y2.out wx hx
                      have y3 := Y3.out wx hx
                      have y4 := Y4.out wx hx
                      have q0 := Q0.out wx hx
                      have q1 := Q1.out wx hx
                      have q2 := Q2.out wx hx
                      have q3 := Q3.out wx hx
                      have q4 := Q4.out wx hx
                      have o1 := O1.out wx hx
                      try simp only [Act.put, List.setIfInBounds_toArray, List.set_cons_zero, List.set_cons_succ]
                      intro KK hK
                      go_simp
                      exact hK _ _ hx (Below.refl _ _) rfl
                    apply Rel.rel_one2 38 [(25, 100), (32, 107), (36, 111)] rfl (by kernel_rfl) (by kernel_rfl)
                    case hs =>
                      intro wx hx
                      rintro _ rfl _ rfl _ rfl
                      try simp only [Act.put, List.setIfInBounds_toArray, List.set_cons_zero, List.set_cons_succ]
                      intro KK hK
                      go_simp
                      exact hK _ _ hx (Below.refl _ _) rfl
                    apply Rel.rel_one2 39 [(17, 92), (25, 100), (37, 112)] rfl (by kernel_rfl) (by kernel_rfl)
                    case hs =>
                      intro wx hx
                      rintro _ rfl _ rfl _ rfl
                      try simp only [Act.put, List.setIfInBounds_toArray, List.set_cons_zero, List.set_cons_succ]
                      intro KK hK
                      go_simp
                      exact hK _ _ hx (Below.refl _ _) rfl
                    apply Rel.rel_one2 40 [(17, 92), (38, 113)] rfl (by kernel_rfl) (by kernel_rfl)
                    case hs =>
                      intro wx hx
                      rintro _ rfl _ rfl
                      try simp only [Act.put, List.setIfInBounds_toArray, List.set_cons_zero, List.set_cons_succ]
                      intro KK hK
                      go_simp
                      exact hK _ _ hx (Below.refl _ _) rfl
                    refine Rel.rel_end [(0, 75), (1, 76), (2, 77), (3, 78), (4, 79), (5, 80), (6, 81), (7, 82), (8, 83), (9, 84), (10, 85), (11, 86), (12, 87), (13, 88), (14, 89), (15, 90), (16, 91), (17, 92), (18, 93), (19, 94), (20, 95), (21, 96), (22, 97), (23, 98), (24, 99), (25, 100), (26, 101), (27, 102), (28, 103), (29, 104), (30, 105), (31, 106), (32, 107), (33, 108), (34, 109), (35, 110), (36, 111), (37, 112), (38, 113), (39, 114)] (by kernel_rfl) (by kernel_rfl) ?_
                    intro wx hx
                    rintro _ rfl _ rfl _ rfl _ rfl _ rfl _ rfl _ rfl _ rfl _ rfl _ rfl _ rfl _ rfl _ rfl _ rfl _ rfl _ rfl _ rfl _ rfl _ rfl _ rfl _ rfl _ rfl _ rfl _ rfl _ rfl _ rfl _ rfl _ rfl _ rfl _ rfl _ rfl _ rfl _ rfl _ rfl _ rfl _ rfl _ rfl _ rfl _ rfl _ rfl
                    try simp only [Act.put, List.setIfInBounds_toArray, List.set_cons_zero, List.set_cons_succ]
                    refine Rel.valsD_ret ?_
                    go_wp2_with fail
                    go_roundw
                    case rel => exact ⟨j + 1, by omega, by go_num, hGj.below hx⟩
                    case measure => simp [intOf]; omega
                  · have hd : decide ((j : Int) < (n i : Int)) = false := decide_eq_false (by omega)
                    have hdn : decide (j < n i) = false := decide_eq_false hjn
                    refine Rel.wp_region_rel (fun wx => Below wr.heap.size wr wx) (fun wa wb => Below wa.heap.size wa wb) (by kernel_rfl) (by kernel_rfl) (bdrew (Below.refl _ _)) (fun _ => Below.refl _ _) ?_
                    apply Rel.rel_one2 1 [] rfl (by kernel_rfl) (by kernel_rfl)
                    case hs =>
                      intro wx hx
                      try simp only [Act.put, List.setIfInBounds_toArray, List.set_cons_zero, List.set_cons_succ]
                      intro KK hK
                      go_simp
                      exact hK _ _ hx (Below.refl _ _) rfl
                    apply Rel.rel_one2 2 [] rfl (by kernel_rfl) (by kernel_rfl)
                    case hs =>
                      intro wx hx
                      try simp only [Act.put, List.setIfInBounds_toArray, List.set_cons_zero, List.set_cons_succ]
                      intro KK hK
                      go_simp
                      exact hK _ _ hx (Below.refl _ _) rfl
                    apply Rel.rel_one2 3 [(0, 75), (1, 76)] rfl (by kernel_rfl) (by kernel_rfl)
                    case hs =>
                      intro wx hx
                      rintro _ rfl _ rfl
                      try simp only [Act.put, List.setIfInBounds_toArray, List.set_cons_zero, List.set_cons_succ]
                      intro KK hK
                      go_simp
                      exact hK _ _ hx (Below.refl _ _) rfl
                    apply Rel.rel_one2 4 [(2, 77)] rfl (by kernel_rfl) (by kernel_rfl)
                    case hs =>
                      intro wx hx
                      rintro _ rfl
                      try simp only [Act.put, List.setIfInBounds_toArray, List.set_cons_zero, List.set_cons_succ]
                      intro KK hK
                      go_simp
                      exact hK _ _ hx (Below.refl _ _) rfl
                    apply Rel.rel_one2 5 [(3, 78)] rfl (by kernel_rfl) (by kernel_rfl)
                    case hs =>
                      intro wx hx
                      rintro _ rfl
                      have y0 := Y0.out wx hx
                      have y1 := Y1.out wx hx
                      have y2 := Y2.out wx hx
                      have y3 := Y3.out wx hx
                      have y4 := Y4.out wx hx
                      have o1 := O1.out wx hx
                      try simp only [Act.put, List.setIfInBounds_toArray, List.set_cons_zero, List.set_cons_succ]
                      intro KK hK
                      go_simp
                      exact hK _ _ hx (Below.refl _ _) rfl
                    apply Rel.rel_one2 6 [] rfl (by kernel_rfl) (by kernel_rfl)
                    case hs =>
                      intro wx hx
                      try simp only [Act.put, List.setIfInBounds_toArray, List.set_cons_zero, List.set_cons_succ]
                      intro KK hK
                      go_simp
                      exact hK _ _ hx (Below.refl _ _) rfl
                    apply Rel.rel_one2 7 [(5, 80)] rfl (by kernel_rfl) (by kernel_rfl)
                    case hs =>
                      intro wx hx
                      rintro _ rfl
                      try simp only [Act.put, List.setIfInBounds_toArray, List.set_cons_zero, List.set_cons_succ]
                      intro KK hK
                      go_simp
                      exact hK _ _ hx (Below.refl _ _) rfl
                    apply Rel.rel_one2 8 [(4, 79), (6, 81)] rfl (by kernel_rfl) (by kernel_rfl)
                    case hs =>
                      intro wx hx
                      rintro _ rfl _ rfl
                      try simp only [Act.put, List.setIfInBounds_toArray, List.set_cons_zero, List.set_cons_succ]
                      intro KK hK
                      go_simp
                      exact hK _ _ hx (Below.refl _ _) rfl
                    apply Rel.rel_one2 9 [(7, 82)] rfl (by kernel_rfl) (by kernel_rfl)
                    case hs =>
                      intro wx hx
                      rintro _ rfl
                      try simp only [Act.put, List.setIfInBounds_toArray, List.set_cons_zero, List.set_cons_succ]
                      intro KK hK
                      go_simp
                      exact hK _ _ hx (Below.refl _ _) rfl
                    apply Rel.rel_one2 10 [(8, 83)] rfl (by kernel_rfl) (by kernel_rfl)
                    case hs =>
                      intro wx hx
                      rintro _ rfl
                      try simp only [Act.put, List.setIfInBounds_toArray, List.set_cons_zero, List.set_cons_succ]
                      intro KK hK
                      go_simp
                      exact hK _ _ hx (Below.refl _ _) rfl
                    apply Rel.rel_one2 11 [(8, 83)] rfl (by kernel_rfl) (by kernel_rfl)
                    case hs =>
                      intro wx hx
                      rintro _ rfl
                      try simp only [Act.put, List.setIfInBounds_toArray, List.set_cons_zero, List.set_cons_succ]
                      intro KK hK
                      go_simp
                      exact hK _ _ hx (Below.refl _ _) rfl
                    apply Rel.rel_one2 12 [(8, 83), (9, 84), (10, 85)] rfl (by kernel_rfl) (by kernel_rfl)
                    case hs =>
                      intro wx hx
                      rintro _ rfl _ rfl _ rfl
                      try simp only [Act.put, List.setIfInBounds_toArray, List.set_cons_zero, List.set_cons_succ]
                      intro KK hK
                      go_simp
                      exact hK _ _ hx (Below.refl _ _) rfl
                    apply Rel.rel_one2 13 [(8, 83), (11, 86)] rfl (by kernel_rfl) (by kernel_rfl)
                    case hs =>
                      intro wx hx
                      rintro _ rfl _ rfl
                      try simp only [Act.put, List.setIfInBounds_toArray, List.set_cons_zero, List.set_cons_succ]
                      intro KK hK
                      go_simp
                      exact hK _ _ hx (Below.refl _ _) rfl
                    apply Rel.rel_one2 14 [(8, 83), (12, 87)] rfl (by kernel_rfl) (by kernel_rfl)
                    case hs =>
                      intro wx hx
                      rintro _ rfl _ rfl
                      have y0 := Y0.out wx hx
                      have y1 := Y1.out wx hx
                      have y2 := Y2.out wx hx
                      have y3 := Y3.out wx hx
                      have y4 := Y4.out wx hx
                      have o1 := O1.out wx hx
                      try simp only [Act.put, List.setIfInBounds_toArray, List.set_cons_zero, List.set_cons_succ]
                      intro KK hK
                      go_simp
                      exact hK _ _ hx (Below.refl _ _) rfl
                    apply Rel.rel_one2 15 [(8, 83)] rfl (by kernel_rfl) (by kernel_rfl)
                    case hs =>
                      intro wx hx
                      rintro _ rfl
                      try simp only [Act.put, List.setIfInBounds_toArray, List.set_cons_zero, List.set_cons_succ]
                      intro KK hK
                      go_simp
                      exact hK _ _ hx (Below.refl _ _) rfl
                    apply Rel.rel_one2 16 [(8, 83), (13, 88), (14, 89)] rfl (by kernel_rfl) (by kernel_rfl)
                    case hs =>
                      intro wx hx
                      rintro _ rfl _ rfl _ rfl
                      try simp only [Act.put, List.setIfInBounds_toArray, List.set_cons_zero, List.set_cons_succ]
                      intro KK hK
                      go_simp
                      exact hK _ _ hx (Below.refl _ _) rfl
                    apply Rel.rel_one2 17 [(8, 83), (15, 90)] rfl (by kernel_rfl) (by kernel_rfl)
                    case hs =>
                      intro wx hx
                      rintro _ rfl _ rfl
                      try simp only [Act.put, List.setIfInBounds_toArray, List.set_cons_zero, List.set_cons_succ]
                      intro KK hK
                      go_simp
                      exact hK _ _ hx (Below.refl _ _) rfl
                    apply Rel.rel_one2 18 [(16, 91)] rfl (by kernel_rfl) (by kernel_rfl)
                    case hs =>
                      intro wx hx
                      rintro _ rfl
                      try simp only [Act.put, List.setIfInBounds_toArray, List.set_cons_zero, List.set_cons_succ]
                      intro KK hK
                      go_simp
                      exact hK _ _ hx (Below.refl _ _) rfl
                    apply Rel.rel_one2 19 [(17, 92)] rfl (by kernel_rfl) (by kernel_rfl)
                    case hs =>
                      intro wx hx
                      rintro _ rfl
                      try simp only [Act.put, List.setIfInBounds_toArray, List.set_cons_zero, List.set_cons_succ]
                      intro KK hK
                      go_simp
                      exact hK _ _ hx (Below.refl _ _) rfl
                    apply Rel.rel_one2 20 [(17, 92)] rfl (by kernel_rfl) (by kernel_rfl)
                    case hs =>
                      intro wx hx
                      rintro _ rfl
                      try simp only [Act.put, List.setIfInBounds_toArray, List.set_cons_zero, List.set_cons_succ]
                      intro KK hK
                      go_simp
                      exact hK _ _ hx (Below.refl _ _) rfl
                    apply Rel.rel_one2 21 [(17, 92)] rfl (by kernel_rfl) (by kernel_rfl)
                    case hs =>
                      intro wx hx
                      rintro _ rfl
                      try simp only [Act.put, List.setIfInBounds_toArray, List.set_cons_zero, List.set_cons_succ]
                      intro KK hK
                      go_simp
                      exact hK _ _ hx (Below.refl _ _) rfl
                    apply Rel.rel_one2 22 [(17, 92), (19, 94), (20, 95)] rfl (by kernel_rfl) (by kernel_rfl)
                    case hs =>
                      intro wx hx
                      rintro _ rfl _ rfl _ rfl
                      try simp only [Act.put, List.setIfInBounds_toArray, List.set_cons_zero, List.set_cons_succ]
                      intro KK hK
                      go_simp
                      exact hK _ _ hx (Below.refl _ _) rfl
                    apply Rel.rel_one2 23 [(17, 92), (21, 96)] rfl (by kernel_rfl) (by kernel_rfl)
                    case hs =>
                      intro wx hx
                      rintro _ rfl _ rfl
                      have y0 := Y0.out wx hx
                      have y1 := Y1.out wx hx
                      have y2 := Y2.out wx hx
                      have y3 := Y3.out wx hx
                      have y4 := Y4.out wx hx
                      have o1 := O1.out wx hx
                      try simp only [Act.put, List.setIfInBounds_toArray, List.set_cons_zero, List.set_cons_succ]
                      intro KK hK
                      go_simp
                      exact hK _ _ hx (Below.refl _ _) rfl
                    apply Rel.rel_one2 24 [(17, 92), (22, 97)] rfl (by kernel_rfl) (by kernel_rfl)
                    case hs =>
                      intro wx hx
                      rintro _ rfl _ rfl
                      have y0 := Y0.out wx hx
                      have y1 := Y1.out wx hx
                      have y2 := Y2.out wx hx
                      have y3 := Y3.out wx hx
                      have y4 := Y4.out wx hx
                      have o1 := O1.out wx hx
                      try simp only [Act.put, List.setIfInBounds_toArray, List.set_cons_zero, List.set_cons_succ]
                      intro KK hK
                      go_simp
                      exact hK _ _ hx (Below.refl _ _) rfl
                    apply Rel.rel_one2 25 [(17, 92), (18, 93), (23, 98)] rfl (by kernel_rfl) (by kernel_rfl)
                    case hs =>
                      intro wx hx
                      rintro _ rfl _ rfl _ rfl
                      try simp only [Act.put, List.setIfInBounds_toArray, List.set_cons_zero, List.set_cons_succ]
                      intro KK hK
                      go_simp
                      exact hK _ _ hx (Below.refl _ _) rfl
                    apply Rel.rel_one2 26 [(17, 92), (24, 99)] rfl (by kernel_rfl) (by kernel_rfl)
                    case hs =>
                      intro wx hx
                      rintro _ rfl _ rfl
                      try simp only [Act.put, List.setIfInBounds_toArray, List.set_cons_zero, List.set_cons_succ]
                      intro KK hK
                      go_simp
                      exact hK _ _ hx (Below.refl _ _) rfl
                    apply Rel.rel_one2 27 [(25, 100)] rfl (by kernel_rfl) (by kernel_rfl)
                    case hs =>
                      intro wx hx
                      rintro _ rfl
                      try simp only [Act.put, List.setIfInBounds_toArray, List.set_cons_zero, List.set_cons_succ]
                      intro KK hK
                      go_simp
                      exact hK _ _ hx (Below.refl _ _) rfl
                    apply Rel.rel_one2 28 [(25, 100)] rfl (by kernel_rfl) (by kernel_rfl)
                    case hs =>
                      intro wx hx
                      rintro _ rfl
                      try simp only [Act.put, List.setIfInBounds_toArray, List.set_cons_zero, List.set_cons_succ]
                      intro KK hK
                      go_simp
                      exact hK _ _ hx (Below.refl _ _) rfl
                    apply Rel.rel_one2 29 [(25, 100), (26, 101), (27, 102)] rfl (by kernel_rfl) (by kernel_rfl)
                    case hs =>
                      intro wx hx
                      rintro _ rfl _ rfl _ rfl
                      try simp only [Act.put, List.setIfInBounds_toArray, List.set_cons_zero, List.set_cons_succ]
                      intro KK hK
                      go_simp
                      exact hK _ _ hx (Below.refl _ _) rfl
                    apply Rel.rel_one2 30 [(25, 100), (28, 103)] rfl (by kernel_rfl) (by kernel_rfl)
                    case hs =>
                      intro wx hx
                      rintro _ rfl _ rfl
                      have y0 := Y0.out wx hx
                      have y1 := Y1.out wx hx
                      have y2 := Y2.out wx hx
                      have y3 := Y3.out wx hx
                      have y4 := Y4.out wx hx
                      have o1 := O1.out wx hx
                      try simp only [Act.put, List.setIfInBounds_toArray, List.set_cons_zero, List.set_cons_succ]
                      intro KK hK
                      go_simp
                      exact hK _ _ hx (Below.refl _ _) rfl
                    apply Rel.rel_one2 31 [(25, 100)] rfl (by kernel_rfl) (by kernel_rfl)
                    case hs =>
                      intro wx hx
                      rintro _ rfl
                      try simp only [Act.put, List.setIfInBounds_toArray, List.set_cons_zero, List.set_cons_succ]
                      intro KK hK
                      go_simp
                      exact hK _ _ hx (Below.refl _ _) rfl
                    apply Rel.rel_one2 32 [(25, 100), (29, 104), (30, 105)] rfl (by kernel_rfl) (by kernel_rfl)
                    case hs =>
                      intro wx hx
                      rintro _ rfl _ rfl _ rfl
                      try simp only [Act.put, List.setIfInBounds_toArray, List.set_cons_zero, List.set_cons_succ]
                      intro KK hK
                      go_simp
                      exact hK _ _ hx (Below.refl _ _) rfl
                    apply Rel.rel_one2 33 [(25, 100), (31, 106)] rfl (by kernel_rfl) (by kernel_rfl)
                    case hs =>
                      intro wx hx
                      rintro _ rfl _ rfl
                      have y0 := Y0.out wx hx
                      have y1 := Y1.out wx hx
                      have y2 := Y2.out wx hx
                      have y3 := Y3.out wx hx
                      have y4 := Y4.out wx hx
                      have o1 := O1.out wx hx
                      try simp only [Act.put, List.setIfInBounds_toArray, List.set_cons_zero, List.set_cons_succ]
                      intro KK hK
                      go_simp
                      exact hK _ _ hx (Below.refl _ _) rfl
                    apply Rel.rel_one2 34 [(25, 100)] rfl (by kernel_rfl) (by kernel_rfl)
                    case hs =>
                      intro wx hx
                      rintro _ rfl
                      try simp only [Act.put, List.setIfInBounds_toArray, List.set_cons_zero, List.set_cons_succ]
                      intro KK hK
                      go_simp
                      exact hK _ _ hx (Below.refl _ _) rfl
                    apply Rel.rel_one2 35 [(25, 100)] rfl (by kernel_rfl) (by kernel_rfl)
                    case hs =>
                      intro wx hx
                      rintro _ rfl
                      try simp only [Act.put, List.setIfInBounds_toArray, List.set_cons_zero, List.set_cons_succ]
                      intro KK hK
                      go_simp
                      exact hK _ _ hx (Below.refl _ _) rfl
                    apply Rel.rel_one2 36 [(25, 100), (33, 108), (34, 109)] rfl (by kernel_rfl) (by kernel_rfl)
                    case hs =>
                      intro wx hx
                      rintro _ rfl _ rfl _ rfl
                      try simp only [Act.put, List.setIfInBounds_toArray, List.set_cons_zero, List.set_cons_succ]
                      intro KK hK
                      go_simp
                      exact hK _ _ hx (Below.refl _ _) rfl
                    apply Rel.rel_one2 37 [(25, 100), (35, 110)] rfl (by kernel_rfl) (by kernel_rfl)
                    case hs =>
                      intro wx hx
                      rintro _ rfl _ rfl
                      have y0 := Y0.out wx hx
                      have y1 := Y1.out wx hx
                      have y2 := Y2.out wx hx
                      have y3 := Y3.out wx hx
                      have y4 := Y4.out wx hx
                      have o1 := O1.out wx hx
                      try simp only [Act.put, List.setIfInBounds_toArray, List.set_cons_zero, List.set_cons_succ]
                      intro KK hK
                      go_simp
                      exact hK _ _ hx (Below.refl _ _) rfl
                    apply Rel.rel_one2 38 [(25, 100), (32, 107), (36, 111)] rfl (by kernel_rfl) (by kernel_rfl)
                    case hs =>
                      intro wx hx
                      rintro _ rfl _ rfl _ rfl
                      try simp only [Act.put, List.setIfInBounds_toArray, List.set_cons_zero, List.set_cons_succ]
                      intro KK hK
                      go_simp
                      exact hK _ _ hx (Below.refl _ _) rfl
                    apply Rel.rel_one2 39 [(17, 92), (25, 100), (37, 112)] rfl (by kernel_rfl) (by kernel_rfl)
                    case hs =>
                      intro wx hx
                      rintro _ rfl _ rfl _ rfl
                      try simp only [Act.put, List.setIfInBounds_toArray, List.set_cons_zero, List.set_cons_succ]
                      intro KK hK
                      go_simp
                      exact hK _ _ hx (Below.refl _ _) rfl
                    apply Rel.rel_one2 40 [(17, 92), (38, 113)] rfl (by kernel_rfl) (by kernel_rfl)
                    case hs =>
                      intro wx hx
                      rintro _ rfl _ rfl
                      try simp only [Act.put, List.setIfInBounds_toArray, List.set_cons_zero, List.set_cons_succ]
                      intro KK hK
                      go_simp
                      exact hK _ _ hx (Below.refl _ _) rfl
                    refine Rel.rel_end [(0, 75), (1, 76), (2, 77), (3, 78), (4, 79), (5, 80), (6, 81), (7, 82), (8, 83), (9, 84), (10, 85), (11, 86), (12, 87), (13, 88), (14, 89), (15, 90), (16, 91), (17, 92), (18, 93), (19, 94), (20, 95), (21, 96), (22, 97), (23, 98), (24, 99), (25, 100), (26, 101), (27, 102), (28, 103), (29, 104), (30, 105), (31, 106), (32, 107), (33, 108), (34, 109), (35, 110), (36, 111), (37, 112), (38, 113), (39, 114)] (by kernel_rfl) (by kernel_rfl) ?_
                    intro wx hx
                    rintro _ rfl _ rfl _ rfl _ rfl _ rfl _ rfl _ rfl _ rfl _ rfl _ rfl _ rfl _ rfl _ rfl _ rfl _ rfl _ rfl _ rfl _ rfl _ rfl _ rfl _ rfl _ rfl _ rfl _ rfl _ rfl _ rfl _ rfl _ rfl _ rfl _ rfl _ rfl _ rfl _ rfl _ rfl _ rfl _ rfl _ rfl _ rfl _ rfl _ rfl
                    try simp only [Act.put, List.setIfInBounds_toArray, List.set_cons_zero, List.set_cons_succ]
                    refine Rel.valsD_ret ?_
                    go_wp2_with fail
                    go_roundw
                    case rel => exact ⟨j + 1, by omega, by go_num, hGj.below hx⟩
                    case measure => simp [intOf]; omega
                · obtain rfl : j = hl := by omega
                  go_wp2_with fail
                  go_roundw
                  case rel => exact ⟨i + 1, by omega, by go_num, hGj⟩
                  case measure => simp [intOf]; omega
            · obtain rfl : i = vs.length := by omega
              go_wp2_with fail
              go_ret
              exact ⟨rfl, hGi.foot⟩
end Go.Proofs.YtmoahflgcojfcaaDoor.OwnTokWalk
