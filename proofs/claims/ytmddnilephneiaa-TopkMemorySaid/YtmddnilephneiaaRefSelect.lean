/-
  The walks of the reference's Select, After, Join.
-/
import Derived.Test.YtmddnilephneiaaSortedWalk
namespace Go.Proofs.Ytmddnilephneiaa.RefSelect
open Go.RowKit Go.PlainAid HitPlain HeapPlain KeepPlain Base HitBase PushWalk OfferWalk KeepWalk TopkWalk Rows2 RefBetter SortedWalk

/-- What the reference hands back: a list of hits, new or none. -/
def Gives (w : World) (L : List Hit) (e : Ending) (w' : World) : Prop :=
  ∃ A c, e = .returned (.slice A L.length c) ∧ Slc w' w'.heap.size A (hc L) ∧ Below w.heap.size w w'

set_option maxRecDepth 100000 in
set_option maxHeartbeats 4000000 in
theorem select_ref (L : List Hit) (A : Option Addr) (c B : Nat) (k : Int) (w : World) (hB : B ≤ w.heap.size) (h : Slc w B A (hc L)) (hcap : L.length ≤ c) (hn : L.length * 16 ≤ 140737488355328) :
    Calls Try.prog 22 #[.slice A L.length c, .int .i64 k] w (Gives w (tk k.toNat L)) := by
  by_cases hk : k < 1
  · have hT : tk k.toNat L = [] := by rw [show k.toNat = 0 by omega, tk_zero]
    go_enter Try.func22, Try.ntmps22
    go_wp2_with fail
    go_ret
    rw [hT]
    exact ⟨none, 0, rfl, Slc.nil _, Below.refl _ _⟩
  · obtain ⟨S, hS⟩ : ∃ S, S = srt L := ⟨_, rfl⟩
    have hSl : S.length = L.length := by rw [hS, srt_len]
    have hT : tk k.toNat L = S.take k.toNat := by rw [hS]; rfl
    have J := sorted_ref L.length L A c B w (Nat.le_refl _) hB h hcap hn
    rw [← hS] at J
    have HJ := Lib.hid J
    have HT := Lib.hid hT
    have HSL := Lib.hid hSl
    clear hS hT J hSl h
    go_enter Try.func22, Try.ntmps22
    by_cases hks : k < (S.length : Int)
    · go_wp2_with fail
      go_at_call 35
      refine HJ.out.mono ?_
      rintro e w1 ⟨A1, c1, rfl, hown1, hb1⟩
      have hc1 := own_cap hown1
      have k1 : (0 : Int) ≤ k := by omega
      have k2 : k ≤ (c1 : Int) := by omega
      go_wp2_with fail
      go_ret
      have hl : (S.take k.toNat).length = k.toNat := by rw [List.length_take]; omega
      have hsl := slc_take (slc_own hown1) k.toNat
      rw [HT.out]
      refine ⟨A1, c1, ?_, hsl, hb1⟩
      rw [hl]
      rfl
    · have hT2 : S.take k.toNat = S := List.take_of_length_le (by omega)
      go_wp2_with (go_at_call 35; refine HJ.out.mono ?_; rintro e w1 ⟨A1, c1, rfl, hown1, hb1⟩)
      go_ret
      rw [HT.out, hT2]
      exact ⟨A1, c1, rfl, slc_own hown1, hb1⟩

set_option maxRecDepth 100000 in
set_option maxHeartbeats 4000000 in
theorem join_ref (ls : List Lst) (A : Option Addr) (c B : Nat) (k : Int) (w : World) (hB : B ≤ w.heap.size) (h : Lsts w B A ls) (hl : ls.length ≤ 8796093022208) (hn : (allHits ls).length * 16 ≤ 140737488355328) :
    Calls Try.prog 27 #[.slice A ls.length c, .int .i64 k] w (Gives w (tk k.toNat (allHits ls))) := by
  go_enter Try.func27, Try.ntmps27
  go_wp2_with fail
  go_loopw [5, 6] (fun va i wr => ∃ j : Nat, j ≤ ls.length ∧ i = .int .i64 j ∧ wr.ownsRow w.heap.size 29 2 va (allHits (ls.take j)).length (hc (allHits (ls.take j))) ∧ Below w.heap.size w wr) (fun _ i _ => ls.length - (intOf i).toNat)
  case atStart => exact ⟨0, Nat.zero_le _, rfl, World.ownsRow_nil _ _ _ _, Below.refl _ _⟩
  case round =>
    obtain ⟨j, hj, rfl, hown, hbr⟩ := hrel
    have hsr := hbr.size
    by_cases hlt : j < ls.length
    · obtain ⟨⟨Ax, cx, L⟩, hx⟩ : ∃ x, ls[j]? = some x := ⟨_, List.getElem?_eq_getElem hlt⟩
      have hmem : ((Ax, cx, L) : Lst) ∈ ls := List.mem_of_getElem? hx
      obtain ⟨g, o, rfl, hg, hc0⟩ := (h.1.below hbr hB) (by intro e; have := congrArg List.length e; simp at this; rw [this] at hlt; simp at hlt)
      have p0 : wr.cell? ⟨g, o + j, none⟩ = some (.slice Ax L.length cx) := hc0 j _ (by rw [List.getElem?_map, hx]; rfl)
      have hsl : Slc wr B Ax (hc L) := (h.2 _ hmem).below hbr hB
      have ha : Hid (allHits (ls.take (j + 1)) = allHits (ls.take j) ++ L) := Lib.hid (by rw [take_snoc hx, allHits_snoc])
      have hle := allHits_take_le ls (j + 1)
      rw [ha.out, List.length_append] at hle
      clear hc0 hx hmem
      obtain ⟨P0, hP0⟩ : ∃ P0, P0 = allHits (ls.take j) := ⟨_, rfl⟩
      rw [← hP0] at hown hle ha
      clear hP0
      go_wp2_with (at_builtin; refine wpList_append_slc rfl _ _ rfl hitElem hown rfl rfl (hc_len L) hsl (hc_one L) (by omega) (by unfold maxLen; omega) hsr ?_)
      intro va2 w2 hown2 hg2 _
      have hb2 : Below w.heap.size w w2 := below_own hbr hown hsr hg2
      go_wp2_with fail
      go_roundw
      case rel => exact ⟨j + 1, by omega, by go_num, by rw [ha.out, List.length_append, hc_append]; exact hown2, hb2⟩
      case measure => simp [intOf]; omega
    · obtain rfl : j = ls.length := by omega
      rw [List.take_length] at hown
      obtain ⟨A2, c2, rfl⟩ := own_slice hown
      have hS := select_ref (allHits ls) A2 c2 wr.heap.size k wr (Nat.le_refl _) (slc_own hown) (own_cap hown) hn
      have HS := Lib.hid hS
      clear hS hown
      go_wp2_with (go_at_call 22; refine HS.out.mono ?_; rintro e w5 ⟨A5, c5, rfl, hs5, hb5⟩)
      go_ret
      exact ⟨A5, c5, rfl, hs5, hbr.trans (hb5.mono hsr)⟩

set_option maxRecDepth 100000 in
set_option maxHeartbeats 4000000 in
theorem after_ref (L : List Hit) (A : Option Addr) (c B : Nat) (h1 h2 k : Int) (w : World) (hB : B ≤ w.heap.size) (h : Slc w B A (hc L)) (hn : L.length * 16 ≤ 140737488355328) :
    Calls Try.prog 24 #[.slice A L.length c, .agg #[.int .i64 h1, .int .u64 h2], .int .i64 k] w (Gives w (tk k.toNat (behind (h1, h2) L))) := by
  have hb0 : Below w.heap.size w (w.alloc (.cells #[.int .i64 h1, .int .u64 h2] 29)) := (Below.refl _ _).alloc (Nat.le_refl _) _
  have b0 : (w.alloc (.cells #[.int .i64 h1, .int .u64 h2] 29)).cell? ⟨w.heap.size, 0, none⟩ = some (.int .i64 h1) := by rw [World.cell?_alloc_mark]; rfl
  have b1 : (w.alloc (.cells #[.int .i64 h1, .int .u64 h2] 29)).cell? ⟨w.heap.size, 1, none⟩ = some (.int .u64 h2) := by rw [World.cell?_alloc_mark]; rfl
  have hs0 : (w.alloc (.cells #[.int .i64 h1, .int .u64 h2] 29)).heap.size = w.heap.size + 1 := by simp
  generalize hw0 : w.alloc (.cells #[.int .i64 h1, .int .u64 h2] 29) = w0 at hb0 b0 b1 hs0
  have HW0 := Lib.hid hw0
  have HS0 := Lib.hid hs0
  clear hw0 hs0
  go_enter Try.func24, Try.ntmps24
  go_wp2_with fail
  rw [HW0.out]
  go_loopw [7, 8] (fun va i wr => ∃ j : Nat, j ≤ L.length ∧ i = .int .i64 j ∧ wr.ownsRow (w.heap.size + 1) 29 2 va (behind (h1, h2) (L.take j)).length (hc (behind (h1, h2) (L.take j))) ∧ Below (w.heap.size + 1) w0 wr) (fun _ i _ => L.length - (intOf i).toNat)
  case atStart => exact ⟨0, Nat.zero_le _, rfl, World.ownsRow_nil _ _ _ _, Below.refl _ _⟩
  case round =>
    obtain ⟨j, hj, rfl, hown, hbr⟩ := hrel
    have hsr := hbr.size
    rw [HS0.out] at hsr
    have hbw : Below w.heap.size w wr := hb0.trans (hbr.mono (by omega))
    by_cases hlt : j < L.length
    · obtain ⟨⟨x1, x2⟩, hx⟩ : ∃ x, L[j]? = some x := ⟨_, List.getElem?_eq_getElem hlt⟩
      obtain ⟨g2, o2, rfl, hg2, a2⟩ := slc_at (h.below hbw hB) (by intro e; rw [e] at hlt; simp at hlt)
      have q0 : wr.cell? ⟨g2, o2 + j * 2, none⟩ = some (.int .i64 x1) := (a2 j _ hx).1
      have q1 : wr.cell? ⟨g2, o2 + j * 2 + 1, none⟩ = some (.int .u64 x2) := (a2 j _ hx).2
      have HX := Lib.hid hx
      clear a2 hx
      have hle := behind_le (h1, h2) (L.take j)
      rw [List.length_take] at hle
      have c0 : wr.cell? ⟨w.heap.size, 0, none⟩ = some (.int .i64 h1) := (hbr.cell (p := ⟨w.heap.size, 0, none⟩) (by show w.heap.size < _; omega)).trans b0
      have c1 : wr.cell? ⟨w.heap.size, 1, none⟩ = some (.int .u64 h2) := (hbr.cell (p := ⟨w.heap.size, 1, none⟩) (by show w.heap.size < _; omega)).trans b1
      have i1 : (0 : Int) ≤ (j : Int) := by omega
      have i2 : (j : Int) < (L.length : Int) := by omega
      have C0 := Bw.cell c0 (Nat.lt_of_lt_of_le (by show w.heap.size < w.heap.size + 1; omega) hsr)
      have C1 := Bw.cell c1 (Nat.lt_of_lt_of_le (by show w.heap.size < w.heap.size + 1; omega) hsr)
      have Q0 := Bw.cell q0 (show g2 < wr.heap.size by omega)
      have Q1 := Bw.cell q1 (show g2 < wr.heap.size by omega)
      obtain ⟨P0, hP0⟩ : ∃ P0, P0 = behind (h1, h2) (L.take j) := ⟨_, rfl⟩
      rw [← hP0] at hown hle
      have HP0 := Lib.hid hP0
      clear hP0
      cases hb : btr (h1, h2) (x1, x2)
      · have HB := Lib.hid hb
        have ht : Hid (behind (h1, h2) (L.take (j + 1)) = P0) := Lib.hid (by rw [take_snoc HX.out, behind_snoc_n hb, HP0.out])
        clear hb
        go_upto_region 5 with fail
        refine wp_region_bw wr.heap.size (by kernel_rfl) (by kernel_rfl) ?_
        repeat (go_big_quiet_step ((go_at_call 26; refine (calls_bw (v := .bool false) (Nat.le_refl _) ?_); refine (refBetter_any _ _ _ _ _).mono ?_; rw [HB.out]; intro _ _ h; exact h)))
        refine wpQuiet_nil ?_
        intro _ hw'
        obtain ⟨⟨wq, hbq⟩, hw''⟩ := hw'
        subst hw''
        rename_i wb
        have hob := own_below hown hbq
        have hbb : Below (w.heap.size + 1) w0 wb := hbr.trans (hbq.mono hsr)
        go_wp2_with fail
        go_roundw
        case rel => exact ⟨j + 1, by omega, by go_num, by rw [ht.out]; exact hob, hbb⟩
        case measure => simp [intOf]; omega
      · have HB := Lib.hid hb
        have ht : Hid (behind (h1, h2) (L.take (j + 1)) = P0 ++ [(x1, x2)]) := Lib.hid (by rw [take_snoc HX.out, behind_snoc_y hb, HP0.out])
        clear hb
        go_upto_region 5 with fail
        refine wp_region_bw wr.heap.size (by kernel_rfl) (by kernel_rfl) ?_
        repeat (go_big_quiet_step ((go_at_call 26; refine (calls_bw (v := .bool true) (Nat.le_refl _) ?_); refine (refBetter_any _ _ _ _ _).mono ?_; rw [HB.out]; intro _ _ h; exact h)))
        refine wpQuiet_nil ?_
        intro _ hw'
        obtain ⟨⟨wq, hbq⟩, hw''⟩ := hw'
        subst hw''
        rename_i wb
        have hob := own_below hown hbq
        have hbb : Below (w.heap.size + 1) w0 wb := hbr.trans (hbq.mono hsr)
        have d0 := (hbq.cell (p := ⟨g2, _, none⟩) (show g2 < wr.heap.size by omega)).trans q0
        have d1 := (hbq.cell (p := ⟨g2, _, none⟩) (show g2 < wr.heap.size by omega)).trans q1
        have hb5' : Below wb.heap.size wb (wb.alloc (.cells #[.int .i64 x1, .int .u64 x2] 29)) := (Below.refl _ _).alloc (Nat.le_refl _) _
        have hsb := hbb.size
        rw [HS0.out] at hsb
        have hb5 : Below (w.heap.size + 1) w0 (wb.alloc (.cells #[.int .i64 x1, .int .u64 x2] 29)) := hbb.trans (hb5'.mono hsb)
        have hown5 := own_below hob hb5'
        have hn5 := slc_new wb #[.int .i64 x1, .int .u64 x2] 29
        have hz5 : w.heap.size + 1 ≤ (wb.alloc (.cells #[.int .i64 x1, .int .u64 x2] 29)).heap.size := Nat.le_trans hsb hb5'.size
        clear C0 C1 Q0 Q1 hown hob
        go_wp2_with (at_builtin; refine wpList_append_slc (m := 1) rfl _ _ rfl hitElem hown5 rfl rfl rfl hn5 (by intro u hu; simp at hu; rcases hu with rfl | rfl <;> rfl) (by omega) (by unfold maxLen; omega) hz5 ?_)
        intro v6 w6 hown6 hg6 _
        have hb6 : Below (w.heap.size + 1) w0 w6 := below_own hb5 hown5 hz5 hg6
        go_wp2_with fail
        go_roundw
        case rel => exact ⟨j + 1, by omega, by go_num, by rw [ht.out, List.length_append, hc_append]; exact hown6, hb6⟩
        case measure => simp [intOf]; omega
    · obtain rfl : j = L.length := by omega
      rw [List.take_length] at hown
      have hle := behind_le (h1, h2) L
      obtain ⟨A2, c2, rfl⟩ := own_slice hown
      have hS := select_ref (behind (h1, h2) L) A2 c2 wr.heap.size k wr (Nat.le_refl _) (slc_own hown) (own_cap hown) (by omega)
      have HS := Lib.hid hS
      clear hS hown
      go_wp2_with (go_at_call 22; refine HS.out.mono ?_; rintro e w5 ⟨A5, c5, rfl, hs5, hb5⟩)
      go_ret
      exact ⟨A5, c5, rfl, hs5, hbw.trans (hb5.mono hbw.size)⟩
end Go.Proofs.Ytmddnilephneiaa.RefSelect
