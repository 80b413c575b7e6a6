/-
  The walk of TopkLists.
-/
import Derived.Test.YtmddnilephneiaaRefSelect
import Derived.Test.YtmddnilephneiaaOutWalk
import Derived.Deep.RegionWith
import Derived.Deep.CutRange
namespace Go.Proofs.Ytmddnilephneiaa.TopkListsWalk
open Go.RowKit Go.PlainAid HitPlain HeapPlain KeepPlain Base HitBase PushWalk OfferWalk KeepWalk TopkWalk Rows2 RefBetter SortedWalk RefSelect Fixed OutWalk

theorem gives_of {w : World} {L : List Hit} {e : Ending} {w' : World} (h : Makes w L e w') : Gives w L e w' := by
  obtain ⟨A, c, h1, h2, h3⟩ := h
  exact ⟨A, c, h1, slc_own h2, h3⟩

set_option maxRecDepth 100000 in
set_option maxHeartbeats 4000000 in
theorem walk (ls : List Lst) (A : Option Addr) (c B : Nat) (h1 h2 k : Int) (w : World) (hB : B ≤ w.heap.size) (h : Lsts w B A ls) (hcap : ∀ x ∈ ls, x.2.2.length ≤ x.2.1) (hn : ls.length + (allHits ls).length ≤ 1048576) :
    Calls Try.prog 6 #[.slice A ls.length c, .agg #[.int .i64 h1, .int .u64 h2], .int .i64 k] w fun e w' => e = .returned (.bool true) ∧ Below w.heap.size w w' := by
  have hb0 : Below w.heap.size w (w.alloc (.cells #[.int .i64 h1, .int .u64 h2] 29)) := (Below.refl _ _).alloc (Nat.le_refl _) _
  have b0 : (w.alloc (.cells #[.int .i64 h1, .int .u64 h2] 29)).cell? ⟨w.heap.size, 0, none⟩ = some (.int .i64 h1) := by rw [World.cell?_alloc_mark]; rfl
  have b1 : (w.alloc (.cells #[.int .i64 h1, .int .u64 h2] 29)).cell? ⟨w.heap.size, 1, none⟩ = some (.int .u64 h2) := by rw [World.cell?_alloc_mark]; rfl
  have hs0 : (w.alloc (.cells #[.int .i64 h1, .int .u64 h2] 29)).heap.size = w.heap.size + 1 := by simp
  generalize hw0 : w.alloc (.cells #[.int .i64 h1, .int .u64 h2] 29) = w0 at hb0 b0 b1 hs0
  have HW0 := Lib.hid hw0
  have HS0 := Lib.hid hs0
  clear hw0 hs0
  go_enter Try.func6, Try.ntmps6
  go_wp2_with fail
  rw [HW0.out]
  go_at_call 9
  refine (fixed_any _).mono ?_
  rintro e w1 ⟨rfl, hb1⟩
  rw [HS0.out] at hb1
  go_wp2_with fail
  go_loopw [15] (fun i wr => ∃ j : Nat, j ≤ ls.length ∧ i = .int .i64 j ∧ Below (w.heap.size + 1) w0 wr) (fun i _ => ls.length - (intOf i).toNat)
  case atStart => exact ⟨0, Nat.zero_le _, rfl, hb1⟩
  case round =>
    obtain ⟨j, hj, rfl, hbr⟩ := hrel
    clear hb1
    have hsr := hbr.size
    rw [HS0.out] at hsr
    have hbw : Below w.heap.size w wr := hb0.trans (hbr.mono (by omega))
    by_cases hlt : j < ls.length
    · obtain ⟨⟨Ax, cx, L⟩, hx⟩ : ∃ x, ls[j]? = some x := ⟨_, List.getElem?_eq_getElem hlt⟩
      have hmem : ((Ax, cx, L) : Lst) ∈ ls := List.mem_of_getElem? hx
      obtain ⟨g, o, rfl, hg, hc0⟩ := (h.1.below hbw hB) (by intro e; have := congrArg List.length e; simp at this; rw [this] at hlt; simp at hlt)
      have p0 : wr.cell? ⟨g, o + j, none⟩ = some (.slice Ax L.length cx) := hc0 j _ (by rw [List.getElem?_map, hx]; rfl)
      have hsl : Slc wr B Ax (hc L) := (h.2 _ hmem).below hbw hB
      have hcx : L.length ≤ cx := hcap _ hmem
      have hle := allHits_take_le ls (j + 1)
      rw [take_snoc hx, allHits_snoc, List.length_append] at hle
      have hLn : L.length ≤ 1048576 := by simp only at hle; omega
      clear hc0 hx hmem hle
      have c0 : wr.cell? ⟨w.heap.size, 0, none⟩ = some (.int .i64 h1) := (hbr.cell (p := ⟨w.heap.size, 0, none⟩) (by show w.heap.size < _; omega)).trans b0
      have c1 : wr.cell? ⟨w.heap.size, 1, none⟩ = some (.int .u64 h2) := (hbr.cell (p := ⟨w.heap.size, 1, none⟩) (by show w.heap.size < _; omega)).trans b1
      have S1 : ∀ wx, Below wr.heap.size wr wx → Calls Try.prog 15 #[.slice Ax L.length cx, .int .i64 k] wx (Gives wx (tk k.toNat L)) := fun wx hx => (select_any L Ax cx B k wx (Nat.le_trans hB (Nat.le_trans (by omega) hx.size)) (hsl.below hx (by omega)) (by omega)).mono fun _ _ => gives_of
      have S2 : ∀ wx, Below wr.heap.size wr wx → Calls Try.prog 22 #[.slice Ax L.length cx, .int .i64 k] wx (Gives wx (tk k.toNat L)) := fun wx hx => select_ref L Ax cx B k wx (Nat.le_trans hB (Nat.le_trans (by omega) hx.size)) (hsl.below hx (by omega)) hcx (by omega)
      have S3 : ∀ wx, Below wr.heap.size wr wx → Calls Try.prog 23 #[.slice Ax L.length cx, .agg #[.int .i64 h1, .int .u64 h2], .int .i64 k] wx (Gives wx (tk k.toNat (behind (h1, h2) L))) := fun wx hx => (after_any L Ax cx B h1 h2 k wx (Nat.le_trans hB (Nat.le_trans (by omega) hx.size)) (hsl.below hx (by omega)) (by omega)).mono fun _ _ => gives_of
      have S4 : ∀ wx, Below wr.heap.size wr wx → Calls Try.prog 24 #[.slice Ax L.length cx, .agg #[.int .i64 h1, .int .u64 h2], .int .i64 k] wx (Gives wx (tk k.toNat (behind (h1, h2) L))) := fun wx hx => after_ref L Ax cx B h1 h2 k wx (Nat.le_trans hB (Nat.le_trans (by omega) hx.size)) (hsl.below hx (by omega)) (by omega)
      obtain ⟨K, hK⟩ : ∃ K, K = tk k.toNat L := ⟨_, rfl⟩
      obtain ⟨K2, hK2⟩ : ∃ K2, K2 = tk k.toNat (behind (h1, h2) L) := ⟨_, rfl⟩
      rw [← hK] at S1 S2
      rw [← hK2] at S3 S4
      have hKn : K.length ≤ 8796093022208 := by rw [hK, tk_len]; omega
      have hKn2 : K2.length ≤ 8796093022208 := by have := behind_le (h1, h2) L; rw [hK2, tk_len]; omega
      have T1 := Lib.hid S1
      have T2 := Lib.hid S2
      have T3 := Lib.hid S3
      have T4 := Lib.hid S4
      have D0 : ∀ wx, Below wr.heap.size wr wx → wx.cell? ⟨w.heap.size, 0, none⟩ = some (.int .i64 h1) := fun wx hx => (hx.cell (p := ⟨w.heap.size, 0, none⟩) (by show w.heap.size < _; omega)).trans c0
      have D1 : ∀ wx, Below wr.heap.size wr wx → wx.cell? ⟨w.heap.size, 1, none⟩ = some (.int .u64 h2) := fun wx hx => (hx.cell (p := ⟨w.heap.size, 1, none⟩) (by show w.heap.size < _; omega)).trans c1
      have E0 := Lib.hid D0
      have E1 := Lib.hid D1
      clear hK hK2 S1 S2 S3 S4 D0 D1
      go_upto_region 6 with fail
      go_cut [15, 38] from 15 to 62 (fun s15 s38 wx => s15 = .int .i64 j ∧ s38 = .bool false ∧ Below wr.heap.size wr wx)
      case first =>
        go_region_with (first
          | (go_at_call 15; refine (T1.out _ (by (repeat (first | exact Below.refl _ _ | assumption | refine balloc ?_ _ | refine bdrew ?_ | refine bdrewN ?_ _ | refine bchain ?_ (by assumption))))).mono ?_; rintro e wy ⟨Ay, cy, rfl, hsy, hby⟩; have d0 := E0.out wy (by (repeat (first | exact Below.refl _ _ | assumption | refine balloc ?_ _ | refine bdrew ?_ | refine bdrewN ?_ _ | refine bchain ?_ (by assumption)))); have d1 := E1.out wy (by (repeat (first | exact Below.refl _ _ | assumption | refine balloc ?_ _ | refine bdrew ?_ | refine bdrewN ?_ _ | refine bchain ?_ (by assumption)))))
          | (go_at_call 22; refine (T2.out _ (by (repeat (first | exact Below.refl _ _ | assumption | refine balloc ?_ _ | refine bdrew ?_ | refine bdrewN ?_ _ | refine bchain ?_ (by assumption))))).mono ?_; rintro e wy ⟨Ay, cy, rfl, hsy, hby⟩; have d0 := E0.out wy (by (repeat (first | exact Below.refl _ _ | assumption | refine balloc ?_ _ | refine bdrew ?_ | refine bdrewN ?_ _ | refine bchain ?_ (by assumption)))); have d1 := E1.out wy (by (repeat (first | exact Below.refl _ _ | assumption | refine balloc ?_ _ | refine bdrew ?_ | refine bdrewN ?_ _ | refine bchain ?_ (by assumption)))))
          | (go_at_call 23; refine (T3.out _ (by (repeat (first | exact Below.refl _ _ | assumption | refine balloc ?_ _ | refine bdrew ?_ | refine bdrewN ?_ _ | refine bchain ?_ (by assumption))))).mono ?_; rintro e wy ⟨Ay, cy, rfl, hsy, hby⟩; have d0 := E0.out wy (by (repeat (first | exact Below.refl _ _ | assumption | refine balloc ?_ _ | refine bdrew ?_ | refine bdrewN ?_ _ | refine bchain ?_ (by assumption)))); have d1 := E1.out wy (by (repeat (first | exact Below.refl _ _ | assumption | refine balloc ?_ _ | refine bdrew ?_ | refine bdrewN ?_ _ | refine bchain ?_ (by assumption)))))
          | (go_at_call 24; refine (T4.out _ (by (repeat (first | exact Below.refl _ _ | assumption | refine balloc ?_ _ | refine bdrew ?_ | refine bdrewN ?_ _ | refine bchain ?_ (by assumption))))).mono ?_; rintro e wy ⟨Ay, cy, rfl, hsy, hby⟩; have d0 := E0.out wy (by (repeat (first | exact Below.refl _ _ | assumption | refine balloc ?_ _ | refine bdrew ?_ | refine bdrewN ?_ _ | refine bchain ?_ (by assumption)))); have d1 := E1.out wy (by (repeat (first | exact Below.refl _ _ | assumption | refine balloc ?_ _ | refine bdrew ?_ | refine bdrewN ?_ _ | refine bchain ?_ (by assumption)))))
          | (go_at_call 12; refine (equal_eq _ _ _ _ _ _ _ _ (by assumption) (by first | assumption | exact Slc.below (by assumption) (by assumption) (Nat.le_refl _)) (by first | assumption | exact Slc.below (by assumption) (by assumption) (Nat.le_refl _))).mono ?_; rintro e wy ⟨rfl, hby⟩; have d0 := E0.out wy (by (repeat (first | exact Below.refl _ _ | assumption | refine balloc ?_ _ | refine bdrew ?_ | refine bdrewN ?_ _ | refine bchain ?_ (by assumption)))); have d1 := E1.out wy (by (repeat (first | exact Below.refl _ _ | assumption | refine balloc ?_ _ | refine bdrew ?_ | refine bdrewN ?_ _ | refine bchain ?_ (by assumption))))))
        all_goals
          go_wp2_with fail
          go_meet
          exact ⟨rfl, rfl, by (repeat (first | exact Below.refl _ _ | assumption | refine balloc ?_ _ | refine bdrew ?_ | refine bdrewN ?_ _ | refine bchain ?_ (by assumption)))⟩
      case rest =>
        obtain ⟨rfl, rfl, hbx⟩ := hcut
        clear p0
        go_wp2_with fail
        obtain ⟨wo, rfl⟩ : ∃ wo : World, wo = wr := ⟨_, rfl⟩
        go_loopw [41] (fun i wr2 => ∃ q : Nat, q ≤ L.length ∧ i = .int .i64 q ∧ Below wo.heap.size wo wr2) (fun i _ => L.length - (intOf i).toNat)
        case atStart => exact ⟨0, Nat.zero_le _, rfl, hbx⟩
        case round =>
          clear hbx
          obtain ⟨q, hq, rfl, hbq2⟩ := hrel
          have hsq := hbq2.size
          by_cases hql : q < L.length
          · obtain ⟨⟨x1, x2⟩, hx⟩ : ∃ x, L[q]? = some x := ⟨_, List.getElem?_eq_getElem hql⟩
            obtain ⟨g2, o2, rfl, hg2, a2⟩ := slc_at (hsl.below hbq2 (by omega)) (by intro e; rw [e] at hql; simp at hql)
            obtain ⟨q0, q1⟩ := a2 q _ hx
            clear a2 hx
            obtain ⟨wa, hwa⟩ : ∃ wa, wa = wr.alloc (.cells #[.int .i64 x1, .int .u64 x2] 29) := ⟨_, rfl⟩
            have hba : Below wr.heap.size wr wa := by rw [hwa]; exact (Below.refl _ _).alloc (Nat.le_refl _) _
            have d0 : wa.cell? ⟨wr.heap.size, 0, none⟩ = some (.int .i64 x1) := by rw [hwa, World.cell?_alloc_mark]; rfl
            have d1 : wa.cell? ⟨wr.heap.size, 1, none⟩ = some (.int .u64 x2) := by rw [hwa, World.cell?_alloc_mark]; rfl
            have hsa : wa.heap.size = wr.heap.size + 1 := by rw [hwa]; simp
            have hbwa : Below wo.heap.size wo wa := hbq2.trans (hba.mono hsq)
            have F0 := Bw.cell (B := wa.heap.size) (E0.out wa hbwa) (by show w.heap.size < _; omega)
            have F1 := Bw.cell (B := wa.heap.size) (E1.out wa hbwa) (by show w.heap.size < _; omega)
            have G0 := Bw.cell (B := wa.heap.size) d0 (by show wr.heap.size < _; omega)
            have G1 := Bw.cell (B := wa.heap.size) d1 (by show wr.heap.size < _; omega)
            obtain ⟨u, hu⟩ : ∃ u, u = btr (x1, x2) (h1, h2) := ⟨_, rfl⟩
            obtain ⟨v, hv⟩ : ∃ v, v = btr (h1, h2) (x1, x2) := ⟨_, rfl⟩
            have C1 : ∀ b : Bw wa.heap.size wa, Calls Try.prog 25 #[.agg #[.int .i64 x1, .int .u64 x2], .agg #[.int .i64 h1, .int .u64 h2]] b.at_ fun e w' => e = .returned (.bool u) ∧ ∃ b' : Bw wa.heap.size wa, w' = b'.at_ := fun b => hu ▸ calls_bw (Nat.le_refl _) (better_any _ _ _ _ _)
            have C2 : ∀ b : Bw wa.heap.size wa, Calls Try.prog 26 #[.agg #[.int .i64 x1, .int .u64 x2], .agg #[.int .i64 h1, .int .u64 h2]] b.at_ fun e w' => e = .returned (.bool u) ∧ ∃ b' : Bw wa.heap.size wa, w' = b'.at_ := fun b => hu ▸ calls_bw (Nat.le_refl _) (refBetter_any _ _ _ _ _)
            have C3 : ∀ b : Bw wa.heap.size wa, Calls Try.prog 25 #[.agg #[.int .i64 h1, .int .u64 h2], .agg #[.int .i64 x1, .int .u64 x2]] b.at_ fun e w' => e = .returned (.bool v) ∧ ∃ b' : Bw wa.heap.size wa, w' = b'.at_ := fun b => hv ▸ calls_bw (Nat.le_refl _) (better_any _ _ _ _ _)
            have C4 : ∀ b : Bw wa.heap.size wa, Calls Try.prog 26 #[.agg #[.int .i64 h1, .int .u64 h2], .agg #[.int .i64 x1, .int .u64 x2]] b.at_ fun e w' => e = .returned (.bool v) ∧ ∃ b' : Bw wa.heap.size wa, w' = b'.at_ := fun b => hv ▸ calls_bw (Nat.le_refl _) (refBetter_any _ _ _ _ _)
            have HWA := Lib.hid hwa
            clear hwa hu hv
            go_upto_region 11 with fail
            rw [← HWA.out]
            cases u <;> cases v
            all_goals
              refine wp_region_bw wa.heap.size (by kernel_rfl) (by kernel_rfl) ?_
              repeat (go_big_quiet_step (first | (go_at_call 25; first | with_reducible exact C1 _ | with_reducible exact C3 _) | (go_at_call 26; first | with_reducible exact C2 _ | with_reducible exact C4 _)))
              refine wpQuiet_nil ?_
              intro _ hw'
              obtain ⟨⟨wq, hbq⟩, hw''⟩ := hw'
              subst hw''
              have hbf := hbwa.trans (hbq.mono hbwa.size)
              go_wp2_with fail
              go_roundw
              case rel => exact ⟨q + 1, by omega, by go_num, hbf⟩
              case measure => simp [intOf]; omega
          · obtain rfl : q = L.length := by omega
            go_wp2_with fail
            go_roundw
            case rel => exact ⟨j + 1, by omega, by go_num, hbr.trans (hbq2.mono hsr)⟩
            case measure => simp [intOf]; omega
    · obtain rfl : j = ls.length := by omega
      obtain ⟨K, hK⟩ : ∃ K, K = tk k.toNat (allHits ls) := ⟨_, rfl⟩
      have hKn : K.length ≤ 8796093022208 := by rw [hK, tk_len]; omega
      have S1 : ∀ wx, Below wr.heap.size wr wx → Calls Try.prog 16 #[.slice A ls.length c, .int .i64 k] wx (Gives wx K) := fun wx hx => hK ▸ (join_any ls A c B k wx (Nat.le_trans hB (Nat.le_trans (by omega) hx.size)) ⟨(h.1.below hbw hB).below hx (by omega), fun y hy => ((h.2 y hy).below hbw hB).below hx (by omega)⟩ (by omega) (by omega)).mono fun _ _ => gives_of
      have S2 : ∀ wx, Below wr.heap.size wr wx → Calls Try.prog 27 #[.slice A ls.length c, .int .i64 k] wx (Gives wx K) := fun wx hx => hK ▸ join_ref ls A c B k wx (Nat.le_trans hB (Nat.le_trans (by omega) hx.size)) ⟨(h.1.below hbw hB).below hx (by omega), fun y hy => ((h.2 y hy).below hbw hB).below hx (by omega)⟩ (by omega) (by omega)
      have T1 := Lib.hid S1
      have T2 := Lib.hid S2
      clear hK S1 S2
      go_wp2_with (first
        | (go_at_call 16; refine (T1.out _ (by (repeat (first | exact Below.refl _ _ | assumption | refine balloc ?_ _ | refine bdrew ?_ | refine bdrewN ?_ _ | refine bchain ?_ (by assumption))))).mono ?_; rintro e wy ⟨Ay, cy, rfl, hsy, hby⟩)
        | (go_at_call 27; refine (T2.out _ (by (repeat (first | exact Below.refl _ _ | assumption | refine balloc ?_ _ | refine bdrew ?_ | refine bdrewN ?_ _ | refine bchain ?_ (by assumption))))).mono ?_; rintro e wy ⟨Ay, cy, rfl, hsy, hby⟩)
        | (go_at_call 12; refine (equal_eq _ _ _ _ _ _ _ _ (by assumption) (by first | assumption | exact Slc.below (by assumption) (by assumption) (Nat.le_refl _)) (by first | assumption | exact Slc.below (by assumption) (by assumption) (Nat.le_refl _))).mono ?_; rintro e wy ⟨rfl, hby⟩))
      go_ret
      refine ⟨rfl, hbw.trans (Below.mono (B := wr.heap.size) ?_ (by omega))⟩
      (repeat (first | exact Below.refl _ _ | assumption | refine balloc ?_ _ | refine bdrew ?_ | refine bdrewN ?_ _ | refine bchain ?_ (by assumption)))
end Go.Proofs.Ytmddnilephneiaa.TopkListsWalk
