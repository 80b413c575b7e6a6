/-
  The walk of the reference's first.
-/
import Derived.Test.YtmoahflgcojfcaaRefMended
import Derived.Test.YtmoahflgcojfcaaStemSize
import Derived.Deep.DeepCutAuto
namespace Go.Proofs.Ytmoahflgcojfcaa.RefFirst
open Go.RowKit Go.PlainAid StemPlain StemSize Base Vowels StemWalk StemWalk2 RefForm RefShort RefLongest RefMended

theorem ret_value {a b : ByteArray} (h : a = b) : Value.string b = .string a := by rw [h]
theorem bset {a b : World} (h : Below a.heap.size a b) {g i : Nat} (hp : a.heap.size ≤ g) (u : Value) : Below a.heap.size a (b.setCell ⟨g, i, none⟩ u) := h.setCell (p := ⟨g, i, none⟩) hp u
theorem l1a_small : ∀ p ∈ L1a, p.1.size ≤ 1000 ∧ p.2.size ≤ 10 := by decide

set_option maxHeartbeats 8000000 in
theorem first_any (s : ByteArray) (w : World) (hs : s.size ≤ 140737488351300) :
    Calls Try.prog 31 #[.string s] w fun e w' => e = .returned (.string (s1c (s1b (s1a s)))) ∧ Below w.heap.size w w' := by
  have hs1 : s.size ≤ 140737488355327 := by omega
  obtain ⟨u, hu⟩ : ∃ u, u = s1a s := ⟨_, rfl⟩
  have hus : u.size ≤ s.size + 10 := by rw [hu]; exact s1a_size s
  have HU := Lib.hid hu
  rw [← hu]
  clear hu
  go_enter Try.func31, Try.ntmps31
  go_upto_if 17 with (go_at_call 46; refine (longest_ref s L1a _ _ (w.heap.size + 1) _ hs1 (by decide) (by decide) (by simp) (slc_new w _ _)).mono ?_; rintro e w1 ⟨rfl, hb1⟩)
  go_cut [0, 3, 5] (fun s0 _ _ wx => s0 = .string u ∧ Below w.heap.size w wx ∧ ∃ a b, Blk wx w1.heap.size 43 #[.string a, .string b])
  case first =>
    rcases hbs : bst s L1a L1a.length with _ | j
    · have HS := Lib.hid (sub_none hbs)
      have hbp := bp_none hbs
      go_wp2
      go_meet
      case rel => exact ⟨by rw [HU.out]; exact ret_value HS.out, by (repeat (first | exact Below.refl _ _ | assumption | refine balloc ?_ _ | refine bdrew ?_ | refine bdrewN ?_ _ | refine bset ?_ (by first | assumption | omega) _ | refine bchain ?_ (by assumption))), _, _, Blk.new _ _ _⟩
    · obtain ⟨hjk, q, hq, hsq⟩ := bst_lt s L1a L1a.length j hbs
      have HS := Lib.hid (sub_some hbs hq)
      have hbp := bp_some hbs hq
      have hq2 := (l1a_small q (List.mem_of_getElem? hq)).2
      have hle := sfx_le hsq
      have hext : (s.extract 0 (s.size - q.1.size)).size ≤ 140737488351300 := by have := cut_size s q.1; unfold cut at this; omega
      clear hq hsq
      go_wp2
      go_meet
      case rel => exact ⟨by rw [HU.out]; exact ret_value HS.out, by (repeat (first | exact Below.refl _ _ | assumption | refine balloc ?_ _ | refine bdrew ?_ | refine bdrewN ?_ _ | refine bset ?_ (by first | assumption | omega) _ | refine bchain ?_ (by assumption))), _, _, Blk.new _ _ _⟩
  case rest =>
    obtain ⟨rfl, hbel, a, b, hblk⟩ := hcut
    have hu1 : u.size ≤ 140737488355327 := by omega
    have hu2 : u.size ≤ 140737488351320 := by omega
    obtain ⟨v, hv⟩ : ∃ v, v = s1b u := ⟨_, rfl⟩
    have hvs : v.size ≤ u.size + 10 := by rw [hv]; exact s1b_size u
    have hv2 : v.size ≤ 281474976710656 := by omega
    have HV := Lib.hid hv
    clear hv hs hs1
    have hlt := hblk.lt
    have h1sz : w.heap.size ≤ w1.heap.size := by have := hb1.size; simp at this; omega
    rcases hbs : bst u L1b L1b.length with _ | j
    · have hbp := bp_none hbs
      have HS := Lib.hid (s1b_none hbs)
      go_upto_if 37 with (go_at_call 46; refine (longest_ref u L1b _ _ (wc.heap.size + 1) _ hu1 (by decide) (by decide) (by simp) (slc_new wc _ _)).mono ?_; rintro e w2 ⟨rfl, hb2⟩; have hk := (hblk.alloc (.cells #[.string ⟨#[101, 101, 100]⟩, .string ⟨#[101, 101]⟩, .string ⟨#[101, 100]⟩, .string ⟨#[]⟩, .string ⟨#[105, 110, 103]⟩, .string ⟨#[]⟩] 43)).below hb2 (by have := hblk.lt; simp; omega); have q0 := hk.cell 0; have q1 := hk.cell 1; have z0 := hk.frozen 0; have z1 := hk.frozen 1; simp only [List.getElem?_toArray, List.getElem?_cons_zero, List.getElem?_cons_succ] at q0 q1; have hlt2 := hk.lt)
      go_cut [0] (fun s0 wx => s0 = .string v ∧ Below w.heap.size w wx)
      case first =>
        go_wp2
        go_meet
        case rel => exact ⟨by rw [HV.out]; exact ret_value HS.out, by (repeat (first | exact Below.refl _ _ | assumption | refine balloc ?_ _ | refine bdrew ?_ | refine bdrewN ?_ _ | refine bset ?_ (by first | assumption | omega) _ | refine bchain ?_ (by assumption)))⟩
      case rest =>
        obtain ⟨rfl, hbel3⟩ := hcut
        rcases hy : sfx v ⟨#[121]⟩ with _ | _
        · have H3 : Hid (s1c v = v) := Lib.hid (by unfold s1c; rw [hy]; rfl)
          go_wp2_with (go_at_call 30; refine (ends_any _ _ _ hv2 (by decide)).mono ?_; rintro e w' ⟨rfl, rfl⟩)
          go_ret
          exact ⟨by rw [← HV.out, H3.out]; rfl, hbel3⟩
        · have hle := sfx_le hy
          have hle1 : 1 ≤ v.size := hle
          obtain ⟨y, hyy⟩ : ∃ y, y = cut v ⟨#[121]⟩ := ⟨_, rfl⟩
          have hex : v.extract 0 (v.size - 1) = y := hyy.symm
          have hys : y.size ≤ 140737488355320 := by rw [hyy, cut_size]; omega
          rcases hvy : hasV y with _ | _
          · have H3 : Hid (s1c v = v) := Lib.hid (by unfold s1c; rw [← hyy, hy, hvy]; rfl)
            clear hyy
            go_wp2_with (first
              | (go_at_call 30; refine (ends_any _ _ _ hv2 (by decide)).mono ?_; rintro e w' ⟨rfl, rfl⟩)
              | (go_at_call 48; refine (vowelled_any _ _ (by omega)).mono ?_; rintro e w9 ⟨rfl, hb9⟩))
            go_ret
            exact ⟨by rw [← HV.out, H3.out]; rfl, by (repeat (first | exact Below.refl _ _ | assumption | refine balloc ?_ _ | refine bdrew ?_ | refine bdrewN ?_ _ | refine bset ?_ (by first | assumption | omega) _ | refine bchain ?_ (by assumption)))⟩
          · have H3 : Hid (s1c v = y ++ ⟨#[105]⟩) := Lib.hid (by unfold s1c; rw [← hyy, hy, hvy]; rfl)
            clear hyy
            go_wp2_with (first
              | (go_at_call 30; refine (ends_any _ _ _ hv2 (by decide)).mono ?_; rintro e w' ⟨rfl, rfl⟩)
              | (go_at_call 48; refine (vowelled_any _ _ (by omega)).mono ?_; rintro e w9 ⟨rfl, hb9⟩))
            go_ret
            exact ⟨by rw [← HV.out, H3.out]; rfl, by (repeat (first | exact Below.refl _ _ | assumption | refine balloc ?_ _ | refine bdrew ?_ | refine bdrewN ?_ _ | refine bset ?_ (by first | assumption | omega) _ | refine bchain ?_ (by assumption)))⟩
    · obtain ⟨hjk, q, hq, hsq⟩ := bst_lt u L1b L1b.length j hbs
      have hbp := bp_some hbs hq
      have hle0 := sfx_le hsq
      have hj3 : j < 3 := hjk
      obtain rfl | rfl | rfl : j = 0 ∨ j = 1 ∨ j = 2 := by omega
      · have hq' : q = (⟨#[101, 101, 100]⟩, ⟨#[101, 101]⟩) := Option.some.inj (hq.symm.trans rfl)
        subst hq'
        have hle1 : 3 ≤ u.size := hle0
        obtain ⟨r, hr⟩ : ∃ r, r = cut u ⟨#[101, 101, 100]⟩ := ⟨_, rfl⟩
        have hre : u.extract 0 (u.size - 3) = r := hr.symm
        have hrs : r.size ≤ 140737488351320 := by rw [hr, cut_size]; omega
        have hms : meas r ≤ r.size := by unfold meas; have := msTo_le r (r.size - 1); omega
        have HS := Lib.hid (s1b_0 hbs)
        rw [← hr] at HS
        clear hr hq hsq
        by_cases hm : 0 < meas r
        · have hmi : (0 : Int) < ((meas r : Nat) : Int) := by omega
          have HM := Lib.hid hm
          clear hm
          go_upto_if 37 with (go_at_call 46; refine (longest_ref u L1b _ _ (wc.heap.size + 1) _ hu1 (by decide) (by decide) (by simp) (slc_new wc _ _)).mono ?_; rintro e w2 ⟨rfl, hb2⟩; have hk := (hblk.alloc (.cells #[.string ⟨#[101, 101, 100]⟩, .string ⟨#[101, 101]⟩, .string ⟨#[101, 100]⟩, .string ⟨#[]⟩, .string ⟨#[105, 110, 103]⟩, .string ⟨#[]⟩] 43)).below hb2 (by have := hblk.lt; simp; omega); have q0 := hk.cell 0; have q1 := hk.cell 1; have z0 := hk.frozen 0; have z1 := hk.frozen 1; simp only [List.getElem?_toArray, List.getElem?_cons_zero, List.getElem?_cons_succ] at q0 q1; have hlt2 := hk.lt)
          go_cut [0] (fun s0 wx => s0 = .string v ∧ Below w.heap.size w wx)
          case first =>
            go_wp2_with (go_at_call 47; refine (measure_ref _ _ (by omega)).mono ?_; rintro e w4 ⟨rfl, hb4⟩; have c1 := hb4.cell (p := ⟨w1.heap.size, 1, none⟩) (by simp; omega))
            go_meet
            case rel => exact ⟨by rw [HV.out, HS.out, if_pos HM.out], by (repeat (first | exact Below.refl _ _ | assumption | refine balloc ?_ _ | refine bdrew ?_ | refine bdrewN ?_ _ | refine bset ?_ (by first | assumption | omega) _ | refine bchain ?_ (by assumption)))⟩
          case rest =>
            obtain ⟨rfl, hbel3⟩ := hcut
            rcases hy : sfx v ⟨#[121]⟩ with _ | _
            · have H3 : Hid (s1c v = v) := Lib.hid (by unfold s1c; rw [hy]; rfl)
              go_wp2_with (go_at_call 30; refine (ends_any _ _ _ hv2 (by decide)).mono ?_; rintro e w' ⟨rfl, rfl⟩)
              go_ret
              exact ⟨by rw [← HV.out, H3.out]; rfl, hbel3⟩
            · have hle := sfx_le hy
              have hle1 : 1 ≤ v.size := hle
              obtain ⟨y, hyy⟩ : ∃ y, y = cut v ⟨#[121]⟩ := ⟨_, rfl⟩
              have hex : v.extract 0 (v.size - 1) = y := hyy.symm
              have hys : y.size ≤ 140737488355320 := by rw [hyy, cut_size]; omega
              rcases hvy : hasV y with _ | _
              · have H3 : Hid (s1c v = v) := Lib.hid (by unfold s1c; rw [← hyy, hy, hvy]; rfl)
                clear hyy
                go_wp2_with (first
                  | (go_at_call 30; refine (ends_any _ _ _ hv2 (by decide)).mono ?_; rintro e w' ⟨rfl, rfl⟩)
                  | (go_at_call 48; refine (vowelled_any _ _ (by omega)).mono ?_; rintro e w9 ⟨rfl, hb9⟩))
                go_ret
                exact ⟨by rw [← HV.out, H3.out]; rfl, by (repeat (first | exact Below.refl _ _ | assumption | refine balloc ?_ _ | refine bdrew ?_ | refine bdrewN ?_ _ | refine bset ?_ (by first | assumption | omega) _ | refine bchain ?_ (by assumption)))⟩
              · have H3 : Hid (s1c v = y ++ ⟨#[105]⟩) := Lib.hid (by unfold s1c; rw [← hyy, hy, hvy]; rfl)
                clear hyy
                go_wp2_with (first
                  | (go_at_call 30; refine (ends_any _ _ _ hv2 (by decide)).mono ?_; rintro e w' ⟨rfl, rfl⟩)
                  | (go_at_call 48; refine (vowelled_any _ _ (by omega)).mono ?_; rintro e w9 ⟨rfl, hb9⟩))
                go_ret
                exact ⟨by rw [← HV.out, H3.out]; rfl, by (repeat (first | exact Below.refl _ _ | assumption | refine balloc ?_ _ | refine bdrew ?_ | refine bdrewN ?_ _ | refine bset ?_ (by first | assumption | omega) _ | refine bchain ?_ (by assumption)))⟩
        · have hmi : ¬ (0 : Int) < ((meas r : Nat) : Int) := by omega
          have HM := Lib.hid hm
          clear hm
          go_upto_if 37 with (go_at_call 46; refine (longest_ref u L1b _ _ (wc.heap.size + 1) _ hu1 (by decide) (by decide) (by simp) (slc_new wc _ _)).mono ?_; rintro e w2 ⟨rfl, hb2⟩; have hk := (hblk.alloc (.cells #[.string ⟨#[101, 101, 100]⟩, .string ⟨#[101, 101]⟩, .string ⟨#[101, 100]⟩, .string ⟨#[]⟩, .string ⟨#[105, 110, 103]⟩, .string ⟨#[]⟩] 43)).below hb2 (by have := hblk.lt; simp; omega); have q0 := hk.cell 0; have q1 := hk.cell 1; have z0 := hk.frozen 0; have z1 := hk.frozen 1; simp only [List.getElem?_toArray, List.getElem?_cons_zero, List.getElem?_cons_succ] at q0 q1; have hlt2 := hk.lt)
          go_cut [0] (fun s0 wx => s0 = .string v ∧ Below w.heap.size w wx)
          case first =>
            go_wp2_with (go_at_call 47; refine (measure_ref _ _ (by omega)).mono ?_; rintro e w4 ⟨rfl, hb4⟩)
            go_meet
            case rel => exact ⟨by rw [HV.out, HS.out, if_neg HM.out], by (repeat (first | exact Below.refl _ _ | assumption | refine balloc ?_ _ | refine bdrew ?_ | refine bdrewN ?_ _ | refine bset ?_ (by first | assumption | omega) _ | refine bchain ?_ (by assumption)))⟩
          case rest =>
            obtain ⟨rfl, hbel3⟩ := hcut
            rcases hy : sfx v ⟨#[121]⟩ with _ | _
            · have H3 : Hid (s1c v = v) := Lib.hid (by unfold s1c; rw [hy]; rfl)
              go_wp2_with (go_at_call 30; refine (ends_any _ _ _ hv2 (by decide)).mono ?_; rintro e w' ⟨rfl, rfl⟩)
              go_ret
              exact ⟨by rw [← HV.out, H3.out]; rfl, hbel3⟩
            · have hle := sfx_le hy
              have hle1 : 1 ≤ v.size := hle
              obtain ⟨y, hyy⟩ : ∃ y, y = cut v ⟨#[121]⟩ := ⟨_, rfl⟩
              have hex : v.extract 0 (v.size - 1) = y := hyy.symm
              have hys : y.size ≤ 140737488355320 := by rw [hyy, cut_size]; omega
              rcases hvy : hasV y with _ | _
              · have H3 : Hid (s1c v = v) := Lib.hid (by unfold s1c; rw [← hyy, hy, hvy]; rfl)
                clear hyy
                go_wp2_with (first
                  | (go_at_call 30; refine (ends_any _ _ _ hv2 (by decide)).mono ?_; rintro e w' ⟨rfl, rfl⟩)
                  | (go_at_call 48; refine (vowelled_any _ _ (by omega)).mono ?_; rintro e w9 ⟨rfl, hb9⟩))
                go_ret
                exact ⟨by rw [← HV.out, H3.out]; rfl, by (repeat (first | exact Below.refl _ _ | assumption | refine balloc ?_ _ | refine bdrew ?_ | refine bdrewN ?_ _ | refine bset ?_ (by first | assumption | omega) _ | refine bchain ?_ (by assumption)))⟩
              · have H3 : Hid (s1c v = y ++ ⟨#[105]⟩) := Lib.hid (by unfold s1c; rw [← hyy, hy, hvy]; rfl)
                clear hyy
                go_wp2_with (first
                  | (go_at_call 30; refine (ends_any _ _ _ hv2 (by decide)).mono ?_; rintro e w' ⟨rfl, rfl⟩)
                  | (go_at_call 48; refine (vowelled_any _ _ (by omega)).mono ?_; rintro e w9 ⟨rfl, hb9⟩))
                go_ret
                exact ⟨by rw [← HV.out, H3.out]; rfl, by (repeat (first | exact Below.refl _ _ | assumption | refine balloc ?_ _ | refine bdrew ?_ | refine bdrewN ?_ _ | refine bset ?_ (by first | assumption | omega) _ | refine bchain ?_ (by assumption)))⟩
      · have hq' : q = (⟨#[101, 100]⟩, ⟨#[]⟩) := Option.some.inj (hq.symm.trans rfl)
        subst hq'
        have hle1 : 2 ≤ u.size := hle0
        obtain ⟨r, hr⟩ : ∃ r, r = cut u ⟨#[101, 100]⟩ := ⟨_, rfl⟩
        have hre : u.extract 0 (u.size - 2) = r := hr.symm
        have hrs : r.size ≤ 140737488351320 := by rw [hr, cut_size]; omega
        have hms : meas r ≤ r.size := by unfold meas; have := msTo_le r (r.size - 1); omega
        have HS := Lib.hid (s1b_1 hbs)
        rw [← hr] at HS
        clear hr hq hsq
        rcases hvr : hasV r with _ | _
        · go_upto_if 37 with (go_at_call 46; refine (longest_ref u L1b _ _ (wc.heap.size + 1) _ hu1 (by decide) (by decide) (by simp) (slc_new wc _ _)).mono ?_; rintro e w2 ⟨rfl, hb2⟩; have hk := (hblk.alloc (.cells #[.string ⟨#[101, 101, 100]⟩, .string ⟨#[101, 101]⟩, .string ⟨#[101, 100]⟩, .string ⟨#[]⟩, .string ⟨#[105, 110, 103]⟩, .string ⟨#[]⟩] 43)).below hb2 (by have := hblk.lt; simp; omega); have q0 := hk.cell 0; have q1 := hk.cell 1; have z0 := hk.frozen 0; have z1 := hk.frozen 1; simp only [List.getElem?_toArray, List.getElem?_cons_zero, List.getElem?_cons_succ] at q0 q1; have hlt2 := hk.lt)
          go_cut [0] (fun s0 wx => s0 = .string v ∧ Below w.heap.size w wx)
          case first =>
            go_wp2_with (go_at_call 48; refine (vowelled_any _ _ (by omega)).mono ?_; rintro e w4 ⟨rfl, hb4⟩)
            go_meet
            case rel => exact ⟨by rw [HV.out, HS.out, hvr]; rfl, by (repeat (first | exact Below.refl _ _ | assumption | refine balloc ?_ _ | refine bdrew ?_ | refine bdrewN ?_ _ | refine bset ?_ (by first | assumption | omega) _ | refine bchain ?_ (by assumption)))⟩
          case rest =>
            obtain ⟨rfl, hbel3⟩ := hcut
            rcases hy : sfx v ⟨#[121]⟩ with _ | _
            · have H3 : Hid (s1c v = v) := Lib.hid (by unfold s1c; rw [hy]; rfl)
              go_wp2_with (go_at_call 30; refine (ends_any _ _ _ hv2 (by decide)).mono ?_; rintro e w' ⟨rfl, rfl⟩)
              go_ret
              exact ⟨by rw [← HV.out, H3.out]; rfl, hbel3⟩
            · have hle := sfx_le hy
              have hle1 : 1 ≤ v.size := hle
              obtain ⟨y, hyy⟩ : ∃ y, y = cut v ⟨#[121]⟩ := ⟨_, rfl⟩
              have hex : v.extract 0 (v.size - 1) = y := hyy.symm
              have hys : y.size ≤ 140737488355320 := by rw [hyy, cut_size]; omega
              rcases hvy : hasV y with _ | _
              · have H3 : Hid (s1c v = v) := Lib.hid (by unfold s1c; rw [← hyy, hy, hvy]; rfl)
                clear hyy
                go_wp2_with (first
                  | (go_at_call 30; refine (ends_any _ _ _ hv2 (by decide)).mono ?_; rintro e w' ⟨rfl, rfl⟩)
                  | (go_at_call 48; refine (vowelled_any _ _ (by omega)).mono ?_; rintro e w9 ⟨rfl, hb9⟩))
                go_ret
                exact ⟨by rw [← HV.out, H3.out]; rfl, by (repeat (first | exact Below.refl _ _ | assumption | refine balloc ?_ _ | refine bdrew ?_ | refine bdrewN ?_ _ | refine bset ?_ (by first | assumption | omega) _ | refine bchain ?_ (by assumption)))⟩
              · have H3 : Hid (s1c v = y ++ ⟨#[105]⟩) := Lib.hid (by unfold s1c; rw [← hyy, hy, hvy]; rfl)
                clear hyy
                go_wp2_with (first
                  | (go_at_call 30; refine (ends_any _ _ _ hv2 (by decide)).mono ?_; rintro e w' ⟨rfl, rfl⟩)
                  | (go_at_call 48; refine (vowelled_any _ _ (by omega)).mono ?_; rintro e w9 ⟨rfl, hb9⟩))
                go_ret
                exact ⟨by rw [← HV.out, H3.out]; rfl, by (repeat (first | exact Below.refl _ _ | assumption | refine balloc ?_ _ | refine bdrew ?_ | refine bdrewN ?_ _ | refine bset ?_ (by first | assumption | omega) _ | refine bchain ?_ (by assumption)))⟩
        · go_upto_if 37 with (go_at_call 46; refine (longest_ref u L1b _ _ (wc.heap.size + 1) _ hu1 (by decide) (by decide) (by simp) (slc_new wc _ _)).mono ?_; rintro e w2 ⟨rfl, hb2⟩; have hk := (hblk.alloc (.cells #[.string ⟨#[101, 101, 100]⟩, .string ⟨#[101, 101]⟩, .string ⟨#[101, 100]⟩, .string ⟨#[]⟩, .string ⟨#[105, 110, 103]⟩, .string ⟨#[]⟩] 43)).below hb2 (by have := hblk.lt; simp; omega); have q0 := hk.cell 0; have q1 := hk.cell 1; have z0 := hk.frozen 0; have z1 := hk.frozen 1; simp only [List.getElem?_toArray, List.getElem?_cons_zero, List.getElem?_cons_succ] at q0 q1; have hlt2 := hk.lt)
          go_cut [0] (fun s0 wx => s0 = .string v ∧ Below w.heap.size w wx)
          case first =>
            go_wp2_with (first
              | (go_at_call 48; refine (vowelled_any _ _ (by omega)).mono ?_; rintro e w4 ⟨rfl, hb4⟩)
              | (go_at_call 49; refine (mended_any _ _ (by omega)).mono ?_; rintro e w5 ⟨rfl, hb5⟩))
            go_meet
            case rel => exact ⟨by rw [HV.out, HS.out, hvr]; rfl, by (repeat (first | exact Below.refl _ _ | assumption | refine balloc ?_ _ | refine bdrew ?_ | refine bdrewN ?_ _ | refine bset ?_ (by first | assumption | omega) _ | refine bchain ?_ (by assumption)))⟩
          case rest =>
            obtain ⟨rfl, hbel3⟩ := hcut
            rcases hy : sfx v ⟨#[121]⟩ with _ | _
            · have H3 : Hid (s1c v = v) := Lib.hid (by unfold s1c; rw [hy]; rfl)
              go_wp2_with (go_at_call 30; refine (ends_any _ _ _ hv2 (by decide)).mono ?_; rintro e w' ⟨rfl, rfl⟩)
              go_ret
              exact ⟨by rw [← HV.out, H3.out]; rfl, hbel3⟩
            · have hle := sfx_le hy
              have hle1 : 1 ≤ v.size := hle
              obtain ⟨y, hyy⟩ : ∃ y, y = cut v ⟨#[121]⟩ := ⟨_, rfl⟩
              have hex : v.extract 0 (v.size - 1) = y := hyy.symm
              have hys : y.size ≤ 140737488355320 := by rw [hyy, cut_size]; omega
              rcases hvy : hasV y with _ | _
              · have H3 : Hid (s1c v = v) := Lib.hid (by unfold s1c; rw [← hyy, hy, hvy]; rfl)
                clear hyy
                go_wp2_with (first
                  | (go_at_call 30; refine (ends_any _ _ _ hv2 (by decide)).mono ?_; rintro e w' ⟨rfl, rfl⟩)
                  | (go_at_call 48; refine (vowelled_any _ _ (by omega)).mono ?_; rintro e w9 ⟨rfl, hb9⟩))
                go_ret
                exact ⟨by rw [← HV.out, H3.out]; rfl, by (repeat (first | exact Below.refl _ _ | assumption | refine balloc ?_ _ | refine bdrew ?_ | refine bdrewN ?_ _ | refine bset ?_ (by first | assumption | omega) _ | refine bchain ?_ (by assumption)))⟩
              · have H3 : Hid (s1c v = y ++ ⟨#[105]⟩) := Lib.hid (by unfold s1c; rw [← hyy, hy, hvy]; rfl)
                clear hyy
                go_wp2_with (first
                  | (go_at_call 30; refine (ends_any _ _ _ hv2 (by decide)).mono ?_; rintro e w' ⟨rfl, rfl⟩)
                  | (go_at_call 48; refine (vowelled_any _ _ (by omega)).mono ?_; rintro e w9 ⟨rfl, hb9⟩))
                go_ret
                exact ⟨by rw [← HV.out, H3.out]; rfl, by (repeat (first | exact Below.refl _ _ | assumption | refine balloc ?_ _ | refine bdrew ?_ | refine bdrewN ?_ _ | refine bset ?_ (by first | assumption | omega) _ | refine bchain ?_ (by assumption)))⟩
      · have hq' : q = (⟨#[105, 110, 103]⟩, ⟨#[]⟩) := Option.some.inj (hq.symm.trans rfl)
        subst hq'
        have hle1 : 3 ≤ u.size := hle0
        obtain ⟨r, hr⟩ : ∃ r, r = cut u ⟨#[105, 110, 103]⟩ := ⟨_, rfl⟩
        have hre : u.extract 0 (u.size - 3) = r := hr.symm
        have hrs : r.size ≤ 140737488351320 := by rw [hr, cut_size]; omega
        have hms : meas r ≤ r.size := by unfold meas; have := msTo_le r (r.size - 1); omega
        have HS := Lib.hid (s1b_2 hbs)
        rw [← hr] at HS
        clear hr hq hsq
        rcases hvr : hasV r with _ | _
        · go_upto_if 37 with (go_at_call 46; refine (longest_ref u L1b _ _ (wc.heap.size + 1) _ hu1 (by decide) (by decide) (by simp) (slc_new wc _ _)).mono ?_; rintro e w2 ⟨rfl, hb2⟩; have hk := (hblk.alloc (.cells #[.string ⟨#[101, 101, 100]⟩, .string ⟨#[101, 101]⟩, .string ⟨#[101, 100]⟩, .string ⟨#[]⟩, .string ⟨#[105, 110, 103]⟩, .string ⟨#[]⟩] 43)).below hb2 (by have := hblk.lt; simp; omega); have q0 := hk.cell 0; have q1 := hk.cell 1; have z0 := hk.frozen 0; have z1 := hk.frozen 1; simp only [List.getElem?_toArray, List.getElem?_cons_zero, List.getElem?_cons_succ] at q0 q1; have hlt2 := hk.lt)
          go_cut [0] (fun s0 wx => s0 = .string v ∧ Below w.heap.size w wx)
          case first =>
            go_wp2_with (go_at_call 48; refine (vowelled_any _ _ (by omega)).mono ?_; rintro e w4 ⟨rfl, hb4⟩)
            go_meet
            case rel => exact ⟨by rw [HV.out, HS.out, hvr]; rfl, by (repeat (first | exact Below.refl _ _ | assumption | refine balloc ?_ _ | refine bdrew ?_ | refine bdrewN ?_ _ | refine bset ?_ (by first | assumption | omega) _ | refine bchain ?_ (by assumption)))⟩
          case rest =>
            obtain ⟨rfl, hbel3⟩ := hcut
            rcases hy : sfx v ⟨#[121]⟩ with _ | _
            · have H3 : Hid (s1c v = v) := Lib.hid (by unfold s1c; rw [hy]; rfl)
              go_wp2_with (go_at_call 30; refine (ends_any _ _ _ hv2 (by decide)).mono ?_; rintro e w' ⟨rfl, rfl⟩)
              go_ret
              exact ⟨by rw [← HV.out, H3.out]; rfl, hbel3⟩
            · have hle := sfx_le hy
              have hle1 : 1 ≤ v.size := hle
              obtain ⟨y, hyy⟩ : ∃ y, y = cut v ⟨#[121]⟩ := ⟨_, rfl⟩
              have hex : v.extract 0 (v.size - 1) = y := hyy.symm
              have hys : y.size ≤ 140737488355320 := by rw [hyy, cut_size]; omega
              rcases hvy : hasV y with _ | _
              · have H3 : Hid (s1c v = v) := Lib.hid (by unfold s1c; rw [← hyy, hy, hvy]; rfl)
                clear hyy
                go_wp2_with (first
                  | (go_at_call 30; refine (ends_any _ _ _ hv2 (by decide)).mono ?_; rintro e w' ⟨rfl, rfl⟩)
                  | (go_at_call 48; refine (vowelled_any _ _ (by omega)).mono ?_; rintro e w9 ⟨rfl, hb9⟩))
                go_ret
                exact ⟨by rw [← HV.out, H3.out]; rfl, by (repeat (first | exact Below.refl _ _ | assumption | refine balloc ?_ _ | refine bdrew ?_ | refine bdrewN ?_ _ | refine bset ?_ (by first | assumption | omega) _ | refine bchain ?_ (by assumption)))⟩
              · have H3 : Hid (s1c v = y ++ ⟨#[105]⟩) := Lib.hid (by unfold s1c; rw [← hyy, hy, hvy]; rfl)
                clear hyy
                go_wp2_with (first
                  | (go_at_call 30; refine (ends_any _ _ _ hv2 (by decide)).mono ?_; rintro e w' ⟨rfl, rfl⟩)
                  | (go_at_call 48; refine (vowelled_any _ _ (by omega)).mono ?_; rintro e w9 ⟨rfl, hb9⟩))
                go_ret
                exact ⟨by rw [← HV.out, H3.out]; rfl, by (repeat (first | exact Below.refl _ _ | assumption | refine balloc ?_ _ | refine bdrew ?_ | refine bdrewN ?_ _ | refine bset ?_ (by first | assumption | omega) _ | refine bchain ?_ (by assumption)))⟩
        · go_upto_if 37 with (go_at_call 46; refine (longest_ref u L1b _ _ (wc.heap.size + 1) _ hu1 (by decide) (by decide) (by simp) (slc_new wc _ _)).mono ?_; rintro e w2 ⟨rfl, hb2⟩; have hk := (hblk.alloc (.cells #[.string ⟨#[101, 101, 100]⟩, .string ⟨#[101, 101]⟩, .string ⟨#[101, 100]⟩, .string ⟨#[]⟩, .string ⟨#[105, 110, 103]⟩, .string ⟨#[]⟩] 43)).below hb2 (by have := hblk.lt; simp; omega); have q0 := hk.cell 0; have q1 := hk.cell 1; have z0 := hk.frozen 0; have z1 := hk.frozen 1; simp only [List.getElem?_toArray, List.getElem?_cons_zero, List.getElem?_cons_succ] at q0 q1; have hlt2 := hk.lt)
          go_cut [0] (fun s0 wx => s0 = .string v ∧ Below w.heap.size w wx)
          case first =>
            go_wp2_with (first
              | (go_at_call 48; refine (vowelled_any _ _ (by omega)).mono ?_; rintro e w4 ⟨rfl, hb4⟩)
              | (go_at_call 49; refine (mended_any _ _ (by omega)).mono ?_; rintro e w5 ⟨rfl, hb5⟩))
            go_meet
            case rel => exact ⟨by rw [HV.out, HS.out, hvr]; rfl, by (repeat (first | exact Below.refl _ _ | assumption | refine balloc ?_ _ | refine bdrew ?_ | refine bdrewN ?_ _ | refine bset ?_ (by first | assumption | omega) _ | refine bchain ?_ (by assumption)))⟩
          case rest =>
            obtain ⟨rfl, hbel3⟩ := hcut
            rcases hy : sfx v ⟨#[121]⟩ with _ | _
            · have H3 : Hid (s1c v = v) := Lib.hid (by unfold s1c; rw [hy]; rfl)
              go_wp2_with (go_at_call 30; refine (ends_any _ _ _ hv2 (by decide)).mono ?_; rintro e w' ⟨rfl, rfl⟩)
              go_ret
              exact ⟨by rw [← HV.out, H3.out]; rfl, hbel3⟩
            · have hle := sfx_le hy
              have hle1 : 1 ≤ v.size := hle
              obtain ⟨y, hyy⟩ : ∃ y, y = cut v ⟨#[121]⟩ := ⟨_, rfl⟩
              have hex : v.extract 0 (v.size - 1) = y := hyy.symm
              have hys : y.size ≤ 140737488355320 := by rw [hyy, cut_size]; omega
              rcases hvy : hasV y with _ | _
              · have H3 : Hid (s1c v = v) := Lib.hid (by unfold s1c; rw [← hyy, hy, hvy]; rfl)
                clear hyy
                go_wp2_with (first
                  | (go_at_call 30; refine (ends_any _ _ _ hv2 (by decide)).mono ?_; rintro e w' ⟨rfl, rfl⟩)
                  | (go_at_call 48; refine (vowelled_any _ _ (by omega)).mono ?_; rintro e w9 ⟨rfl, hb9⟩))
                go_ret
                exact ⟨by rw [← HV.out, H3.out]; rfl, by (repeat (first | exact Below.refl _ _ | assumption | refine balloc ?_ _ | refine bdrew ?_ | refine bdrewN ?_ _ | refine bset ?_ (by first | assumption | omega) _ | refine bchain ?_ (by assumption)))⟩
              · have H3 : Hid (s1c v = y ++ ⟨#[105]⟩) := Lib.hid (by unfold s1c; rw [← hyy, hy, hvy]; rfl)
                clear hyy
                go_wp2_with (first
                  | (go_at_call 30; refine (ends_any _ _ _ hv2 (by decide)).mono ?_; rintro e w' ⟨rfl, rfl⟩)
                  | (go_at_call 48; refine (vowelled_any _ _ (by omega)).mono ?_; rintro e w9 ⟨rfl, hb9⟩))
                go_ret
                exact ⟨by rw [← HV.out, H3.out]; rfl, by (repeat (first | exact Below.refl _ _ | assumption | refine balloc ?_ _ | refine bdrew ?_ | refine bdrewN ?_ _ | refine bset ?_ (by first | assumption | omega) _ | refine bchain ?_ (by assumption)))⟩
end Go.Proofs.Ytmoahflgcojfcaa.RefFirst
