/-
  The walk of tokens.through.
-/
import Derived.Test.YtmoahflgcojfcaaDoorChainMade
namespace Go.Proofs.YtmoahflgcojfcaaDoor.Through
set_option maxRecDepth 100000
open Go.RowKit Go.PlainAid WordPlain StemPlain FoldPlain FoldWalk StemWalk8 Base WordBytes WordsWalk StopsPlain StopsWalk ChainPlain PluralPlain ChainWalk ChainMade

set_option maxHeartbeats 2000000 in
theorem through_any (a b c : Bool) (A : Option Addr) (cap g : Nat) (B : Nat) (x : ByteArray) (w : World) (hs : x.size ≤ 1099511627776) (hB : B ≤ w.heap.size)
    (hA : Slc w B A ((chn a b c).map (stepV g))) (hst : b = true → StopRow w g) :
    Calls Tryd.prog 28 #[.slice A (chn a b c).length cap, .string x] w fun e w' => e = .returned (.tuple #[.string (thru (chn a b c) x).1, .bool (thru (chn a b c) x).2]) ∧ Below w.heap.size w w' := by
  have hmem : Step.stop ∈ chn a b c → StopRow w g := by
    intro h; apply hst; revert h; cases a <;> cases b <;> cases c <;> simp [chn]
  have hlen := chn_len a b c
  clear hst
  generalize chn a b c = L at *
  go_enter Tryd.func28, Tryd.ntmps28
  go_wp2_with fail
  go_loopw [1, 11] (fun wd i wr => ∃ (k : Nat) (y : ByteArray), k ≤ L.length ∧ i = .int .i64 k ∧ wd = .string y ∧ y.size ≤ x.size ∧ thru (L.drop k) y = thru L x ∧ Below w.heap.size w wr) (fun _ i _ => L.length - (intOf i).toNat)
  case atStart => exact ⟨0, x, Nat.zero_le _, rfl, rfl, Nat.le_refl _, rfl, Below.refl _ _⟩
  case round =>
    obtain ⟨k, y, hk, rfl, rfl, hy, hth, hbel⟩ := hrel
    by_cases hlt : k < L.length
    · obtain ⟨s, hsk⟩ : ∃ s, L[k]? = some s := ⟨_, List.getElem?_eq_getElem hlt⟩
      have hdrop : L.drop k = s :: L.drop (k + 1) := by
        obtain ⟨_, e⟩ := List.getElem?_eq_some_iff.1 hsk
        rw [List.drop_eq_getElem_cons hlt, e]
      have hne : L.map (stepV g) ≠ [] := by intro h; have := congrArg List.length h; simp at this; rw [this] at hlt; simp at hlt
      obtain ⟨g1, o1, rfl, hg1, hc1⟩ := (hA.below hbel hB) hne
      have hcell : wr.cell? ⟨g1, o1 + k, none⟩ = some (stepV g s) := hc1 k _ (by simp [hsk])
      have hsz := doS_size s y
      have HT := Lib.hid hth
      have HD := Lib.hid hdrop
      have hm : s = .stop → StopRow w g := fun e => hmem (by subst e; exact List.mem_of_getElem? hsk)
      clear hc1 hth hdrop hA hmem hsk hne
      rcases s with _ | _ | _
      · have HS := Lib.hid (thru_yes (s := .fold) (r := L.drop (k + 1)) (x := y) rfl)
        simp only [stepV] at hcell
        clear hm
        simp only [doS] at hsz
        go_wp2_with (go_at_call 123; refine (foldDo_any y _ (by unfold maxLen; omega)).mono ?_; rintro e w2 ⟨rfl, hb2⟩)
        go_roundw
        case rel => exact ⟨k + 1, _, by omega, by go_num, rfl, by omega, by rw [← HT.out, HD.out, HS.out]; rfl, bchain hbel (by assumption)⟩
        case measure => simp [intOf]; omega
      · have hr := own_below (hm rfl) hbel
        simp only [stepV] at hcell
        clear hm
        obtain ⟨nw, hn⟩ : ∃ n, n = stopWords.length := ⟨_, rfl⟩
        have HC := Lib.hid (stopDo_any y wr g hr)
        rw [← hn] at HC hcell
        clear hn hr
        cases hb : isStopB y
        · have HS := Lib.hid (thru_yes (s := .stop) (r := L.drop (k + 1)) (x := y) (by simp [doS, hb]))
          rw [hb] at HC
          simp only [Bool.not_false] at HC
          clear hb
          go_wp2_with (go_at_call 124; refine HC.out.mono ?_; rintro e w2 ⟨rfl, hb2⟩)
          go_roundw
          case rel => exact ⟨k + 1, y, by omega, by go_num, rfl, by omega, by rw [← HT.out, HD.out, HS.out]; rfl, bchain hbel (by assumption)⟩
          case measure => simp [intOf]; omega
        · have HS := Lib.hid (thru_no (s := .stop) (r := L.drop (k + 1)) (x := y) (by simp [doS, hb]))
          rw [hb] at HC
          simp only [Bool.not_true] at HC
          clear hb
          have HR : Hid (thru L x = (ByteArray.empty, false)) := Lib.hid (by rw [← HT.out, HD.out, HS.out])
          go_wp2_with (go_at_call 124; refine HC.out.mono ?_; rintro e w2 ⟨rfl, hb2⟩)
          go_ret2
          rw [HR.out]
          exact ⟨rfl, bchain hbel (by assumption)⟩
      · have HS := Lib.hid (thru_yes (s := .stem) (r := L.drop (k + 1)) (x := y) rfl)
        simp only [stepV] at hcell
        clear hm
        simp only [doS] at hsz
        go_wp2_with (go_at_call 125; refine (stemDo_any y _ (by omega)).mono ?_; rintro e w2 ⟨rfl, hb2⟩)
        go_roundw
        case rel => exact ⟨k + 1, _, by omega, by go_num, rfl, by omega, by rw [← HT.out, HD.out, HS.out]; rfl, bchain hbel (by assumption)⟩
        case measure => simp [intOf]; omega
    · obtain rfl : k = L.length := by omega
      rw [List.drop_length, thru_nil] at hth
      have HT := Lib.hid hth
      clear hth hA hmem
      go_wp2_with fail
      go_ret2
      rw [← HT.out]
      exact ⟨by simp; omega, hbel⟩
end Go.Proofs.YtmoahflgcojfcaaDoor.Through
