/-
  The walk of TokensStops.
-/
import Derived.Test.YtmoahflgcojfcaaDoorStopsWalk
import Derived.Deep.AppendLies
namespace Go.Proofs.YtmoahflgcojfcaaDoor.TokensStopsWalk
open Go.RowKit Go.PlainAid Go.Sort Base StopsPlain ShelfLay StopsWalk

def xB : ByteArray := ⟨#[120]⟩
/-- The list of the stop words, the first j written over. -/
def over (j : Nat) : List Value := List.replicate j (.string xB) ++ (stopWords.drop j).map encStr
theorem over_zero : over 0 = stopWords.map encStr := by simp [over]
theorem over_at {j : Nat} {l : List UInt8} (h : stopWords[j]? = some l) : (over j)[j]? = some (.string ⟨l.toArray⟩) := by
  unfold over
  rw [List.getElem?_append_right (by simp), List.length_replicate, Nat.sub_self, List.getElem?_map, List.getElem?_drop, Nat.add_zero, h]
  rfl
theorem over_set {j : Nat} (h : j < stopWords.length) : (over j).set j (.string xB) = over (j + 1) := by
  unfold over
  rw [List.set_append_right _ _ (by simp), List.length_replicate, Nat.sub_self, List.drop_eq_getElem_cons h, List.map_cons, List.set_cons_zero, List.replicate_succ', List.append_assoc]
  rfl
/-- Does x stand among the first j stop words? -/
def inB (x : ByteArray) (j : Nat) : Bool := Lib.containsS (stopStrs.take j) x
theorem inB_zero (x : ByteArray) : inB x 0 = false := by
  cases h : inB x 0 with
  | false => rfl
  | true => have := (Lib.containsS_iff _ _).1 h; simp at this
theorem inB_yes {x s : ByteArray} {j : Nat} (h : stopStrs[j]? = some s) (hx : inB x j = true ∨ s = x) : inB x (j + 1) = true := by
  obtain ⟨hj, e⟩ := List.getElem?_eq_some_iff.1 h
  refine (Lib.containsS_iff _ _).2 ?_
  rw [List.take_succ_eq_append_getElem hj, e]
  rcases hx with hx | hx
  · exact List.mem_append_left _ ((Lib.containsS_iff _ _).1 hx)
  · subst hx; simp
theorem inB_no {x s : ByteArray} {j : Nat} (h : stopStrs[j]? = some s) (h1 : inB x j = false) (h2 : s ≠ x) : inB x (j + 1) = false := by
  obtain ⟨hj, e⟩ := List.getElem?_eq_some_iff.1 h
  cases hc : inB x (j + 1) with
  | false => rfl
  | true =>
    have hm := (Lib.containsS_iff _ _).1 hc
    rw [List.take_succ_eq_append_getElem hj, e] at hm
    rcases List.mem_append.1 hm with hm | hm
    · rw [show inB x j = true from (Lib.containsS_iff _ _).2 hm] at h1; cases h1
    · exact absurd (List.mem_singleton.1 hm).symm h2
theorem str_eq (s x : ByteArray) : (s.toList == x.toList) = true ↔ s = x := by
  rw [ByteArray.toList_eq, ByteArray.toList_eq]
  constructor
  · intro h
    have h1 : s.data.toList = x.data.toList := eq_of_beq h
    have h2 : s.data = x.data := Array.toList_inj.1 h1
    cases s; cases x; simp only at h2; rw [h2]
  · rintro rfl; simp
theorem inB_cmp {x s : ByteArray} {j : Nat} (h : stopStrs[j]? = some s) (h1 : inB x j = false) : inB x (j + 1) = (s.toList == x.toList) := by
  cases hc : (s.toList == x.toList) with
  | true => exact inB_yes h (.inr ((str_eq s x).1 hc))
  | false => exact inB_no h h1 (fun e => by rw [(str_eq s x).2 e] at hc; cases hc)
theorem own_low {w : World} {B B' size n : Nat} {e : TypeId} {v : Value} {xs : List Value} (h : w.ownsRow B e size v n xs) (hB : B' ≤ B) : w.ownsRow B' e size v n xs :=
  ⟨h.1, h.2.imp id fun ⟨g, cap, cur, h1, h2, h3⟩ => ⟨g, cap, cur, h1, Nat.le_trans hB h2, h3⟩⟩
theorem strElem : Elem Tryd.prog 22 9 (.string ByteArray.empty) 1 16 := .mk_ (by kernel_rfl) (by kernel_rfl) rfl (by decide)
theorem over_end : over stopWords.length = List.replicate stopWords.length (.string xB) := by simp [over]

/-- One of the words is written over. -/
theorem put_over {w w3 : World} {g1 g2 j q : Nat} (hj : j < stopWords.length) (hne : g1 ≠ g2) (hs : w.heap.size ≤ w3.heap.size)
    (o1 : w3.ownsRow w.heap.size 9 1 (.slice (some ⟨g1, 0, none⟩) stopWords.length stopWords.length) stopWords.length (over j))
    (o2 : w3.ownsRow w.heap.size 9 1 (.slice (some ⟨g2, 0, none⟩) stopWords.length stopWords.length) stopWords.length (stopWords.map encStr)) (hb : Below w.heap.size w w3) :
    ((w3.drewN q).setCell ⟨g1, j, none⟩ (.string xB)).ownsRow w.heap.size 9 1 (.slice (some ⟨g1, 0, none⟩) stopWords.length stopWords.length) stopWords.length (over (j + 1)) ∧
    ((w3.drewN q).setCell ⟨g1, j, none⟩ (.string xB)).ownsRow w.heap.size 9 1 (.slice (some ⟨g2, 0, none⟩) stopWords.length stopWords.length) stopWords.length (stopWords.map encStr) ∧
    Below w.heap.size w ((w3.drewN q).setCell ⟨g1, j, none⟩ (.string xB)) := by
  have o1' : (w3.drewN q).ownsRow w.heap.size 9 1 (.slice (some ⟨g1, 0, none⟩) stopWords.length stopWords.length) stopWords.length (over j) := o1
  have o2' : (w3.drewN q).ownsRow w.heap.size 9 1 (.slice (some ⟨g2, 0, none⟩) stopWords.length stopWords.length) stopWords.length (stopWords.map encStr) := o2
  obtain ⟨p1, p2⟩ := o1'.stored j (.string xB)
  rw [over_set hj] at p1
  exact ⟨p1, o2'.kept p2 (.inr (by simp [Value.ownBlock]; omega)), below_own (bdrewN hb q) o1' hs p2⟩
theorem inB_all (x : ByteArray) : inB x stopWords.length = isStopB x := by
  unfold inB isStopB
  rw [← stopStrs_len, List.take_length]
theorem stop_in {j : Nat} {s : ByteArray} (h : stopStrs[j]? = some s) : isStopB s = true := (isStopB_iff s).2 (List.mem_of_getElem? h)

set_option maxRecDepth 100000 in
set_option maxHeartbeats 4000000 in
theorem walk (x : ByteArray) (w : World) (ht : Tab w) (h0 : 0 < w.heap.size) :
    Calls Tryd.prog 3 #[.string x] w fun e w' => e = .returned (.bool true) ∧ Below w.heap.size w w' := by
  have F := Lib.hid (stops_any w ht)
  have hnl : stopWords.length ≤ 100 := by rw [stop_len]; decide
  go_enter Tryd.func3, Tryd.ntmps3
  go_wp2_with fail
  go_at_call 9
  refine F.out.mono ?_
  rintro e w1 ⟨g1, rfl, own1, hb1⟩
  go_wp2_with fail
  go_at_call 10
  refine (refStops_any _).mono ?_
  rintro e w2 ⟨g2, rfl, own2, hb2⟩
  have hlt := (own1.lt g1 rfl).2
  have hge := (own2.lt g2 rfl).1
  have own1' : w2.ownsRow w.heap.size 9 1 (.slice (some ⟨g1, 0, none⟩) stopWords.length stopWords.length) stopWords.length (over 0) := by rw [over_zero]; exact own_below own1 hb2
  have hz1 := hb1.size
  have hbw2 : Below w.heap.size w w2 := bchain hb1 hb2
  have hne : g1 ≠ g2 := by omega
  have own2' : w2.ownsRow w.heap.size 9 1 (.slice (some ⟨g2, 0, none⟩) stopWords.length stopWords.length) stopWords.length (stopWords.map encStr) := own_low own2 hz1
  clear own1 own2 hb1 hb2 hlt hge
  go_wp2_with fail
  go_loopw [18, 5] (fun i vin wr => ∃ j : Nat, j ≤ stopWords.length ∧ i = .int .i64 j ∧ vin = .bool (inB x j) ∧ Hid (wr.ownsRow w.heap.size 9 1 (.slice (some ⟨g1, 0, none⟩) stopWords.length stopWords.length) stopWords.length (over j)) ∧ Hid (wr.ownsRow w.heap.size 9 1 (.slice (some ⟨g2, 0, none⟩) stopWords.length stopWords.length) stopWords.length (stopWords.map encStr)) ∧ Below w.heap.size w wr) (fun i _ _ => stopWords.length - (intOf i).toNat)
  case atStart => exact ⟨0, Nat.zero_le _, rfl, by rw [inB_zero], Lib.hid own1', Lib.hid own2', hbw2⟩
  case round =>
    obtain ⟨j, hj, rfl, rfl, ho1, ho2, hbr⟩ := hrel
    clear own1' own2' hbw2
    have hsr := hbr.size
    have htr := tab_below ht hbr h0
    by_cases hlt : j < stopWords.length
    · obtain ⟨l, hl⟩ : ∃ l, stopWords[j]? = some l := ⟨_, List.getElem?_eq_getElem hlt⟩
      obtain ⟨s, hs⟩ : ∃ s : ByteArray, s = ⟨l.toArray⟩ := ⟨_, rfl⟩
      have hss : stopStrs[j]? = some s := by rw [hs]; simp [stopStrs, hl]
      have a0 : wr.cell? ⟨g1, j, none⟩ = some (.string s) := by rw [hs]; exact (ho1.out.cellAt j (by omega)).trans (over_at hl)
      have IS := Lib.hid (isStop_any s wr htr)
      have HI := Lib.hid (stop_in hss)
      have HSS := Lib.hid hss
      have HS := Lib.hid hs
      have HL := Lib.hid hl
      clear hs hss hl htr
      go_wp2_with fail
      go_at_call 11
      refine IS.out.mono ?_
      rw [HI.out]
      rintro e w3 ⟨rfl, hb3⟩
      have o1 := own_below ho1.out hb3
      have o2 := own_below ho2.out hb3
      have c1 : w3.cell? ⟨g1, j, none⟩ = some (.string s) := by rw [HS.out]; exact (o1.cellAt j (by omega)).trans (over_at HL.out)
      have c2 : w3.cell? ⟨g2, j, none⟩ = some (.string s) := by rw [HS.out]; exact (o2.cellAt j (by omega)).trans (by rw [List.getElem?_map, HL.out]; rfl)
      have z1 : w3.frozen? ⟨g1, j, none⟩ = false := o1.frozenAt j
      have hb3w : Below w.heap.size w w3 := hbr.trans (hb3.mono hsr)
      have O1 := Lib.hid o1
      have O2 := Lib.hid o2
      clear a0 o1 o2
      have hs3 := Nat.le_trans hsr hb3.size
      cases hin : inB x j
      · have HC := Lib.hid (inB_cmp (x := x) HSS.out hin)
        clear hin
        go_upto_region 10 with fail
        go_quiet (fail)
        go_wp2_with fail
        go_roundw
        case rel =>
          obtain ⟨p1, p2, p3⟩ := put_over (q := nq) hlt hne hs3 O1.out O2.out hb3w
          exact ⟨j + 1, by omega, by go_num, by rw [HC.out], Lib.hid p1, Lib.hid p2, p3⟩
        case measure => simp [intOf]; omega
      · have HC := Lib.hid (inB_yes (x := x) HSS.out (.inl hin))
        clear hin
        go_upto_region 10 with fail
        go_quiet (fail)
        go_wp2_with fail
        go_roundw
        case rel =>
          obtain ⟨p1, p2, p3⟩ := put_over (q := nq) hlt hne hs3 O1.out O2.out hb3w
          exact ⟨j + 1, by omega, by go_num, by rw [HC.out], Lib.hid p1, Lib.hid p2, p3⟩
        case measure => simp [intOf]; omega
    · obtain rfl : j = stopWords.length := by omega
      rw [inB_all]
      obtain ⟨bb, hbb⟩ : ∃ bb, bb = isStopB x := ⟨_, rfl⟩
      rw [← hbb]
      have HBB := Lib.hid hbb
      have hown := ho1.out
      clear hbb hlt
      go_wp2_with (at_builtin; refine wpList_append1 rfl _ _ rfl strElem hown rfl rfl rfl rfl (by omega) (by unfold maxLen; omega) hsr ?_)
      intro v4 w4 own4 hg4 hb4
      have hb4w := hb4 w hbr
      obtain ⟨g4, cap4, rfl, hg4a, hg4b⟩ := own4.form (by omega)
      have hpos : 0 < stopWords.length := by rw [stop_len]; decide
      have c4 : w4.cell? ⟨g4, 0, none⟩ = some (.string ⟨#[120]⟩) := (own4.cellAt 0 (by omega)).trans (by
        rw [over_end, List.getElem?_append_left (by simpa using hpos), List.getElem?_replicate, if_pos hpos]; rfl)
      have ht4 := tab_below ht hb4w h0
      have IS := Lib.hid (isStop_any x w4 ht4)
      have hs4 := hb4w.size
      clear own4 hg4 hown
      go_wp2_with fail
      go_at_call 11
      refine IS.out.mono ?_
      rw [← HBB.out]
      rintro e w5 ⟨rfl, hb5⟩
      have c5 : w5.cell? ⟨g4, 0, none⟩ = some (.string ⟨#[120]⟩) := (hb5.cell (p := ⟨g4, 0, none⟩) hg4b).trans c4
      have hb5w : Below w.heap.size w w5 := hb4w.trans (hb5.mono hs4)
      have hs5 := hb5w.size
      have F5 := Lib.hid (stops_any w5 (tab_below ht hb5w h0))
      clear c4 ht4
      cases bb
      all_goals
        go_wp2_with fail
        go_at_call 9
        refine F5.out.mono ?_
        rintro e w8 ⟨g8, rfl, own8, hb8⟩
        have d0 : w8.cell? ⟨g8, 0, none⟩ = some (.string ⟨#[97]⟩) := (own8.cellAt 0 (by omega)).trans (by rw [List.getElem?_map]; rfl)
        have d1 : w8.cell? ⟨g8, 41, none⟩ = some (.string ⟨#[121, 111, 117]⟩) := (own8.cellAt 41 (by rw [stop_len]; decide)).trans (by rw [List.getElem?_map]; rfl)
        have hb8w : Below w.heap.size w w8 := hb5w.trans (hb8.mono hs5)
        have hn42 : stopWords.length = 42 := stop_len
        clear own8 c5
        go_wp2_with fail
        go_ret
        exact ⟨rfl, hb8w⟩
end Go.Proofs.YtmoahflgcojfcaaDoor.TokensStopsWalk
