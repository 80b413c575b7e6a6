/-
  The emitter's query, of whatever good query.
-/
import Derived.Test.YtfpikilhbkeajaaGreatDoorCEmitQ
import Derived.Test.YtfpikilhbkeajaaGreatDoorCEmitR
set_option linter.unusedVariables false
set_option linter.unusedSimpArgs false
namespace Go.Proofs.YtfpikilhbkeajaaGreatDoor.EmitQuery
set_option maxRecDepth 100000
open Go.RowKit Go.PlainAid Base Query QrySize EmitPlain EmitBase LeafMap EmitRaw EmitQ0 EmitQA EmitQB EmitQC EmitQD EmitQE EmitQF EmitQG

theorem qc (x : Lf → Int) (hnum : ∀ l, 0 ≤ x l ∧ x l < 9223372036854775808) (q : Qry) : GoodQ q → QC x q := by
  induction q using Qry.ind with
  | h q ih =>
    intro hg
    obtain ⟨hd, ks, hl, hk⟩ := hg
    simp only [Qry.kids] at ih
    have IH : ∀ k ∈ ks, QC x k := fun k hm => ih k hm (hk k hm)
    intro E h L NS nc nv cv nm full cs w m hx hmb hq hf
    rcases hl.kind with e | e | e | e | e | e | e | e | e | e
    · cases full
      · exact query1f x hd ks e hl IH E h L NS nc nv cv nm cs w m hx hmb hq hf
      · exact query1t x hd ks e hl IH E h L NS nc nv cv nm cs w m hx hmb hq hf
    · cases full
      · exact query2f x hd ks e hl IH E h L NS nc nv cv nm cs w m hx hmb hq hf
      · exact query2t x hd ks e hl IH E h L NS nc nv cv nm cs w m hx hmb hq hf
    · cases full
      · exact query3f x hd ks e hl IH E h L NS nc nv cv nm cs w m hx hmb hq hf
      · exact query3t x hd ks e hl IH E h L NS nc nv cv nm cs w m hx hmb hq hf
    · cases full
      · exact query4f x hd ks e hl IH E h L NS nc nv cv nm cs w m hx hmb hnum hq hf
      · exact query4t x hd ks e hl IH E h L NS nc nv cv nm cs w m hx hmb hnum hq hf
    · cases full
      · exact query5f x hd ks e hl IH E h L NS nc nv cv nm cs w m hx hmb hq hf
      · exact query5t x hd ks e hl IH E h L NS nc nv cv nm cs w m hx hmb hq hf
    · cases full
      · exact query10f x hd ks e hl IH E h L NS nc nv cv nm cs w m hx hmb hq hf
      · exact query10t x hd ks e hl IH E h L NS nc nv cv nm cs w m hx hmb hq hf
    · cases full
      · exact query11f x hd ks e hl IH E h L NS nc nv cv nm cs w m hx hmb hq hf
      · exact query11t x hd ks e hl IH E h L NS nc nv cv nm cs w m hx hmb hq hf
    · cases full
      · exact query12f x hd ks e hl IH E h L NS nc nv cv nm cs w m hx hmb hq hf
      · exact query12t x hd ks e hl IH E h L NS nc nv cv nm cs w m hx hmb hq hf
    · cases full
      · exact query13f x hd ks e hl IH E h L NS nc nv cv nm cs w m hx hmb hq hf
      · exact query13t x hd ks e hl IH E h L NS nc nv cv nm cs w m hx hmb hq hf
    · cases full
      · exact query14f x hd ks e hl IH E h L NS nc nv cv nm cs w m hx hmb hq hf
      · exact query14t x hd ks e hl IH E h L NS nc nv cv nm cs w m hx hmb hq hf
end Go.Proofs.YtfpikilhbkeajaaGreatDoor.EmitQuery
