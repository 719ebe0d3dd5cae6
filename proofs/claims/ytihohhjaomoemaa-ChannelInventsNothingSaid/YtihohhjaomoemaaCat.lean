/- Rows of three and four cells, results in a variable. -/
import Derived.Test.YtihohhjaomoemaaFct
set_option linter.unusedVariables false
namespace Go.Proofs.Ytihohhjaomoemaa
open Go.RowKit

theorem IsSeq.row4 {α : Type} {R : Rd α} {w : World} {base : Option Addr} {n cap : Nat} {l : List α} (h : IsSeq 4 R w (.slice base n cap) l) (i : Nat) (hi : i < l.length) :
    ∃ b off c0 c1 c2 c3, base = some ⟨b, off, none⟩ ∧ R w [c0, c1, c2, c3] l[i] ∧ w.cell? ⟨b, off + i * 4, none⟩ = some c0 ∧ w.cell? ⟨b, off + i * 4 + 1, none⟩ = some c1 ∧ w.cell? ⟨b, off + i * 4 + 2, none⟩ = some c2 ∧ w.cell? ⟨b, off + i * 4 + 3, none⟩ = some c3 := by
  obtain ⟨b, off, cs, h1, h2, h3, h4⟩ := h.at_ (by omega) i hi
  match cs, h2 with
  | [c0, c1, c2, c3], _ =>
    refine ⟨b, off, c0, c1, c2, c3, h1, h4, ?_, ?_, ?_, ?_⟩
    · simpa using h3 0 (by omega)
    · have := h3 1 (by omega); rw [← Nat.add_assoc] at this; exact this
    · have := h3 2 (by omega); rw [← Nat.add_assoc] at this; exact this
    · have := h3 3 (by omega); rw [← Nat.add_assoc] at this; exact this
theorem IsSeq.row3 {α : Type} {R : Rd α} {w : World} {base : Option Addr} {n cap : Nat} {l : List α} (h : IsSeq 3 R w (.slice base n cap) l) (i : Nat) (hi : i < l.length) :
    ∃ b off c0 c1 c2, base = some ⟨b, off, none⟩ ∧ R w [c0, c1, c2] l[i] ∧ w.cell? ⟨b, off + i * 3, none⟩ = some c0 ∧ w.cell? ⟨b, off + i * 3 + 1, none⟩ = some c1 ∧ w.cell? ⟨b, off + i * 3 + 2, none⟩ = some c2 := by
  obtain ⟨b, off, cs, h1, h2, h3, h4⟩ := h.at_ (by omega) i hi
  match cs, h2 with
  | [c0, c1, c2], _ =>
    refine ⟨b, off, c0, c1, c2, h1, h4, ?_, ?_, ?_⟩
    · simpa using h3 0 (by omega)
    · have := h3 1 (by omega); rw [← Nat.add_assoc] at this; exact this
    · have := h3 2 (by omega); rw [← Nat.add_assoc] at this; exact this
theorem oneN {l : List Value} (h : ∀ v ∈ l, v.oneCell' = true) : (l.toArray).all (·.oneCell') = true := by
  rw [Array.all_eq_true_iff_forall_mem]
  intro x hx
  exact h x (by simpa using hx)
theorem results_cell1 {P : Program} {fn : Func} {p u1 : Tmp} {ty : TypeId} (h : fn.results = #[.cell p ty, .tmp u1]) (tmps : Array Value) (w : World) (g : Nat) (t : TypeId) (cs : Array Value) (fr : Nat × Nat) (d : TypeDesc)
    (hp : tmps.getD p undef = .pointer (some ⟨g, 0, none⟩)) (hg : w.heap[g]? = some (.cells cs t fr))
    (hu : P.underlying ty = some d) (hd : (match d with | .struct _ | .array _ _ => true | _ => false) = true) (hi : (P.info? ty).map (·.size) = some cs.size) :
    (results fn tmps).run P w = .ok (.tuple #[.agg cs, tmps.getD u1 undef]) w := by
  unfold results
  simp only [h]
  have hp' : tmps[p]?.getD undef = .pointer (some ⟨g, 0, none⟩) := by simpa using hp
  simp [hp', asAddr, run_loadVar_row w g t ty cs fr d hg hu hd hi]
end Go.Proofs.Ytihohhjaomoemaa
