/- Opening byte slices and slices of byte slices, with their bulk. -/
import Derived.Test.YtihohhjaomoemaaOpenU
import Derived.Test.YtihohhjaomoemaaOpenQ
namespace Go.Proofs.Ytihohhjaomoemaa
open Go.ChangeShapes Go.WideShapes Go.ChangeAt Go.RowKit

section
variable {H : Type} {enc : TypeId × Value → H} {P : Program} {W : World} {base b0 : Nat} {spare : Nat → Bool} {held : Bool} {t e e2 : TypeId} {v : Value} {d : DataW H} {ps : List MemPlace}
theorem bytes_bulk {d : DataW H} {l : List UInt8} (h : (d = .nil ∧ l = []) ∨ ∃ ds sp, d = .slice ds sp ∧ ds.length = l.length) : l.length + 1 ≤ Rows.uptoBulk d := by
  rcases h with ⟨rfl, rfl⟩ | ⟨ds, sp, rfl, h⟩
  · simp [Rows.uptoBulk]
  · have := bulk_length ds
    simp only [Rows.uptoBulk]
    omega
/-- A slice's elements, each of less bulk than the whole. -/
theorem seq_bulk {α : Type} {d : DataW H} {l : List α} {Q : DataW H → α → Prop} (h : (d = .nil ∧ l = []) ∨ ∃ ds sp, d = .slice ds sp ∧ ds.length = l.length ∧ ∀ i (h : i < l.length), ∃ d, ds[i]? = some d ∧ Q d l[i]) :
    l.length + 1 ≤ Rows.uptoBulk d ∧ ∀ a ∈ l, ∃ d', Q d' a ∧ Rows.uptoBulk d' + 1 ≤ Rows.uptoBulk d := by
  rcases h with ⟨rfl, rfl⟩ | ⟨ds, sp, rfl, h, hq⟩
  · exact ⟨by simp [Rows.uptoBulk], fun a ha => by simp at ha⟩
  · refine ⟨by have := bulk_length ds; simp only [Rows.uptoBulk]; omega, fun a ha => ?_⟩
    obtain ⟨i, hi, rfl⟩ := List.getElem_of_mem ha
    obtain ⟨d', h1, h2⟩ := hq i hi
    refine ⟨d', h2, ?_⟩
    have := bulk_mem (List.mem_of_getElem? h1)
    simp only [Rows.uptoBulk]
    omega
theorem open_lists_bulk (ht : P.underlying t = some (.slice e)) (he : P.underlying e = some (.slice e2)) (he2 : P.underlying e2 = some (.int .u8)) (hc : P.cellsOf e = 1) (hc2 : P.cellsOf e2 = 1)
    (hval : Value.okWide P W .any base t v) (h : DataW.Trod enc P W b0 spare held t v d ps) : ∃ ll, IsLists W v ll ∧ ll.length + 1 ≤ Rows.uptoBulk d ∧ ∀ l ∈ ll, l.length ≤ Rows.uptoBulk d := by
  obtain ⟨a, len, cap, rfl⟩ := okWide_slice ht hval
  obtain ⟨n, hf⟩ := top_slice h rfl
  obtain ⟨v, ll, h1, h2, h3⟩ := trod_seq (R := rdBytes) (Q := fun d l => l.length + 1 ≤ Rows.uptoBulk d) ht hc (by omega) (fun n cs x hx => by
    obtain ⟨u, l, h1, h2, h3⟩ := trod_bytes he he2 hc2 hx
    exact ⟨l, ⟨u, h1, h2⟩, bytes_bulk h3⟩) hf
  cases h1
  obtain ⟨h4, h5⟩ := seq_bulk (d := d) (Q := fun d (l : List UInt8) => l.length + 1 ≤ Rows.uptoBulk d) h3
  refine ⟨ll, h2.lists, h4, fun l hl => ?_⟩
  obtain ⟨d', h6, h7⟩ := h5 l hl
  omega
end
end Go.Proofs.Ytihohhjaomoemaa
