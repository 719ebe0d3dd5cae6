/- Opening the arguments of a statement of the second form, with their bulk. -/
import Derived.Test.YtihohhjaomoemaaOpen
import Derived.Test.YtihohhjaomoemaaRows
import Derived.JoinedCond
namespace Go.Proofs.Ytihohhjaomoemaa
open Go.ChangeShapes Go.WideShapes Go.ChangeAt Go.RowKit

theorem bulk_one {H : Type} (d : DataW H) : 1 ≤ Rows.uptoBulk d := by
  cases d with
  | lit l => cases l <;> simp [Rows.uptoBulk]
  | nil => simp [Rows.uptoBulk]
  | ptr d => simp [Rows.uptoBulk]
  | slice elems spare => simp [Rows.uptoBulk]
  | agg parts => simp [Rows.uptoBulk]
  | iface t d => simp [Rows.uptoBulk]
  | map entries => simp [Rows.uptoBulk]
  | held h => simp [Rows.uptoBulk]
theorem bulk_length {H : Type} : ∀ l : List (DataW H), l.length ≤ Rows.uptoBulkAll l
  | [] => by simp [Rows.uptoBulkAll]
  | x :: r => by have := bulk_one x; have := bulk_length r; simp only [Rows.uptoBulkAll, List.length_cons]; omega
theorem bulk_mem {H : Type} {d : DataW H} : ∀ {l : List (DataW H)}, d ∈ l → Rows.uptoBulk d ≤ Rows.uptoBulkAll l
  | [], h => by cases h
  | x :: r, h => by
    simp only [Rows.uptoBulkAll]
    rcases List.mem_cons.1 h with rfl | h
    · omega
    · have := bulk_mem h; omega
theorem bulk_string {H : Type} (l : List UInt8) : Rows.uptoBulk (DataW.lit (H := H) (.string l)) = l.length + 1 := by simp [Rows.uptoBulk]

theorem open_bytes_bulk {H : Type} {enc : TypeId × Value → H} {P : Program} {W : World} {base b0 : Nat} {spare : Nat → Bool} {held : Bool} {t e : TypeId} {v : Value} {d : DataW H} {ps : List MemPlace} (ht : P.underlying t = some (.slice e)) (he : P.underlying e = some (.int .u8)) (hc : P.cellsOf e = 1)
    (hval : Value.okWide P W .any base t v) (h : DataW.Trod enc P W b0 spare held t v d ps) : ∃ l, IsBytes W v l ∧ l.length + 1 ≤ Rows.uptoBulk d := by
  obtain ⟨l, hl⟩ := open_bytes ht he hc hval h
  refine ⟨l, hl, ?_⟩
  obtain ⟨base, cap, rfl, -⟩ := hl.out
  obtain ⟨fuel, hf⟩ := h
  rcases open_ints ht he hc hf with ⟨hcs, _⟩ | ⟨x, l', c, zs, hcs, _, h3, hm, hz, hx, _⟩
  · simp [Value.cells] at hcs
    have hz : l.length = 0 := by rw [hcs.2.1]; rfl
    have := bulk_one d
    omega
  · simp [Value.cells] at hcs
    have hll := hcs.2.1
    simp only [Prod.mk.injEq] at hx
    rw [hx.1]
    have h5 : (lits (H := H) .u8 (zs.take l')).length = l' := by
      have : l' ≤ zs.length := by rw [hz]; split <;> omega
      simp [lits]
      omega
    have h6 := bulk_length (lits (H := H) .u8 (zs.take l'))
    simp only [Rows.uptoBulk]
    omega
end Go.Proofs.Ytihohhjaomoemaa
