/- Cells of a block as facts of a walk's state. Over whatever program. -/
import Derived.Test.YtihohhjaomoemaaSt
import Derived.Test.YtihohhjaomoemaaRegC
set_option linter.unusedVariables false
namespace Go.Proofs.Ytihohhjaomoemaa
open Go.RowKit

/-- A block's cells, as they read. -/
def IsCells (g : Nat) (cs : Array Value) (x : World) : Prop := ∀ j v, cs[j]? = some v → x.cell? ⟨g, j, none⟩ = some v
theorem Mono.cells (g : Nat) (cs : Array Value) : Mono (IsCells g cs) := fun _ _ h p j v hj => h _ _ (p j v hj)
theorem isCells_of {W : World} {g : Nat} {cs : Array Value} {t : TypeId} (h : W.heap[g]? = some (.cells cs t (0, 0))) : IsCells g cs W := fun j v hj => by rw [cell_of_row _ _ _ _ _ _ h]; exact hj
theorem IsCells.c8 {W : World} {g : Nat} {a b c d e f h i : Value} (hh : IsCells g #[a, b, c, d, e, f, h, i] W) :
    W.cell? ⟨g, 0, none⟩ = some a ∧ W.cell? ⟨g, 1, none⟩ = some b ∧ W.cell? ⟨g, 2, none⟩ = some c ∧ W.cell? ⟨g, 3, none⟩ = some d ∧ W.cell? ⟨g, 4, none⟩ = some e ∧ W.cell? ⟨g, 5, none⟩ = some f ∧ W.cell? ⟨g, 6, none⟩ = some h ∧ W.cell? ⟨g, 7, none⟩ = some i :=
  ⟨hh 0 _ rfl, hh 1 _ rfl, hh 2 _ rfl, hh 3 _ rfl, hh 4 _ rfl, hh 5 _ rfl, hh 6 _ rfl, hh 7 _ rfl⟩
theorem IsCells.c3 {W : World} {g : Nat} {a b c : Value} (hh : IsCells g #[a, b, c] W) : W.cell? ⟨g, 0, none⟩ = some a ∧ W.cell? ⟨g, 1, none⟩ = some b ∧ W.cell? ⟨g, 2, none⟩ = some c := ⟨hh 0 _ rfl, hh 1 _ rfl, hh 2 _ rfl⟩
theorem IsCells.c4 {W : World} {g : Nat} {a b c d : Value} (hh : IsCells g #[a, b, c, d] W) : W.cell? ⟨g, 0, none⟩ = some a ∧ W.cell? ⟨g, 1, none⟩ = some b ∧ W.cell? ⟨g, 2, none⟩ = some c ∧ W.cell? ⟨g, 3, none⟩ = some d := ⟨hh 0 _ rfl, hh 1 _ rfl, hh 2 _ rfl, hh 3 _ rfl⟩
section
variable {w0 W : World} {fs : List (World → Prop)}
theorem St.keep (h : St w0 W [] fs) {P : World → Prop} (hm : Mono P) (hP : P W) : St w0 W [] (P :: fs) := h.put hm (hm _ _ (mask_nil _) hP)
theorem St.boxC (h : St w0 W [] fs) (cs : Array Value) (t : TypeId) : St w0 (W.alloc (.cells cs t (0, 0))) [] (IsCells W.heap.size cs :: fs) := (h.box _).keep (Mono.cells _ _) (isCells_of (heap_alloc_new _ _))
theorem St.newC (h : St w0 W [] fs) (cs0 cs : Array Value) (t : TypeId) : St w0 ((W.alloc (.cells cs0 t (0, 0))).setRow W.heap.size cs) [] (IsCells W.heap.size cs :: fs) := by
  have h1 := (h.alloc (.cells cs0 t (0, 0))).setRow (os1 := []) (cs' := cs)
  exact (h1.loose (os1 := [])).keep (Mono.cells _ _) (isCells_of (h1.at_ 0 rfl))
end
end Go.Proofs.Ytihohhjaomoemaa
