/- Facts: plain. -/
import Derived.Test.YtihohhjaomoemaaKey
import Derived.Test.YtihohhjaomoemaaSt
import Derived.Test.YtihohhjaomoemaaSeq
import Derived.Deep.Light
set_option linter.unusedVariables false
namespace Go.Proofs.Ytihohhjaomoemaa
open Go.RowKit

/-- A fact. -/
structure Fc where
  src : ByteArray
  seq : Int
  kind : Int
  ref : Int
  table : ByteArray
  key : ByteArray
  event : Int
  fields : List Vl
def rdVal : Rd Vl := fun _ cs v => cs = v.cells
theorem rdVal_up : rdVal.Up := fun _ _ _ _ _ h => h
abbrev IsVals (w : World) (v : Value) (l : List Vl) : Prop := IsSeq 3 rdVal w v l
@[reducible] def Fc.cellsA (f : Fc) (v : Value) : Array Value := #[.string f.src, .int .i64 f.seq, .int .i64 f.kind, .int .i64 f.ref, .string f.table, .string f.key, .int .i64 f.event, v]
@[reducible] def Fc.val (f : Fc) (v : Value) : Value := .agg (f.cellsA v)
theorem size0_isEmpty (s : ByteArray) : decide (s.size = 0) = s.toList.isEmpty := by
  by_cases h : s.size = 0
  · obtain rfl := size_zero h; rw [ByteArray.toList_eq]; rfl
  · rw [toList_ne h, decide_eq_false h]
theorem dec_beq (n m : Int) : decide (n = m) = (n == m) := by rw [Bool.eq_iff_iff]; simp
theorem dec_beqN (m : Nat) : decide (m = 0) = ((m : Int) == 0) := by rw [Bool.eq_iff_iff]; simp
theorem cells8 {W : World} {g : Nat} {a b c d e f h i : Value} {t : TypeId} (hh : W.heap[g]? = some (.cells #[a, b, c, d, e, f, h, i] t (0, 0))) :
    W.cell? ⟨g, 0, none⟩ = some a ∧ W.cell? ⟨g, 1, none⟩ = some b ∧ W.cell? ⟨g, 2, none⟩ = some c ∧ W.cell? ⟨g, 3, none⟩ = some d ∧ W.cell? ⟨g, 4, none⟩ = some e ∧ W.cell? ⟨g, 5, none⟩ = some f ∧ W.cell? ⟨g, 6, none⟩ = some h ∧ W.cell? ⟨g, 7, none⟩ = some i := by
  refine ⟨?_, ?_, ?_, ?_, ?_, ?_, ?_, ?_⟩ <;> rw [cell_of_row _ _ _ _ _ _ hh] <;> rfl
theorem HasMax.below {B : Nat} {w w' : World} (h : HasMax w) (hb : Below B w w') (hB : B = w.heap.size) : HasMax w' := by
  obtain ⟨m, hm⟩ := h
  exact ⟨m, (Sub.below hb hB) _ _ hm⟩
end Go.Proofs.Ytihohhjaomoemaa
