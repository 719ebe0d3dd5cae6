/- Small words. -/
import Derived.Test.YtihohhjaomoemaaChecked
import Derived.Test.YtihohhjaomoemaaVal
import Derived.Test.YtihohhjaomoemaaMask
set_option linter.unusedVariables false
namespace Go.Proofs.Ytihohhjaomoemaa
open Go.RowKit

theorem size_zero {s : ByteArray} (h : s.size = 0) : s = ⟨#[]⟩ := by
  cases s with
  | mk a =>
    congr
    exact Array.eq_empty_of_size_eq_zero h
theorem toList_ne {s : ByteArray} (h : s.size ≠ 0) : s.toList.isEmpty = false := by
  rw [ByteArray.toList_eq, List.isEmpty_eq_false_iff]
  intro e
  exact h (by have := congrArg List.length e; simpa using this)
theorem bne_of {n m : Int} (h : ¬ n = m) : (n != m) = true := by simp [h]
theorem beq_of {n m : Int} (h : ¬ n = m) : (n == m) = false := by simp [h]
end Go.Proofs.Ytihohhjaomoemaa
