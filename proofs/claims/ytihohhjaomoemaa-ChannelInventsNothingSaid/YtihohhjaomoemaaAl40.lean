/- What ChannelInventsNothing keeps, in plain Lean. -/
import Derived.Test.YtihohhjaomoemaaCt40
set_option linter.unusedVariables false
namespace Go.Proofs.Ytihohhjaomoemaa
open Go Go.RowKit

/-- What came in is what went out and what is still there. -/
def Kept (a o c : List Pk) : Prop := a.Perm (o ++ c)
theorem Kept.nil : Kept [] [] [] := List.Perm.refl _
theorem Kept.more {a o c : List Pk} (h : Kept a o c) (p : Pk) : Kept (a ++ [p]) o (c ++ [p]) := by
  unfold Kept at *
  rw [← List.append_assoc]
  exact h.append_right _
theorem Kept.less {a o c : List Pk} (h : Kept a o c) {i : Nat} (hi : i < c.length) : Kept a (o ++ [c[i]]) (c.eraseIdx i) := by
  unfold Kept at *
  refine h.trans ?_
  rw [List.append_assoc]
  refine List.Perm.append_left _ ?_
  have h1 : c = c.take i ++ c[i] :: c.drop (i + 1) := by rw [← List.drop_eq_getElem_cons hi, List.take_append_drop]
  rw [List.eraseIdx_eq_take_drop_succ]
  generalize c[i] = x at *
  rw [h1]
  simp only [List.cons_append, List.nil_append]
  refine List.perm_middle.trans ?_
  have e1 : (c.take i ++ x :: c.drop (i + 1)).take i = c.take i := by rw [← h1]
  have e2 : (c.take i ++ x :: c.drop (i + 1)).drop (i + 1) = c.drop (i + 1) := by rw [← h1]
  rw [e1, e2]
theorem Kept.len {a o c : List Pk} (h : Kept a o c) : a.length = o.length + c.length := by rw [List.Perm.length_eq h, List.length_append]
theorem Kept.cnt {a o c : List Pk} (h : Kept a o c) (p : Pk) : cntR a p = cntR o p + cntR c p := by
  unfold cntR
  rw [List.Perm.countP_eq _ h, List.countP_append]
end Go.Proofs.Ytihohhjaomoemaa
