/- What the laws of chapter 40 say of lists: plain. -/
import Derived.Test.YtihohhjaomoemaaLs40
import Derived.Test.YtihohhjaomoemaaLp40
set_option linter.unusedVariables false
set_option linter.unusedSimpArgs false
namespace Go.Proofs.Ytihohhjaomoemaa
open Go Go.RowKit

theorem delR_in {l : List Pk} {i : Nat} (h : i < l.length) : delR l (i : Int) = (l.eraseIdx i, l[i], 0) := by
  unfold delR
  rw [if_pos ⟨by omega, by omega⟩, Int.toNat_natCast, List.getD_eq_getElem?_getD, List.getElem?_eq_getElem h]
  rfl
theorem dropR_in {l : List Pk} {i : Nat} (h : i < l.length) : dropR l (i : Int) = (l.eraseIdx i, 0) := by unfold dropR; rw [delR_in h]
theorem delR_out {l : List Pk} {n : Int} (h : ¬ (0 ≤ n ∧ n < l.length)) : delR l n = ([], Pk.zero, 4) := if_neg h
theorem dropR_out {l : List Pk} {n : Int} (h : ¬ (0 ≤ n ∧ n < l.length)) : dropR l n = ([], 4) := by unfold dropR; rw [delR_out h]
theorem copyR_in {l : List Pk} {i : Nat} (h : i < l.length) : copyR l (i : Int) = sendR l l[i] := by
  unfold copyR
  rw [if_pos ⟨by omega, by omega⟩, Int.toNat_natCast, List.getD_eq_getElem?_getD, List.getElem?_eq_getElem h]
  rfl
theorem copyR_out {l : List Pk} {n : Int} (h : ¬ (0 ≤ n ∧ n < l.length)) : copyR l n = ([], 4) := if_neg h
theorem chk_len {l : List Pk} (h : chCheck l = 0) : l.length ≤ 1024 := by
  unfold chCheck at h
  split at h
  · cases h
  · omega
theorem chk_all {l : List Pk} (h : chCheck l = 0) : ∀ p ∈ l, p.formed = true := by
  unfold chCheck at h
  split at h
  · cases h
  · split at h
    · rename_i hh; exact List.all_eq_true.1 hh
    · cases h
theorem sendR_ok {l : List Pk} {p : Pk} (h : p.formed = true) : sendR l p = if 1024 ≤ l.length then ([], 2) else (l ++ [p], 0) := by
  unfold sendR
  rw [if_neg (by rw [h]; decide)]
theorem erase_comm {α : Type} (l : List α) {i j : Nat} (h : i < j) : (l.eraseIdx i).eraseIdx (j - 1) = (l.eraseIdx j).eraseIdx i := by
  apply List.ext_getElem?
  intro k
  simp only [List.getElem?_eraseIdx]
  repeat' split
  all_goals first | rfl | omega | (congr 1; omega)
theorem erase_last {α : Type} (l : List α) (x : α) : (l ++ [x]).eraseIdx l.length = l := by
  rw [List.eraseIdx_append_of_length_le (Nat.le_refl _)]
  simp
theorem getElem_erase_lt {α : Type} (l : List α) {i j : Nat} (h : i < j) (hj : j < l.length) : (l.eraseIdx j)[i]'(by rw [List.length_eraseIdx_of_lt hj]; omega) = l[i]'(by omega) := by
  rw [List.getElem_eraseIdx_of_lt _ h]
theorem erase_len {α : Type} {l : List α} {i n : Nat} (hn : l.length = n) (h : i < n) : (l.eraseIdx i).length = n - 1 := by rw [List.length_eraseIdx_of_lt (by omega), hn]
end Go.Proofs.Ytihohhjaomoemaa
