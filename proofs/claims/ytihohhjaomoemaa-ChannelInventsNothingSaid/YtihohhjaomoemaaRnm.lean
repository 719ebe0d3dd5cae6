/- The walks over the reference's names: letter, digit, Keyword. -/
import Derived.Test.YtihohhjaomoemaaKey
import Derived.Test.YtihohhjaomoemaaRegC
set_option linter.unusedVariables false
set_option linter.unusedSimpArgs false
namespace Go.Proofs.Ytihohhjaomoemaa
open Go.RowKit

def letterB (c : UInt8) : Bool := decide (97 ≤ c.toNat) && decide (c.toNat ≤ 122)
def digitB (c : UInt8) : Bool := decide (48 ≤ c.toNat) && decide (c.toNat ≤ 57)
theorem letter_any (w : World) (c : UInt8) : Calls Try.prog 37 #[.int .u8 (c.toNat : Int)] w fun e w' => e = .returned (.bool (letterB c)) ∧ w' = w := by
  obtain ⟨r, hr⟩ : ∃ r, letterB c = r := ⟨_, rfl⟩
  rw [hr]
  unfold letterB at hr
  go_enter Try.func37, Try.ntmps37
  by_cases h1 : 97 ≤ c.toNat
  · have h1i : (97 : Int) ≤ (c.toNat : Int) := by omega
    by_cases h2 : c.toNat ≤ 122
    · have h2i : (c.toNat : Int) ≤ 122 := by omega
      obtain rfl : r = true := by rw [← hr]; simp [h1, h2]
      clear hr
      go_wp2_with fail
      go_ret
      exact ⟨rfl, rfl⟩
    · have h2i : ¬ (c.toNat : Int) ≤ 122 := by omega
      obtain rfl : r = false := by rw [← hr]; simp [h2]
      clear hr
      go_wp2_with fail
      go_ret
      exact ⟨rfl, rfl⟩
  · have h1i : ¬ (97 : Int) ≤ (c.toNat : Int) := by omega
    obtain rfl : r = false := by rw [← hr]; simp [h1]
    clear hr
    go_wp2_with fail
    go_ret
    exact ⟨rfl, rfl⟩
theorem digit_any (w : World) (c : UInt8) : Calls Try.prog 38 #[.int .u8 (c.toNat : Int)] w fun e w' => e = .returned (.bool (digitB c)) ∧ w' = w := by
  obtain ⟨r, hr⟩ : ∃ r, digitB c = r := ⟨_, rfl⟩
  rw [hr]
  unfold digitB at hr
  go_enter Try.func38, Try.ntmps38
  by_cases h1 : 48 ≤ c.toNat
  · have h1i : (48 : Int) ≤ (c.toNat : Int) := by omega
    by_cases h2 : c.toNat ≤ 57
    · have h2i : (c.toNat : Int) ≤ 57 := by omega
      obtain rfl : r = true := by rw [← hr]; simp [h1, h2]
      clear hr
      go_wp2_with fail
      go_ret
      exact ⟨rfl, rfl⟩
    · have h2i : ¬ (c.toNat : Int) ≤ 57 := by omega
      obtain rfl : r = false := by rw [← hr]; simp [h2]
      clear hr
      go_wp2_with fail
      go_ret
      exact ⟨rfl, rfl⟩
  · have h1i : ¬ (48 : Int) ≤ (c.toNat : Int) := by omega
    obtain rfl : r = false := by rw [← hr]; simp [h1]
    clear hr
    go_wp2_with fail
    go_ret
    exact ⟨rfl, rfl⟩

set_option maxRecDepth 8000 in
set_option maxHeartbeats 4000000 in
theorem refKeyword_any (w : World) (s : ByteArray) : Calls Try.prog 35 #[.string s] w fun e w' => e = .returned (.bool (kw s.data.toList)) ∧ w' = w := by
  obtain ⟨r, hr⟩ : ∃ r, kw s.data.toList = r := ⟨_, rfl⟩
  rw [hr]
  have HR := Lib.hid hr
  clear hr
  go_enter Try.func35, Try.ntmps35
  go_wp2_with fail
  all_goals
    go_ret
    refine ⟨congrArg (fun b => Ending.returned (.bool b)) ?_, rfl⟩
    have hfin := HR.out
    rw [← ByteArray.toList_eq] at hfin
    unfold kw at hfin
    clear HR
    simp_all [kwords]
end Go.Proofs.Ytihohhjaomoemaa
