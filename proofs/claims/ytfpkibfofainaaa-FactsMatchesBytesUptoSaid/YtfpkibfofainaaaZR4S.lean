/- The specification of package wire: reading strings and frames. -/
import Derived.Test.YtfpkibfofainaaaZR4R
import Derived.Test.YtfpkibfofainaaaZGB
set_option linter.unusedVariables false
namespace Go.Proofs.Ytfpkibfofainaaa
open Go.RowKit

set_option maxRecDepth 8000 in
set_option maxHeartbeats 1000000 in
theorem refReadText_any (w : World) (v : Value) (l : List UInt8) (i : Int) (hv : IsBytes w v l) (hi : i ≤ 9223372036854775807) (hll : l.length ≤ 140737488355328) :
    Calls Try.prog 74 #[v, .int .i64 i] w fun e w' => e = .returned (.tuple #[.string ⟨(Wire.readT l i).1.toArray⟩, .int .i64 (Wire.readT l i).2.1, .int .i64 (Wire.readT l i).2.2]) ∧ w' = w := by
  obtain ⟨bs, q, rfl, hlen, hcap, -, -⟩ := hv.out
  unfold maxLen at hcap
  go_enter Try.func74, Try.ntmps74
  go_wp2_with fail
  refine (refReadUint_any w _ l i hv hi hll).mono ?_
  rintro e w1 ⟨rfl, rfl⟩
  rcases readU_cases l i with ⟨c, hc, h⟩ | ⟨j, m, n, rfl, hjm, hml, h, hn, hpart⟩
  · have h2 := readT_err h hc
    have H2 := Lib.hid h2
    rw [h]
    clear h h2
    go_wp2_with fail
    go_ret3
    exact ⟨by rw [H2.out]; rfl, rfl⟩
  · have h2 := readT_ok h hjm hml
    rw [h]
    by_cases hs : l.length - m < n
    · rw [if_pos hs] at h2
      have H2 := Lib.hid h2
      have hsi : (l.length : Int) - (m : Int) < (n : Int) := by omega
      have hs0 : (0 : Int) ≤ (l.length : Int) - (m : Int) := by omega
      clear h h2 hpart
      go_wp2_with fail
      go_ret3
      exact ⟨by rw [H2.out]; rfl, rfl⟩
    · rw [if_neg hs] at h2
      have hp := hv.part m (m + n) q (by omega) (by omega) (by omega) (Nat.le_refl _)
      have hcut : (l.take (m + n)).drop m = (l.drop m).take n := by rw [List.drop_take, Nat.add_sub_cancel_left]
      rw [hcut] at hp
      obtain ⟨P, hP⟩ : ∃ P, m + n = P := ⟨_, rfl⟩
      rw [hP] at hp h2
      have cs := str_of hp
      have CS := Lib.hid cs
      have H2 := Lib.hid h2
      have hsi : ¬ (l.length : Int) - (m : Int) < (n : Int) := by omega
      have hs0 : (0 : Int) ≤ (l.length : Int) - (m : Int) := by omega
      have e1 : (m : Int) + (n : Int) = (P : Int) := by omega
      have x1 : (m : Int) ≤ (P : Int) := by omega
      have x2 : (P : Int) ≤ (q : Int) := by omega
      have x3 : (n : Int) ≤ 140737488355328 := by omega
      have HPP := Lib.hid hP
      clear h h2 hpart hp hcut cs hP hs
      go_wp2_with (rw [CS.out])
      all_goals
        go_ret3
        exact ⟨by rw [H2.out]; rfl, rfl⟩

end Go.Proofs.Ytfpkibfofainaaa
