/- The walks over the reference's Check, Valid, Has. -/
import Derived.Test.YtfpkibfofainaaaZRvl
import Derived.Test.YtfpkibfofainaaaZGB
set_option linter.unusedVariables false
set_option linter.unusedSimpArgs false
namespace Go.Proofs.Ytfpkibfofainaaa
open Go.RowKit

set_option maxRecDepth 8000 in
set_option maxHeartbeats 4000000 in
theorem refCheck_any (w : World) (v : Vl) : Calls Try.prog 78 #[v.val] w fun e w' => e = .returned (.int .i64 v.check) ∧ Below w.heap.size w w' := by
  rw [check_ref]
  obtain ⟨k, n, s⟩ := v
  obtain ⟨fb, hfb⟩ : ∃ b, fieldsB ⟨k, n, s⟩ = b := ⟨_, rfl⟩
  obtain ⟨ir, hir⟩ : ∃ b, inRangeB n = b := ⟨_, rfl⟩
  simp only [Vl.val]
  rw [hfb, hir]
  have HFB := Lib.hid hfb
  have HIR := Lib.hid hir
  clear hfb hir
  have h0 := (St.start w).alloc (.cells #[.int .i64 k, .int .i64 n, .string s] 57)
  obtain ⟨r, hr⟩ : ∃ r : Int, (if fb = false then (1 : Int) else if ir = false ∨ (k = 4 ∧ 64 < s.size) ∨ (k = 5 ∧ 32 < s.size) then 2 else if (k = 4 ∧ textB s = false) ∨ (k = 5 ∧ keyB s = false) then 3 else 0) = r := ⟨_, rfl⟩
  rw [hr]
  have HR := Lib.hid hr
  clear hr
  go_enter Try.func78, Try.ntmps78
  go_wp2_with fail
  refine (Calls.sV h0 (refFields_any _ ⟨k, n, s⟩)).mono ?_
  rintro e w1 ⟨rfl, h1⟩
  rw [HFB.out]
  clear h0
  cases fb with
  | false =>
    have hr : r = 1 := by rw [← HR.out]; rfl
    have HV := Lib.hid hr
    clear hr
    go_wp2_with fail
    go_ret
    exact ⟨by rw [HV.out]; rfl, h1.below⟩
  | true =>
    obtain ⟨c0, c1, c2⟩ := cells3 (h1.at_ 0 rfl)
    go_wp2_with fail
    refine (inRange_any _ n).mono ?_
    rintro e w2 ⟨rfl, rfl⟩
    rw [HIR.out]
    cases ir with
    | false =>
      have hr : r = 2 := by rw [← HR.out]; rfl
      have HV := Lib.hid hr
      clear hr
      go_wp2_with fail
      go_ret
      exact ⟨by rw [HV.out]; rfl, h1.below⟩
    | true =>
      have hr := HR.out
      simp only [Bool.true_eq_false, false_or, if_false] at hr
      by_cases k4 : k = 4
      · subst k4
        by_cases hs : 64 < s.size
        · have hv : r = 2 := by rw [← hr]; simp [hs]
          have hsi : (64 : Int) < (s.size : Int) := by omega
          have HV := Lib.hid hv
          clear hr hv hs
          go_wp2_with fail
          go_ret
          exact ⟨by rw [HV.out]; rfl, h1.below⟩
        · have hsi : ¬ (64 : Int) < (s.size : Int) := by omega
          have hv : r = if textB s = false then 3 else 0 := by rw [← hr]; simp [hs]
          have HV := Lib.hid hv
          clear hr hv hs
          go_wp2_with fail
          refine (refText_any _ s).mono ?_
          rintro e w2 ⟨rfl, rfl⟩
          have hv := HV.out
          cases ht : textB s <;> rw [ht] at hv <;> simp at hv
          all_goals
            have HV2 := Lib.hid hv
            clear hv
            go_wp2_with fail
            go_ret
            exact ⟨by rw [HV2.out]; rfl, h1.below⟩
      · have k4' := beq_of k4
        by_cases k5 : k = 5
        · subst k5
          clear k4 k4'
          by_cases hs : 32 < s.size
          · have hv : r = 2 := by rw [← hr]; simp [hs]
            have hsi : (32 : Int) < (s.size : Int) := by omega
            have HV := Lib.hid hv
            clear hr hv hs
            go_wp2_with fail
            go_ret
            exact ⟨by rw [HV.out]; rfl, h1.below⟩
          · have hsi : ¬ (32 : Int) < (s.size : Int) := by omega
            have hv : r = if keyB s = false then 3 else 0 := by rw [← hr]; simp [hs]
            have HV := Lib.hid hv
            clear hr hv hs
            go_wp2_with fail
            refine (refKey_any _ s).mono ?_
            rintro e w2 ⟨rfl, rfl⟩
            have hv := HV.out
            cases ht : keyB s <;> rw [ht] at hv <;> simp at hv
            all_goals
              have HV2 := Lib.hid hv
              clear hv
              go_wp2_with fail
              go_ret
              exact ⟨by rw [HV2.out]; rfl, h1.below⟩
        · have k5' := beq_of k5
          have hv : r = 0 := by rw [← hr]; simp [k4, k5]
          have HV := Lib.hid hv
          clear hr hv k4 k5
          go_wp2_with fail
          go_ret
          exact ⟨by rw [HV.out]; rfl, h1.below⟩
theorem dec_beqI (n m : Int) : decide (n = m) = (n == m) := by rw [Bool.eq_iff_iff]; simp
set_option maxRecDepth 8000 in
theorem refValid_any (w : World) (v : Vl) : Calls Try.prog 71 #[v.val] w fun e w' => e = .returned (.bool (v.check == 0)) ∧ Below w.heap.size w w' := by
  obtain ⟨k, n, s⟩ := v
  have h0 := (St.start w).alloc (.cells #[.int .i64 k, .int .i64 n, .string s] 57)
  obtain ⟨c, hc⟩ : ∃ c, Vl.check ⟨k, n, s⟩ = c := ⟨_, rfl⟩
  rw [hc]
  have HC := Lib.hid hc
  clear hc
  go_enter Try.func71, Try.ntmps71
  go_wp2_with fail
  refine (Calls.sV h0 (refCheck_any _ ⟨k, n, s⟩)).mono ?_
  rintro e w1 ⟨rfl, h1⟩
  rw [HC.out]
  go_wp2_with fail
  go_ret
  exact ⟨rfl, h1.below⟩
set_option maxRecDepth 8000 in
set_option maxHeartbeats 1000000 in
theorem refHas_any (w : World) (v : Vl) (k : Int) (u : Value) (o : ByteArray) : Calls Try.prog 54 #[v.val, .agg #[.int .i64 k, u, .string o]] w fun e w' => e = .returned (.bool (v.has k)) ∧ Below w.heap.size w w' := by
  obtain ⟨vk, n, s⟩ := v
  have h0 := ((St.start w).alloc (.cells #[.int .i64 vk, .int .i64 n, .string s] 57)).alloc (.cells #[.int .i64 k, u, .string o] 60)
  simp only [al_size] at h0
  obtain ⟨r, hr⟩ : ∃ r, Vl.has ⟨vk, n, s⟩ k = r := ⟨_, rfl⟩
  rw [hr]
  unfold Vl.has at hr
  simp only at hr
  go_enter Try.func54, Try.ntmps54
  go_wp2_with fail
  refine (Calls.sV h0 (refValid_any _ ⟨vk, n, s⟩)).mono ?_
  rintro e w1 ⟨rfl, h1⟩
  obtain ⟨c, hc⟩ : ∃ c, Vl.check ⟨vk, n, s⟩ = c := ⟨_, rfl⟩
  rw [hc] at hr ⊢
  clear hc h0
  obtain ⟨c0, c1, c2⟩ := cells3 (h1.at_ 1 rfl)
  obtain ⟨d0, d1, d2⟩ := cells3 (h1.at_ 0 rfl)
  have HR := Lib.hid hr
  clear hr
  go_wp2_with fail
  all_goals
    go_ret
    refine ⟨congrArg (fun b => Ending.returned (.bool b)) ?_, h1.below⟩
    have hfin := HR.out
    clear h1 HR c0 c1 c2 d0 d1 d2
    rw [← hfin]
    simp_all [dec_beqI]
end Go.Proofs.Ytfpkibfofainaaa
