/- The walks over package wal: needs, fits, read's inner function. -/
import Derived.Test.YtnfgapdpnihicaaZGF
import Derived.Test.YtnfgapdpnihicaaZGB
set_option linter.unusedVariables false
set_option linter.unusedSimpArgs false
namespace Go.Proofs.Ytnfgapdpnihicaa
open Go Go.RowKit

theorem needs_any (w : World) (n : Nat) (hn : n ≤ 4611686018427387904) :
    Calls Try.prog 48 #[.int .i64 n] w fun e w' => e = .returned (.int .i64 (Wl.needs n : Int)) ∧ w' = w := by
  go_enter Try.func48, Try.ntmps48
  obtain ⟨m, hm⟩ : ∃ m, Wl.needs n = m := ⟨_, rfl⟩
  have hm' : m = 1 + n / 128 := hm.symm
  rw [hm]
  have HM := Lib.hid hm'
  clear hm hm'
  by_cases h : n ≤ 127
  · obtain rfl : m = 1 := by have := HM.out; omega
    go_wp2_with fail
    go_ret
    exact ⟨rfl, rfl⟩
  · have hw1 : IntKind.i64.wrap ((n : Int) - 127) = (n : Int) - 127 := by rw [IntKind.wrap_i64]; omega
    have hw2 : IntKind.i64.wrap ((n : Int) - 127 + 128) = (n : Int) + 1 := by rw [IntKind.wrap_i64]; omega
    have hw3 : IntKind.i64.wrap ((n : Int) + 1 - 1) = (n : Int) := by rw [IntKind.wrap_i64]; omega
    go_wp2_with fail
    go_ret
    obtain rfl : m = 1 + n / 128 := HM.out
    exact ⟨rfl, rfl⟩
theorem Mono.dk (v : Value) (d : Dk) : Mono (IsDk · v d) := fun _ _ k h => h.sub k
set_option maxHeartbeats 1000000 in
theorem fits_any (w : World) (v : Value) (d : Dk) (hv : IsDk w v d) (f m : Int) (hf : -9223372036854775808 ≤ f ∧ f ≤ 9223372036854775807) (hm : -9223372036854775808 ≤ m ∧ m ≤ 9223372036854775807) :
    Calls Try.prog 44 #[v, .int .i64 f, .int .i64 m] w fun e w' => e = .returned (.bool (d.fits f m)) ∧ Below w.heap.size w w' := by
  obtain ⟨r, hr⟩ : ∃ r, d.fits f m = r := ⟨_, rfl⟩
  rw [hr]
  unfold Dk.fits at hr
  have hv' := hv
  obtain ⟨sv, rfl, hl⟩ := hv
  obtain ⟨bs, q, rfl, hq1, hq2, -, -⟩ := hl.out
  unfold maxLen at hq2
  obtain ⟨n, hn⟩ : ∃ n, d.sec.length = n := ⟨_, rfl⟩
  obtain ⟨c, hc⟩ : ∃ c, d.valid = c := ⟨_, rfl⟩
  rw [hn, hc] at hr
  simp only [dkV] at hv' ⊢
  rw [hn] at hv' hq1 ⊢
  have HC := Lib.hid hc
  have h0 := ((St.start w).putOld (Mono.dk _ _) hv').boxC #[.slice bs n q, .int .i64 d.left, .int .i64 d.tear, .bool d.stopped] 24
  clear hv' hl hc hn
  generalize d.left = left at h0 ⊢
  generalize d.tear = tear at h0 ⊢
  generalize d.stopped = st at h0 ⊢
  have hc4 := (h0.is 0 rfl : IsCells _ _ _).c4
  obtain ⟨c0, c1, c2, c3⟩ := hc4
  have HR := Lib.hid hr
  clear hr
  go_enter Try.func44, Try.ntmps44
  go_wp2_with fail
  refine (Calls.sV h0 (check_any _ _ d (h0.is 1 rfl))).mono ?_
  rintro e w1 ⟨rfl, h1⟩
  rw [HC.out]
  clear h0 c0 c1 c2 c3
  obtain ⟨c0, c1, c2, c3⟩ := (h1.is 0 rfl : IsCells _ _ _).c4
  have hr := HR.out
  cases c with
  | false =>
    obtain rfl : false = r := hr
    go_wp2_with fail
    go_ret
    exact ⟨rfl, h1.below⟩
  | true =>
    rw [Bool.true_and] at hr
    by_cases k1 : 0 ≤ f
    · by_cases k2 : 1 ≤ m
      · by_cases k3 : f < n
        · have hw : IntKind.i64.wrap ((n : Int) - f) = (n : Int) - f := by rw [IntKind.wrap_i64]; omega
          by_cases k4 : m ≤ (n : Int) - f
          · obtain rfl : true = r := by rw [← hr]; exact (decide_eq_true ⟨k1, k2, k3, k4⟩).symm
            go_wp2_with fail
            go_ret
            exact ⟨rfl, h1.below⟩
          · obtain rfl : false = r := by rw [← hr]; exact (decide_eq_false fun h => k4 h.2.2.2).symm
            go_wp2_with fail
            go_ret
            rw [show decide (m ≤ (n : Int) - f) = false from decide_eq_false (by omega)]
            exact ⟨rfl, h1.below⟩
        · obtain rfl : false = r := by rw [← hr]; exact (decide_eq_false fun h => k3 h.2.2.1).symm
          go_wp2_with fail
          go_ret
          exact ⟨rfl, h1.below⟩
      · obtain rfl : false = r := by rw [← hr]; exact (decide_eq_false fun h => k2 h.2.1).symm
        go_wp2_with fail
        go_ret
        exact ⟨rfl, h1.below⟩
    · obtain rfl : false = r := by rw [← hr]; exact (decide_eq_false fun h => k1 h.1).symm
      go_wp2_with fail
      go_ret
      exact ⟨rfl, h1.below⟩
end Go.Proofs.Ytnfgapdpnihicaa
