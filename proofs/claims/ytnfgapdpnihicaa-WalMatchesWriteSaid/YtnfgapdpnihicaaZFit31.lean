/- The walks over asofref31.Fits and asofref30.Restart, at every disk. -/
import Derived.Test.YtnfgapdpnihicaaZVal31
set_option linter.unusedVariables false
set_option linter.unusedSimpArgs false
namespace Go.Proofs.Ytnfgapdpnihicaa
open Go Go.RowKit

set_option maxHeartbeats 1000000 in
theorem refFits_any (w : World) (v : Value) (d : Dk) (hv : IsDk w v d) (f m : Int) (hf : -9223372036854775808 ≤ f ∧ f ≤ 9223372036854775807) (hm : -9223372036854775808 ≤ m ∧ m ≤ 9223372036854775807) :
    Calls Try.prog 27 #[v, .int .i64 f, .int .i64 m] w fun e w' => e = .returned (.bool (d.fits f m)) ∧ Below w.heap.size w w' := by
  obtain ⟨r, hr⟩ : ∃ r, d.fits f m = r := ⟨_, rfl⟩
  rw [hr]
  unfold Dk.fits at hr
  have hv' := hv
  obtain ⟨sv, rfl, hl⟩ := hv
  obtain ⟨bs, q, rfl, hq1, hq2, -, -⟩ := hl.out
  unfold maxLen at hq2
  obtain ⟨n, hn⟩ : ∃ n, d.sec.length = n := ⟨_, rfl⟩
  obtain ⟨c, hc⟩ : ∃ c, d.valid = c := ⟨_, rfl⟩
  rw [hn, hc] at hr
  simp only [dkV] at hv' ⊢
  rw [hn] at hv' hq1 ⊢
  have HC := Lib.hid hc
  have h0 := ((St.start w).putOld (Mono.dk _ _) hv').boxC #[.slice bs n q, .int .i64 d.left, .int .i64 d.tear, .bool d.stopped] 24
  clear hv' hl hc hn
  generalize d.left = left at h0 ⊢
  generalize d.tear = tear at h0 ⊢
  generalize d.stopped = st at h0 ⊢
  have hc4 := (h0.is 0 rfl : IsCells _ _ _).c4
  obtain ⟨c0, c1, c2, c3⟩ := hc4
  have HR := Lib.hid hr
  clear hr
  go_enter Try.func27, Try.ntmps27
  go_wp2_with fail
  refine (Calls.sV h0 (refVal_any _ _ d (h0.is 1 rfl))).mono ?_
  rintro e w1 ⟨rfl, h1⟩
  rw [HC.out]
  clear h0 c0 c1 c2 c3
  obtain ⟨c0, c1, c2, c3⟩ := (h1.is 0 rfl : IsCells _ _ _).c4
  have hr := HR.out
  cases c with
  | false =>
    obtain rfl : false = r := hr
    go_wp2_with fail
    go_ret
    exact ⟨rfl, h1.below⟩
  | true =>
    rw [Bool.true_and] at hr
    by_cases k1 : 0 ≤ f
    · by_cases k2 : 1 ≤ m
      · by_cases k3 : f < n
        · have hw : IntKind.i64.wrap ((n : Int) - f) = (n : Int) - f := by rw [IntKind.wrap_i64]; omega
          by_cases k4 : m ≤ (n : Int) - f
          · obtain rfl : true = r := by rw [← hr]; exact (decide_eq_true ⟨k1, k2, k3, k4⟩).symm
            go_wp2_with fail
            go_ret
            exact ⟨rfl, h1.below⟩
          · obtain rfl : false = r := by rw [← hr]; exact (decide_eq_false fun h => k4 h.2.2.2).symm
            go_wp2_with fail
            go_ret
            rw [show decide (m ≤ (n : Int) - f) = false from decide_eq_false (by omega)]
            exact ⟨rfl, h1.below⟩
        · obtain rfl : false = r := by rw [← hr]; exact (decide_eq_false fun h => k3 h.2.2.1).symm
          go_wp2_with fail
          go_ret
          exact ⟨rfl, h1.below⟩
      · obtain rfl : false = r := by rw [← hr]; exact (decide_eq_false fun h => k2 h.2.1).symm
        go_wp2_with fail
        go_ret
        exact ⟨rfl, h1.below⟩
    · obtain rfl : false = r := by rw [← hr]; exact (decide_eq_false fun h => k1 h.1).symm
      go_wp2_with fail
      go_ret
      exact ⟨rfl, h1.below⟩
set_option maxHeartbeats 1000000 in
theorem refRestart_all (S : Nat → Bool) (w : World) (v : Value) (d : Dk) (hvm : IsDk (mask S w) v d) :
    Calls Try.prog 26 #[v] w fun e w' => ∃ v', e = .returned v' ∧ IsDk (mask S w') v' d.restart ∧ Below w.heap.size w w' := by
  obtain ⟨sv, rfl, hlm⟩ := hvm
  have hl := hlm.sub (mask_is S w)
  have hv' : IsDk w _ d := ⟨sv, rfl, hl⟩
  have HLM := Lib.hid hlm
  clear hlm
  have hB0 : Below w.heap.size w ((w.alloc (.cells #[sv, .int .i64 d.left, .int .i64 d.tear, .bool d.stopped] 24)).alloc (.cells #[.slice none 0 0, .int .i64 0, .int .i64 0, .bool false] 24)) := ((Below.refl _ _).alloc (Nat.le_refl _) _).alloc (by simp) _
  have hv0 := hv'.below hB0 rfl
  have HL := Lib.hid hl
  have hc := refVal_any _ _ d hv0
  obtain ⟨base, cap, rfl, hl1, hcap, -, -⟩ := hl.out
  unfold maxLen at hcap
  obtain ⟨vd, hvd⟩ : ∃ x, d.valid = x := ⟨_, rfl⟩
  have hrd : d.restart = if vd then { d with left := -1, tear := 0, stopped := false } else Dk.zero := by unfold Dk.restart; rw [hvd]
  generalize d.restart = R at hrd ⊢
  have HRD := Lib.hid hrd
  rw [hvd] at hc
  have HVD := Lib.hid hvd
  clear hrd hvd
  clear hv' hv0 hl
  simp only [dkV] at *
  go_enter Try.func26, Try.ntmps26
  go_wp2_with fail
  refine hc.mono ?_
  rintro e w1 ⟨rfl, hb1⟩
  have hrs := box2_b hb1
  obtain ⟨c0, c1, c2, c3, f1, f2⟩ := dkO_cells (box2_a hb1)
  cases vd with
  | false =>
    have e := HRD.out
    rw [if_neg (by decide)] at e
    subst e
    clear HRD
    go_wp2_with (refine wpList_store_row rfl 24 (.tmp 2) (.tmp 6) rfl (w.heap.size + 1) #[.slice none 0 0, .int .i64 0, .int .i64 0, .bool false] rfl rfl 24 _ hrs disk_info rfl (one4 rfl _ _ _) ?_)
    try simp only [Exit.inBlock, Exit.then]
    have hbz := below_setRow (hB0.trans (hb1.mono hB0.size)) (Nat.le_succ w.heap.size) #[.slice none 0 0, .int .i64 0, .int .i64 0, .bool false]
    exact ret_disk1 (w.heap.size + 1) (.slice none 0 0) 0 0 false rfl rfl (setRow_heap _ _ _ _ _ _ hrs) rfl ⟨_, rfl, dk_zero _, hbz⟩
  | true =>
    have e := HRD.out
    rw [if_pos rfl] at e
    subst e
    clear HRD
    go_wp2_with (refine wpList_store_row rfl 24 (.tmp 2) (.tmp 9) rfl (w.heap.size + 1) #[.slice base d.sec.length cap, .int .i64 (-1), .int .i64 0, .bool false] rfl rfl 24 _ hrs disk_info rfl (one4 HL.out.one _ _ _) ?_)
    try simp only [Exit.inBlock, Exit.then]
    have hbz := below_setRow (hB0.trans (hb1.mono hB0.size)) (Nat.le_succ w.heap.size) #[.slice base d.sec.length cap, .int .i64 (-1), .int .i64 0, .bool false]
    exact ret_disk1 (w.heap.size + 1) (.slice base d.sec.length cap) (-1) 0 false rfl rfl (setRow_heap _ _ _ _ _ _ hrs) rfl ⟨_, rfl, ⟨_, rfl, HLM.out.sub (mask_below hbz rfl)⟩, hbz⟩
end Go.Proofs.Ytnfgapdpnihicaa
