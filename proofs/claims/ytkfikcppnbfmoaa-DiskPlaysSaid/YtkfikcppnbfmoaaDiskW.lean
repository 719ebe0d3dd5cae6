/- The walk over disk.Write, for every disk. -/
import Derived.Test.YtkfikcppnbfmoaaChecked
import Derived.Test.YtkfikcppnbfmoaaDisk
namespace Go.Proofs.Ytkfikcppnbfmoaa
open Go.RowKit

set_option maxHeartbeats 1000000 in
theorem write_call (S : Nat → Bool) (w : World) (hS : ∀ k, S k = true → k < w.heap.size) (v : Value) (d : Dk) (i : Int) (bv : Value) (b : List UInt8) (hvm : IsDk (mask S w) v d) (hbv : IsBytes w bv b) :
    Calls Try.prog 16 #[v, .int .i64 i, bv] w fun e w' => ∃ v', e = .returned (.tuple #[v', .int .i64 (d.write i b).2]) ∧ IsDk (mask S w') v' (d.write i b).1 ∧ Below w.heap.size w w' := by
  obtain ⟨sv, rfl, hlm⟩ := hvm
  have hl := hlm.sub (mask_is S w)
  have hv' : IsDk w _ d := ⟨sv, rfl, hl⟩
  have HLM := Lib.hid hlm
  clear hlm
  have hB0 : Below w.heap.size w ((w.alloc (.cells #[sv, .int .i64 d.left, .int .i64 d.tear, .bool d.stopped] 25)).alloc (.cells #[.slice none 0 0, .int .i64 0, .int .i64 0, .bool false] 25)) := ((Below.refl _ _).alloc (Nat.le_refl _) _).alloc (by simp) _
  have hv0 := hv'.below hB0 rfl
  have HL := Lib.hid hl
  have hc := check_any _ _ d hv0
  obtain ⟨bb, bc, rfl, hbl, hbc, -, -⟩ := hbv.out
  unfold maxLen at hbc
  have HBV := Lib.hid hbv
  obtain ⟨base, cap, rfl, hl1, hcap, -, -⟩ := hl.out
  unfold maxLen at hcap
  cases hval : d.valid with
  | false =>
    rw [hval] at hc
    have hr : d.write i b = (Dk.zero, 1) := by simp [Dk.write, hval]
    rw [hr]
    clear hv' hv0 hl hbv
    simp only [dkV] at *
    go_enter Try.func16, Try.ntmps16
    go_wp2_with fail
    refine hc.mono ?_
    rintro e w1 ⟨rfl, hb1⟩
    have hbx := box2_a hb1
    have hrs := box2_b hb1
    obtain ⟨c0, c1, c2, c3, f1, f2⟩ := dkO_cells hbx
    go_wp2_with (refine wpList_store_row rfl 25 (.tmp 6) (.tmp 28) rfl (w.heap.size + 1) #[.slice none 0 0, .int .i64 0, .int .i64 0, .bool false] rfl rfl 25 _ hrs disk_info rfl (one4 rfl _ _ _) ?_)
    try simp only [Exit.inBlock, Exit.then]
    refine ret_disk (w.heap.size + 1) (.slice none 0 0) 0 0 false rfl rfl (setRow_heap _ _ _ _ _ _ hrs) rfl ⟨_, rfl, dk_zero _, below_setRow (hB0.trans (hb1.mono hB0.size)) (Nat.le_succ _) _⟩
  | true =>
    rw [hval] at hc
    have HV := Lib.hid hval
    clear hv' hv0 hl hval hbv
    by_cases k1 : i < 0
    · have hr : d.write i b = (Dk.zero, 1) := by simp [Dk.write, k1]
      rw [hr]
      simp only [dkV] at *
      go_enter Try.func16, Try.ntmps16
      go_wp2_with fail
      refine hc.mono ?_
      rintro e w1 ⟨rfl, hb1⟩
      have hbx := box2_a hb1
      have hrs := box2_b hb1
      obtain ⟨c0, c1, c2, c3, f1, f2⟩ := dkO_cells hbx
      go_wp2_with (refine wpList_store_row rfl 25 (.tmp 6) (.tmp 28) rfl (w.heap.size + 1) #[.slice none 0 0, .int .i64 0, .int .i64 0, .bool false] rfl rfl 25 _ hrs disk_info rfl (one4 rfl _ _ _) ?_)
      try simp only [Exit.inBlock, Exit.then]
      refine ret_disk (w.heap.size + 1) (.slice none 0 0) 0 0 false rfl rfl (setRow_heap _ _ _ _ _ _ hrs) rfl ⟨_, rfl, dk_zero _, below_setRow (hB0.trans (hb1.mono hB0.size)) (Nat.le_succ _) _⟩
    by_cases k2 : (d.sec.length : Int) ≤ i
    · have hr : d.write i b = (Dk.zero, 1) := by simp [Dk.write, k2]
      rw [hr]
      simp only [dkV] at *
      go_enter Try.func16, Try.ntmps16
      go_wp2_with fail
      refine hc.mono ?_
      rintro e w1 ⟨rfl, hb1⟩
      have hbx := box2_a hb1
      have hrs := box2_b hb1
      obtain ⟨c0, c1, c2, c3, f1, f2⟩ := dkO_cells hbx
      go_wp2_with (refine wpList_store_row rfl 25 (.tmp 6) (.tmp 28) rfl (w.heap.size + 1) #[.slice none 0 0, .int .i64 0, .int .i64 0, .bool false] rfl rfl 25 _ hrs disk_info rfl (one4 rfl _ _ _) ?_)
      try simp only [Exit.inBlock, Exit.then]
      refine ret_disk (w.heap.size + 1) (.slice none 0 0) 0 0 false rfl rfl (setRow_heap _ _ _ _ _ _ hrs) rfl ⟨_, rfl, dk_zero _, below_setRow (hB0.trans (hb1.mono hB0.size)) (Nat.le_succ _) _⟩
    obtain ⟨n, rfl⟩ : ∃ n : Nat, i = (n : Int) := ⟨i.toNat, by omega⟩
    have hn : n < d.sec.length := by omega
    cases k3 : ((b.length : Int) != 128) with
    | true =>
      have hr : d.write n b = (Dk.zero, 1) := by
        simp only [bne_iff_ne] at k3
        have : b.length ≠ 128 := by omega
        simp [Dk.write, this]
      rw [hr]
      simp only [dkV] at *
      go_enter Try.func16, Try.ntmps16
      go_wp2_with fail
      refine hc.mono ?_
      rintro e w1 ⟨rfl, hb1⟩
      have hbx := box2_a hb1
      have hrs := box2_b hb1
      obtain ⟨c0, c1, c2, c3, f1, f2⟩ := dkO_cells hbx
      go_wp2_with (refine wpList_store_row rfl 25 (.tmp 6) (.tmp 28) rfl (w.heap.size + 1) #[.slice none 0 0, .int .i64 0, .int .i64 0, .bool false] rfl rfl 25 _ hrs disk_info rfl (one4 rfl _ _ _) ?_)
      try simp only [Exit.inBlock, Exit.then]
      refine ret_disk (w.heap.size + 1) (.slice none 0 0) 0 0 false rfl rfl (setRow_heap _ _ _ _ _ _ hrs) rfl ⟨_, rfl, dk_zero _, below_setRow (hB0.trans (hb1.mono hB0.size)) (Nat.le_succ _) _⟩
    | false =>
      have hb128 : b.length = 128 := by simp only [bne_eq_false_iff_eq] at k3; omega
      have hr : d.write n b = d.wr n b := by
        have : ¬ (n : Int) < 0 := by omega
        simp [Dk.write, HV.out, k2, hb128, this]
      obtain ⟨d2, x2, hwr⟩ : ∃ d2 x2, d.wr n b = (d2, x2) := ⟨_, _, rfl⟩
      rw [hr, hwr]
      have HWR := Lib.hid hwr
      clear hr hwr
      have HB128 := Lib.hid hb128
      clear hb128
      simp only [dkV] at *
      go_enter Try.func16, Try.ntmps16
      go_wp2_with fail
      refine hc.mono ?_
      rintro e w1 ⟨rfl, hb1⟩
      have hbx := box2_a hb1
      have hrs := box2_b hb1
      obtain ⟨c0, c1, c2, c3, f1, f2⟩ := dkO_cells hbx
      have hbw1 := hB0.trans (hb1.mono hB0.size)
      go_wp2_with fail
      have hbp : Below w.heap.size w (w1.alloc (.cells #[.slice base d.sec.length cap, .int .i64 d.left, .int .i64 d.tear, .bool d.stopped] 52)) := hbw1.alloc hbw1.size _
      obtain ⟨S', hS'⟩ : ∃ S' : Nat → Bool, S' = fun k => S k || (decide (w.heap.size ≤ k) && decide (k ≤ w1.heap.size)) := ⟨_, rfl⟩
      have hsz1 := hbw1.size
      have hS1 : ∀ k, S' k = true → S k = true ∨ w.heap.size ≤ k := fun k hk => by
        rw [hS'] at hk
        simp only [Bool.or_eq_true, Bool.and_eq_true, decide_eq_true_eq] at hk
        rcases hk with hk | hk
        · exact .inl hk
        · exact .inr hk.1
      have hS2 : ∀ k, S' k = true → k < (w1.alloc (.cells #[.slice base d.sec.length cap, .int .i64 d.left, .int .i64 d.tear, .bool d.stopped] 52)).heap.size := fun k hk => by
        rw [hS'] at hk
        simp only [Bool.or_eq_true, Bool.and_eq_true, decide_eq_true_eq] at hk
        show k < (w1.heap.push _).size
        rw [Array.size_push]
        rcases hk with hk | hk
        · have := hS k hk; omega
        · omega
      have hS3 : S' w1.heap.size = true := by rw [hS']; simp [hsz1]
      have hS4 : S' (w.heap.size + 1) = true := by
        have : w.heap.size + 1 < w1.heap.size := (Array.getElem?_eq_some_iff.1 hrs).1
        rw [hS']; simp; omega
      have hS5 : ∀ k, S k = true → S' k = true := fun k hk => by rw [hS']; simp [hk]
      have hwa := write_any S S' w _ hS1 hS2 hbp w1.heap.size hS3 hbw1.size d (dk_head HV.out) _ (heap_alloc_new _ _) HLM.out n hn _ b HBV.out HB128.out
      clear hS' hS1 hS2 hS3
      have HS4 := Lib.hid hS4
      have HS5 := Lib.hid hS5
      clear hS4 hS5
      rw [HWR.out] at hwa
      simp only at hwa
      refine hwa.mono ?_
      rintro e w2 ⟨rfl, sv2, hp2, hs2, hb2, hk2⟩
      have hsz : w.heap.size + 1 < w1.heap.size := (Array.getElem?_eq_some_iff.1 hrs).1
      have hw2 := hb2
      have hrs2 := ((hk2 (w.heap.size + 1) (by simp; omega) (by omega)).trans (Below.heap_alloc _ _ _ hsz)).trans hrs
      go_wp2_with (first | (refine wpList_load_row rfl 25 (.tmp 38) rfl w1.heap.size rfl 52 _ (0, 0) _ hp2 Try.underlying25 rfl disk_info ?_) | (refine wpList_store_row rfl 25 (.tmp 6) (.tmp 39) rfl (w.heap.size + 1) #[sv2, .int .i64 d2.left, .int .i64 d2.tear, .bool d2.stopped] rfl rfl 25 _ hrs2 disk_info rfl (one4 hs2.one _ _ _) ?_))
      try simp only [Exit.inBlock, Exit.then]
      have hbz := below_setRow hw2 (Nat.le_succ w.heap.size) #[sv2, .int .i64 d2.left, .int .i64 d2.tear, .bool d2.stopped]
      refine ret_disk (w.heap.size + 1) sv2 d2.left d2.tear d2.stopped rfl rfl (setRow_heap _ _ _ _ _ _ hrs2) rfl ?_
      exact ⟨_, rfl, ⟨sv2, rfl, (hs2.sub (mask_setRow _ _ HS4.out)).sub (mask_less HS5.out)⟩, hbz⟩

end Go.Proofs.Ytkfikcppnbfmoaa
