/- The walk over disk.Fail, for every disk. -/
import Derived.Test.YtkfikcppnbfmoaaChecked
import Derived.Test.YtkfikcppnbfmoaaDisk
namespace Go.Proofs.Ytkfikcppnbfmoaa
open Go.RowKit

set_option maxHeartbeats 1000000 in
theorem fail_any (S : Nat → Bool) (w : World) (v : Value) (d : Dk) (l t : Int) (hvm : IsDk (mask S w) v d) :
    Calls Try.prog 19 #[v, .int .i64 l, .int .i64 t] w fun e w' => ∃ v', e = .returned (.tuple #[v', .int .i64 (d.fail l t).2]) ∧ IsDk (mask S w') v' (d.fail l t).1 ∧ Below w.heap.size w w' := by
  obtain ⟨sv, rfl, hlm⟩ := hvm
  have hl := hlm.sub (mask_is S w)
  have hv' : IsDk w _ d := ⟨sv, rfl, hl⟩
  have HLM := Lib.hid hlm
  clear hlm
  have hB0 : Below w.heap.size w ((w.alloc (.cells #[sv, .int .i64 d.left, .int .i64 d.tear, .bool d.stopped] 25)).alloc (.cells #[.slice none 0 0, .int .i64 0, .int .i64 0, .bool false] 25)) := ((Below.refl _ _).alloc (Nat.le_refl _) _).alloc (by simp) _
  have hv0 := hv'.below hB0 rfl
  have HL := Lib.hid hl
  have hc := check_any _ _ d hv0
  cases hval : d.valid with
  | false =>
    rw [hval] at hc
    have hr : d.fail l t = (Dk.zero, 1) := by simp [Dk.fail, hval]
    rw [hr]
    clear hv' hv0 hl
    simp only [dkV] at *
    go_enter Try.func19, Try.ntmps19
    go_wp2_with fail
    refine hc.mono ?_
    rintro e w1 ⟨rfl, hb1⟩
    have hbx := box2_a hb1
    have hrs := box2_b hb1
    obtain ⟨c0, c1, c2, c3, f1, f2⟩ := dkO_cells hbx
    go_wp2_with (refine wpList_store_row rfl 25 (.tmp 6) (.tmp 28) rfl (w.heap.size + 1) #[.slice none 0 0, .int .i64 0, .int .i64 0, .bool false] rfl rfl 25 _ hrs disk_info rfl (one4 rfl _ _ _) ?_)
    try simp only [Exit.inBlock, Exit.then]
    refine ret_disk (w.heap.size + 1) (.slice none 0 0) 0 0 false rfl rfl (setRow_heap _ _ _ _ _ _ hrs) rfl ⟨_, rfl, dk_zero _, below_setRow (hB0.trans (hb1.mono hB0.size)) (Nat.le_succ _) _⟩
  | true =>
    rw [hval] at hc
    have HV := Lib.hid hval
    clear hv' hv0 hl hval
    obtain ⟨sec, left, tear, st⟩ := d
    simp only [dkV] at *
    by_cases k1 : l < 0
    · have hr : Dk.fail ⟨sec, left, tear, st⟩ l t = (Dk.zero, 1) := by simp [Dk.fail, k1]
      rw [hr]
      go_enter Try.func19, Try.ntmps19
      go_wp2_with fail
      refine hc.mono ?_
      rintro e w1 ⟨rfl, hb1⟩
      have hbx := box2_a hb1
      have hrs := box2_b hb1
      obtain ⟨c0, c1, c2, c3, f1, f2⟩ := dkO_cells hbx
      go_wp2_with (refine wpList_store_row rfl 25 (.tmp 6) (.tmp 28) rfl (w.heap.size + 1) #[.slice none 0 0, .int .i64 0, .int .i64 0, .bool false] rfl rfl 25 _ hrs disk_info rfl (one4 rfl _ _ _) ?_)
      try simp only [Exit.inBlock, Exit.then]
      refine ret_disk (w.heap.size + 1) (.slice none 0 0) 0 0 false rfl rfl (setRow_heap _ _ _ _ _ _ hrs) rfl ⟨_, rfl, dk_zero _, below_setRow (hB0.trans (hb1.mono hB0.size)) (Nat.le_succ _) _⟩
    by_cases k2 : 1099511627776 < l
    · have hr : Dk.fail ⟨sec, left, tear, st⟩ l t = (Dk.zero, 1) := by simp [Dk.fail, k2]
      rw [hr]
      go_enter Try.func19, Try.ntmps19
      go_wp2_with fail
      refine hc.mono ?_
      rintro e w1 ⟨rfl, hb1⟩
      have hbx := box2_a hb1
      have hrs := box2_b hb1
      obtain ⟨c0, c1, c2, c3, f1, f2⟩ := dkO_cells hbx
      go_wp2_with (refine wpList_store_row rfl 25 (.tmp 6) (.tmp 28) rfl (w.heap.size + 1) #[.slice none 0 0, .int .i64 0, .int .i64 0, .bool false] rfl rfl 25 _ hrs disk_info rfl (one4 rfl _ _ _) ?_)
      try simp only [Exit.inBlock, Exit.then]
      refine ret_disk (w.heap.size + 1) (.slice none 0 0) 0 0 false rfl rfl (setRow_heap _ _ _ _ _ _ hrs) rfl ⟨_, rfl, dk_zero _, below_setRow (hB0.trans (hb1.mono hB0.size)) (Nat.le_succ _) _⟩
    by_cases k3 : t < 0
    · have hr : Dk.fail ⟨sec, left, tear, st⟩ l t = (Dk.zero, 1) := by simp [Dk.fail, k3]
      rw [hr]
      go_enter Try.func19, Try.ntmps19
      go_wp2_with fail
      refine hc.mono ?_
      rintro e w1 ⟨rfl, hb1⟩
      have hbx := box2_a hb1
      have hrs := box2_b hb1
      obtain ⟨c0, c1, c2, c3, f1, f2⟩ := dkO_cells hbx
      go_wp2_with (refine wpList_store_row rfl 25 (.tmp 6) (.tmp 28) rfl (w.heap.size + 1) #[.slice none 0 0, .int .i64 0, .int .i64 0, .bool false] rfl rfl 25 _ hrs disk_info rfl (one4 rfl _ _ _) ?_)
      try simp only [Exit.inBlock, Exit.then]
      refine ret_disk (w.heap.size + 1) (.slice none 0 0) 0 0 false rfl rfl (setRow_heap _ _ _ _ _ _ hrs) rfl ⟨_, rfl, dk_zero _, below_setRow (hB0.trans (hb1.mono hB0.size)) (Nat.le_succ _) _⟩
    by_cases k4 : 128 < t
    · have hr : Dk.fail ⟨sec, left, tear, st⟩ l t = (Dk.zero, 1) := by simp [Dk.fail, k4]
      rw [hr]
      go_enter Try.func19, Try.ntmps19
      go_wp2_with fail
      refine hc.mono ?_
      rintro e w1 ⟨rfl, hb1⟩
      have hbx := box2_a hb1
      have hrs := box2_b hb1
      obtain ⟨c0, c1, c2, c3, f1, f2⟩ := dkO_cells hbx
      go_wp2_with (refine wpList_store_row rfl 25 (.tmp 6) (.tmp 28) rfl (w.heap.size + 1) #[.slice none 0 0, .int .i64 0, .int .i64 0, .bool false] rfl rfl 25 _ hrs disk_info rfl (one4 rfl _ _ _) ?_)
      try simp only [Exit.inBlock, Exit.then]
      refine ret_disk (w.heap.size + 1) (.slice none 0 0) 0 0 false rfl rfl (setRow_heap _ _ _ _ _ _ hrs) rfl ⟨_, rfl, dk_zero _, below_setRow (hB0.trans (hb1.mono hB0.size)) (Nat.le_succ _) _⟩
    cases st with
    | true =>
      have hr : Dk.fail ⟨sec, left, tear, true⟩ l t = (Dk.zero, 300) := by simp [Dk.fail, HV.out, k1, k2, k3, k4]
      rw [hr]
      go_enter Try.func19, Try.ntmps19
      go_wp2_with fail
      refine hc.mono ?_
      rintro e w1 ⟨rfl, hb1⟩
      have hbx := box2_a hb1
      have hrs := box2_b hb1
      obtain ⟨c0, c1, c2, c3, f1, f2⟩ := dkO_cells hbx
      go_wp2_with (refine wpList_store_row rfl 25 (.tmp 6) (.tmp 32) rfl (w.heap.size + 1) #[.slice none 0 0, .int .i64 0, .int .i64 0, .bool false] rfl rfl 25 _ hrs disk_info rfl (one4 rfl _ _ _) ?_)
      try simp only [Exit.inBlock, Exit.then]
      refine ret_disk (w.heap.size + 1) (.slice none 0 0) 0 0 false rfl rfl (setRow_heap _ _ _ _ _ _ hrs) rfl ⟨_, rfl, dk_zero _, below_setRow (hB0.trans (hb1.mono hB0.size)) (Nat.le_succ _) _⟩
    | false =>
      have hr : Dk.fail ⟨sec, left, tear, false⟩ l t = (⟨sec, l, t, false⟩, 0) := by simp [Dk.fail, HV.out, k1, k2, k3, k4]
      rw [hr]
      go_enter Try.func19, Try.ntmps19
      go_wp2_with fail
      refine hc.mono ?_
      rintro e w1 ⟨rfl, hb1⟩
      have hbx := box2_a hb1
      have hrs := box2_b hb1
      obtain ⟨c0, c1, c2, c3, f1, f2⟩ := dkO_cells hbx
      have hbx2 : ((w1.setCell ⟨w.heap.size, 1, none⟩ (.int .i64 l)).setCell ⟨w.heap.size, 2, none⟩ (.int .i64 t)).heap[w.heap.size]? = some (dkO sv l t false) := by
        rw [heap_setCell_same _ _ 2 _ _ _ (heap_setCell_same _ _ 1 _ _ _ hbx)]
        rfl
      have hrs2 : ((w1.setCell ⟨w.heap.size, 1, none⟩ (.int .i64 l)).setCell ⟨w.heap.size, 2, none⟩ (.int .i64 t)).heap[w.heap.size + 1]? = some (.cells #[.slice none 0 0, .int .i64 0, .int .i64 0, .bool false] 25) := by
        rw [heap_setCell_other _ _ _ _ (by simp), heap_setCell_other _ _ _ _ (by simp)]
        exact hrs
      go_wp2_with (first | (refine wpList_load_row rfl 25 (.tmp 3) rfl w.heap.size rfl 25 _ (0, 0) _ hbx2 Try.underlying25 rfl disk_info ?_) | (refine wpList_store_row rfl 25 (.tmp 6) (.tmp 37) rfl (w.heap.size + 1) #[sv, .int .i64 l, .int .i64 t, .bool false] rfl rfl 25 _ hrs2 disk_info rfl (one4 HL.out.one l t false) ?_))
      try simp only [Exit.inBlock, Exit.then]
      refine ret_disk (w.heap.size + 1) sv l t false rfl rfl (setRow_heap _ _ _ _ _ _ hrs2) rfl ?_
      have hbz := below_setRow (((hB0.trans (hb1.mono hB0.size)).setCell (p := ⟨w.heap.size, 1, none⟩) (Nat.le_refl _) (.int .i64 l)).setCell (p := ⟨w.heap.size, 2, none⟩) (Nat.le_refl _) (.int .i64 t)) (Nat.le_succ w.heap.size) #[sv, .int .i64 l, .int .i64 t, .bool false]
      exact ⟨_, rfl, ⟨sv, rfl, HLM.out.sub (mask_below hbz rfl)⟩, hbz⟩

end Go.Proofs.Ytkfikcppnbfmoaa
