/- The walk over disk.Restart, for every disk. -/
import Derived.Test.YtkfikcppnbfmoaaChecked
import Derived.Test.YtkfikcppnbfmoaaDisk
namespace Go.Proofs.Ytkfikcppnbfmoaa
open Go.RowKit

theorem ret_disk1 {fn : Func} {R : Ending → World → Prop} {a : Act} {w : World} {p : Tmp} (g : Nat) (sv : Value) (l t : Int) (st : Bool) (h : fn.results = #[.cell p 25]) (hp : a.tmps.getD p undef = .pointer (some ⟨g, 0, none⟩))
    (hg : w.heap[g]? = some (.cells #[sv, .int .i64 l, .int .i64 t, .bool st] 25)) (hd : a.defers = []) (hR : R (.returned (dkV sv l t st)) w) : bodyPost Try.prog fn R .ret a w :=
  bodyPost_ret (results_cell_row h _ _ g 25 _ (0, 0) _ hp hg Try.underlying25 rfl disk_info) hd hR

set_option maxHeartbeats 1000000 in
theorem restart_any (S : Nat → Bool) (w : World) (v : Value) (d : Dk) (hvm : IsDk (mask S w) v d) :
    Calls Try.prog 21 #[v] w fun e w' => ∃ v', e = .returned v' ∧ IsDk (mask S w') v' d.restart ∧ Below w.heap.size w w' := by
  obtain ⟨sv, rfl, hlm⟩ := hvm
  have hl := hlm.sub (mask_is S w)
  have hv' : IsDk w _ d := ⟨sv, rfl, hl⟩
  have HLM := Lib.hid hlm
  clear hlm
  have hB0 : Below w.heap.size w ((w.alloc (.cells #[sv, .int .i64 d.left, .int .i64 d.tear, .bool d.stopped] 25)).alloc (.cells #[.slice none 0 0, .int .i64 0, .int .i64 0, .bool false] 25)) := ((Below.refl _ _).alloc (Nat.le_refl _) _).alloc (by simp) _
  have hv0 := hv'.below hB0 rfl
  have HL := Lib.hid hl
  have hc := check_any _ _ d hv0
  obtain ⟨base, cap, rfl, hl1, hcap, -, -⟩ := hl.out
  unfold maxLen at hcap
  cases hval : d.valid with
  | false =>
    rw [hval] at hc
    have hr : d.restart = Dk.zero := by simp [Dk.restart, hval]
    rw [hr]
    clear hv' hv0 hl
    simp only [dkV] at *
    go_enter Try.func21, Try.ntmps21
    go_wp2_with fail
    refine hc.mono ?_
    rintro e w1 ⟨rfl, hb1⟩
    have hrs := box2_b hb1
    go_wp2_with (refine wpList_store_row rfl 25 (.tmp 2) (.tmp 6) rfl (w.heap.size + 1) #[.slice none 0 0, .int .i64 0, .int .i64 0, .bool false] rfl rfl 25 _ hrs disk_info rfl (one4 rfl _ _ _) ?_)
    try simp only [Exit.inBlock, Exit.then]
    refine ret_disk1 (w.heap.size + 1) (.slice none 0 0) 0 0 false rfl rfl (setRow_heap _ _ _ _ _ _ hrs) rfl ⟨_, rfl, dk_zero _, below_setRow (hB0.trans (hb1.mono hB0.size)) (Nat.le_succ _) _⟩
  | true =>
    rw [hval] at hc
    have hr : d.restart = { d with left := -1, tear := 0, stopped := false } := by simp [Dk.restart, hval]
    rw [hr]
    clear hv' hv0 hl
    simp only [dkV] at *
    go_enter Try.func21, Try.ntmps21
    go_wp2_with fail
    refine hc.mono ?_
    rintro e w1 ⟨rfl, hb1⟩
    have hrs := box2_b hb1
    obtain ⟨c0, c1, c2, c3, f1, f2⟩ := dkO_cells (box2_a hb1)
    go_wp2_with (refine wpList_store_row rfl 25 (.tmp 2) (.tmp 9) rfl (w.heap.size + 1) #[.slice base d.sec.length cap, .int .i64 (-1), .int .i64 0, .bool false] rfl rfl 25 _ hrs disk_info rfl (one4 HL.out.one _ _ _) ?_)
    try simp only [Exit.inBlock, Exit.then]
    have hbz := below_setRow (hB0.trans (hb1.mono hB0.size)) (Nat.le_succ w.heap.size) #[.slice base d.sec.length cap, .int .i64 (-1), .int .i64 0, .bool false]
    exact ret_disk1 (w.heap.size + 1) (.slice base d.sec.length cap) (-1) 0 false rfl rfl (setRow_heap _ _ _ _ _ _ hrs) rfl ⟨_, rfl, ⟨_, rfl, HLM.out.sub (mask_below hbz rfl)⟩, hbz⟩

end Go.Proofs.Ytkfikcppnbfmoaa
