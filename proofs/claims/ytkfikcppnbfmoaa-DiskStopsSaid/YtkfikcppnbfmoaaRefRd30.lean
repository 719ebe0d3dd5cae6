/- The walk over asofref30.Read, at the valid disks. -/
import Derived.Test.YtkfikcppnbfmoaaChecked
import Derived.Test.YtkfikcppnbfmoaaRefV30
namespace Go.Proofs.Ytkfikcppnbfmoaa
open Go.RowKit

set_option maxHeartbeats 1000000 in
theorem refRead_any (S : Nat → Bool) (w : World) (hS : ∀ k, S k = true → k < w.heap.size) (v : Value) (d : Dk) (i : Int) (hd : d.Ok) (hv : IsDk w v d) :
    Calls Try.prog 14 #[v, .int .i64 i] w fun e w' => ∃ bv, e = .returned (.tuple #[bv, .int .i64 (d.read i).2]) ∧ IsBytes (mask S w') bv (d.read i).1 ∧ Below w.heap.size w w' := by
  have hv' := hv
  obtain ⟨sv, rfl, hl⟩ := hv
  have hB0 : Below w.heap.size w (w.alloc (.cells #[sv, .int .i64 d.left, .int .i64 d.tear, .bool d.stopped] 25)) := (Below.refl _ _).alloc (Nat.le_refl _) _
  have hv0 := hv'.below hB0 rfl
  have hl0 := hl.below hB0 rfl
  have hc := refValid_any _ _ d hd hv0
  have hval : d.valid = true := (Dk.valid_iff d).2 hd
  have hok := dk_head hval
  have h128 := hok.size
  have hmany := hok.many
  have hone := hok.one
  obtain ⟨sec, left, tear, st⟩ := d
  obtain ⟨base, cap, rfl, hl1, hcap, -, hcell⟩ := hl0.out
  have HC := Lib.hid hcell
  have HV := Lib.hid hval
  have HL := Lib.hid hl0
  clear hv' hv0 hl hcell hok hval hl0
  unfold maxLen at hcap
  simp only [dkV] at *
  by_cases k1 : i < 0
  · have hr : Dk.read ⟨sec, left, tear, st⟩ i = ([], 1) := by simp [Dk.read, k1]
    rw [hr]
    go_enter Try.func14, Try.ntmps14
    go_wp2_with fail
    refine hc.mono ?_
    rintro e w1 ⟨rfl, hb1⟩
    obtain ⟨c0, c1, c2, c3⟩ := box_cells hb1
    go_wp2
    go_ret2
    exact ⟨_, rfl, IsBytes.none _, hB0.trans (hb1.mono hB0.size)⟩
  by_cases k2 : (sec.length : Int) ≤ i
  · have hr : Dk.read ⟨sec, left, tear, st⟩ i = ([], 1) := by simp [Dk.read, k2]
    rw [hr]
    go_enter Try.func14, Try.ntmps14
    go_wp2_with fail
    refine hc.mono ?_
    rintro e w1 ⟨rfl, hb1⟩
    obtain ⟨c0, c1, c2, c3⟩ := box_cells hb1
    go_wp2
    go_ret2
    exact ⟨_, rfl, IsBytes.none _, hB0.trans (hb1.mono hB0.size)⟩
  obtain ⟨n, rfl⟩ : ∃ n : Nat, i = (n : Int) := ⟨i.toNat, by omega⟩
  have hn : n < sec.length := by omega
  cases st with
  | true =>
    have hr : Dk.read ⟨sec, left, tear, true⟩ n = ([], 300) := by simp [Dk.read, HV.out, k2]
    rw [hr]
    go_enter Try.func14, Try.ntmps14
    go_wp2_with fail
    refine hc.mono ?_
    rintro e w1 ⟨rfl, hb1⟩
    obtain ⟨c0, c1, c2, c3⟩ := box_cells hb1
    go_wp2
    go_ret2
    exact ⟨_, rfl, IsBytes.none _, hB0.trans (hb1.mono hB0.size)⟩
  | false =>
    have hr : Dk.read ⟨sec, left, tear, false⟩ n = (sec[n], 0) := by simp [Dk.read, HV.out, hn]
    rw [hr]
    obtain ⟨b, off, u, rfl, hx, hu⟩ := HC.out n hn
    have hu' := hu
    obtain ⟨ub, uc, rfl, -, -, -, -⟩ := hu'.out
    have hne : sec[n] ≠ [] := by intro e; have := h128 n hn; rw [e] at this; simp at this
    have hle : (sec[n]).length ≤ 1048576 := by rw [h128 n hn]; omega
    have HU := Lib.hid hu
    clear hu hu' h128
    go_enter Try.func14, Try.ntmps14
    go_wp2_with fail
    refine hc.mono ?_
    rintro e w1 ⟨rfl, hb1⟩
    obtain ⟨c0, c1, c2, c3⟩ := box_cells hb1
    have hx1 := (hb1.cell (cell_lt hx)).trans hx
    clear hx
    have hbw1 := hB0.trans (hb1.mono hB0.size)
    have hb2 : Below w.heap.size w (w1.alloc (.cells #[] 5)) := hbw1.alloc hbw1.size _
    have ho2 : OwnBytes 5 w.heap.size (w1.alloc (.cells #[] 5)) (.slice (some ⟨w1.heap.size, 0, none⟩) 0 0) [] := World.ownsRow_made w1 #[] 0 hbw1.size (by simp [maxLen]) (by simp)
    have hu2 := (HU.out.below hb1 rfl).below ((Below.refl _ w1).alloc (Nat.le_refl _) (.cells #[] 5)) rfl
    have hx3 := (World.cell?_of_block (a := ⟨b, off + n, none⟩) (Below.heap_alloc w1 (.cells #[] 5) _ (cell_lt hx1))).trans hx1
    have d0 := (World.cell?_of_block (a := ⟨w.heap.size, 0, none⟩) (Below.heap_alloc w1 (.cells #[] 5) _ (cell_lt c0))).trans c0
    go_wp2_with (at_builtin; go_loud (refine wpList_append_bytes rfl (.tmp 22) (.tmp 27) 34 34 rfl w.heap.size 5 Try.underlying34 byte_info _ [] rfl ho2 _ (sec[n]) rfl (hu2.src Try.underlying34) (by simp only [List.length_nil]; omega) hb2.size ?_; intro v3 w3 ho3 hg3))
    go_ret2
    exact ⟨_, rfl, ho3.mask hS, Below.grown hb2 hg3 hb2.size (fun k hk => (World.ownsRow.lt ho2 k hk).1)⟩

end Go.Proofs.Ytkfikcppnbfmoaa
