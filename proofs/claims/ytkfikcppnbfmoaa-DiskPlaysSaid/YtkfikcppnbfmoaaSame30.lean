/- The walk over asofref30.SameDisk, at two readings of one disk. -/
import Derived.Test.YtkfikcppnbfmoaaChecked
import Derived.Test.YtkfikcppnbfmoaaRef30
namespace Go.Proofs.Ytkfikcppnbfmoaa
open Go.RowKit

theorem IsDk.open_ {w : World} {v : Value} {d : Dk} (h : IsDk w v d) : ∃ base cap, v = .agg #[.slice base d.sec.length cap, .int .i64 d.left, .int .i64 d.tear, .bool d.stopped] ∧ d.sec.length ≤ cap ∧ cap ≤ 9223372036854775807 ∧
    ∀ i (h : i < d.sec.length), ∃ b off ub uc, base = some ⟨b, off, none⟩ ∧ w.cell? ⟨b, off + i, none⟩ = some (.slice ub (d.sec[i]).length uc) ∧ IsBytes w (.slice ub (d.sec[i]).length uc) d.sec[i] := by
  obtain ⟨sv, rfl, hl⟩ := h
  obtain ⟨base, cap, rfl, h1, h2, -, hc⟩ := hl.out
  unfold maxLen at h2
  refine ⟨base, cap, rfl, h1, by omega, fun i hi => ?_⟩
  obtain ⟨b, off, u, e, hx, hu⟩ := hc i hi
  obtain ⟨ub, uc, rfl, -⟩ := hu.out
  exact ⟨b, off, ub, uc, e, hx, hu⟩

set_option maxHeartbeats 1000000 in
theorem sameDisk_eq (w : World) (va vb : Value) (d : Dk) (hd : d.sec.length ≤ 1048576) (ha : IsDk w va d) (hb : IsDk w vb d) :
    Calls Try.prog 12 #[va, vb] w fun e w' => e = .returned (.bool true) ∧ Below w.heap.size w w' := by
  obtain ⟨sec, left, tear, st⟩ := d
  obtain ⟨ab, ac, rfl, ha1, ha2, hac⟩ := ha.open_
  obtain ⟨bb, bc, rfl, hb1, hb2, hbc⟩ := hb.open_
  simp only at *
  have HAC := Lib.hid hac
  have HBC := Lib.hid hbc
  clear hac hbc ha hb
  have hB0 : Below w.heap.size w ((w.alloc (.cells #[.slice ab sec.length ac, .int .i64 left, .int .i64 tear, .bool st] 25)).alloc (.cells #[.slice bb sec.length bc, .int .i64 left, .int .i64 tear, .bool st] 25)) := ((Below.refl _ _).alloc (Nat.le_refl _) _).alloc (by simp) _
  have hrs := heap_alloc2_old w (.cells #[.slice ab sec.length ac, .int .i64 left, .int .i64 tear, .bool st] 25) (.cells #[.slice bb sec.length bc, .int .i64 left, .int .i64 tear, .bool st] 25)
  have hrt := heap_alloc2_new w (.cells #[.slice ab sec.length ac, .int .i64 left, .int .i64 tear, .bool st] 25) (.cells #[.slice bb sec.length bc, .int .i64 left, .int .i64 tear, .bool st] 25)
  go_enter Try.func12, Try.ntmps12
  go_wp2
  obtain ⟨W, hW⟩ : ∃ W, (w.alloc (.cells #[.slice ab sec.length ac, .int .i64 left, .int .i64 tear, .bool st] 25)).alloc (.cells #[.slice bb sec.length bc, .int .i64 left, .int .i64 tear, .bool st] 25) = W := ⟨_, rfl⟩
  rw [hW] at hB0 hrs hrt ⊢
  clear hW
  obtain ⟨a0, -, -, -, -, -⟩ := dkO_cells hrs
  obtain ⟨b0, -, -, -, -, -⟩ := dkO_cells hrt
  clear hrs hrt
  have A0 := Lib.hid a0
  have B0 := Lib.hid b0
  clear a0 b0
  go_loopw [5] (fun c wr => ∃ k : Nat, k ≤ sec.length ∧ c = .int .i64 k ∧ ∃ m, wr = W.drewN m) (fun c _ => sec.length - (intOf c).toNat)
  case atStart => exact ⟨0, by omega, rfl, 0, rfl⟩
  case round =>
    obtain ⟨k, hk, rfl, hm⟩ := hrel
    have hBr : Below w.heap.size w wr := by obtain ⟨m, rfl⟩ := hm; exact hB0.drewN m
    have a0 : wr.cell? ⟨w.heap.size, 0, none⟩ = some (.slice ab sec.length ac) := by obtain ⟨m, rfl⟩ := hm; exact A0.out
    have b0 : wr.cell? ⟨w.heap.size + 1, 0, none⟩ = some (.slice bb sec.length bc) := by obtain ⟨m, rfl⟩ := hm; exact B0.out
    have HM := Lib.hid hm
    clear hm
    by_cases hlt : k < sec.length
    · obtain ⟨xb, xo, xub, xuc, rfl, hx, hxu⟩ := HAC.out k hlt
      obtain ⟨yb, yo, yub, yuc, rfl, hy, hyu⟩ := HBC.out k hlt
      have hx1 := (hBr.cell (cell_lt hx)).trans hx
      have hy1 := (hBr.cell (cell_lt hy)).trans hy
      have hxu1 := hxu.below hBr rfl
      have hyu1 := hyu.below hBr rfl
      have HXU := Lib.hid hxu1
      have HYU := Lib.hid hyu1
      clear hx hy hxu hyu hxu1 hyu1
      have i1 : (k : Int) < (sec.length : Int) := by omega
      have hq : ∀ n, Calls Try.prog 15 #[.slice xub (sec[k]).length xuc, .slice yub (sec[k]).length yuc] (wr.drewN n) fun e w'' => e = .returned (.bool true) ∧ ∃ m, w'' = wr.drewN m := fun n =>
        (sameBytes_quiet _ _ _ sec[k] sec[k] (show IsBytes (wr.drewN n) _ _ from HXU.out) (show IsBytes (wr.drewN n) _ _ from HYU.out)).mono fun _ _ ⟨h1, m, h2⟩ => ⟨by rw [h1]; simp, n + m, by rw [h2, World.drewN_drewN]⟩
      have HQ := Lib.hid hq
      clear hq
      go_wp2
      go_quiet ((go_at_call 15; exact HQ.out _))
      go_wp2
      go_roundw
      case rel => exact ⟨k + 1, by omega, by go_num, by obtain ⟨m, rfl⟩ := HM.out; exact ⟨_, World.drewN_drewN _ _ _⟩⟩
      case measure => simp [intOf]; omega
    · obtain rfl : k = sec.length := by omega
      go_wp2
      go_ret
      exact ⟨rfl, hBr⟩

end Go.Proofs.Ytkfikcppnbfmoaa
