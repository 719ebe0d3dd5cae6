/- The walk over asofref30.Valid, at the valid disks. Printed by wip/tools/gen_refvalid.py. -/
import Derived.Test.YtkfikcppnbfmoaaChecked
import Derived.Test.YtkfikcppnbfmoaaRef30
set_option linter.unusedVariables false
namespace Go.Proofs.Ytkfikcppnbfmoaa
open Go.RowKit

set_option maxHeartbeats 400000 in
theorem refValid1 (w : World) (base : Option Addr) (cap : Nat) (sec : List (List UInt8)) (left tear : Int) (hcap : cap ≤ 9223372036854775807) (hl1 : sec.length ≤ cap) (k1 : (1 : Int) ≤ (sec.length : Int)) (k2 : (sec.length : Int) ≤ 4096) 
    (HC : Hid (∀ i (h : i < sec.length), ∃ b off ub uc, base = some ⟨b, off, none⟩ ∧ (w.alloc (.cells #[.slice base sec.length cap, .int .i64 (-1), .int .i64 0, .bool false] 25)).cell? ⟨b, off + i, none⟩ = some (.slice ub 128 uc))) :
    Calls Try.prog 26 #[.agg #[.slice base sec.length cap, .int .i64 (-1), .int .i64 0, .bool false]] w fun e w' => e = .returned (.bool true) ∧ Below w.heap.size w w' := by
  have hB0 : Below w.heap.size w (w.alloc (.cells #[.slice base sec.length cap, .int .i64 (-1), .int .i64 0, .bool false] 25)) := (Below.refl _ _).alloc (Nat.le_refl _) _
  go_enter Try.func26, Try.ntmps26
  go_wp2
  go_loop [3] (fun c => ∃ k : Nat, k ≤ sec.length ∧ c = .int .i64 k) (fun c => sec.length - (intOf c).toNat)
  case atStart => exact ⟨0, by omega, rfl⟩
  case round =>
    obtain ⟨k, hk, rfl⟩ := hrel
    by_cases hlt : k < sec.length
    · obtain ⟨b, off, ub, uc, rfl, hx⟩ := HC.out k hlt
      go_wp2
      go_round
      case rel => exact ⟨k + 1, by omega, by go_num⟩
      case measure => simp [intOf]; omega
    · obtain rfl : k = sec.length := by omega
      go_wp2
      go_ret
      exact ⟨rfl, hB0⟩

set_option maxHeartbeats 400000 in
theorem refValid2 (w : World) (base : Option Addr) (cap : Nat) (sec : List (List UInt8)) (left tear : Int) (hcap : cap ≤ 9223372036854775807) (hl1 : sec.length ≤ cap) (k1 : (1 : Int) ≤ (sec.length : Int)) (k2 : (sec.length : Int) ≤ 4096) (k5 : ¬ tear < 0) (k6 : ¬ (128 : Int) < tear)
    (HC : Hid (∀ i (h : i < sec.length), ∃ b off ub uc, base = some ⟨b, off, none⟩ ∧ (w.alloc (.cells #[.slice base sec.length cap, .int .i64 0, .int .i64 tear, .bool true] 25)).cell? ⟨b, off + i, none⟩ = some (.slice ub 128 uc))) :
    Calls Try.prog 26 #[.agg #[.slice base sec.length cap, .int .i64 0, .int .i64 tear, .bool true]] w fun e w' => e = .returned (.bool true) ∧ Below w.heap.size w w' := by
  have hB0 : Below w.heap.size w (w.alloc (.cells #[.slice base sec.length cap, .int .i64 0, .int .i64 tear, .bool true] 25)) := (Below.refl _ _).alloc (Nat.le_refl _) _
  go_enter Try.func26, Try.ntmps26
  go_wp2
  go_loop [3] (fun c => ∃ k : Nat, k ≤ sec.length ∧ c = .int .i64 k) (fun c => sec.length - (intOf c).toNat)
  case atStart => exact ⟨0, by omega, rfl⟩
  case round =>
    obtain ⟨k, hk, rfl⟩ := hrel
    by_cases hlt : k < sec.length
    · obtain ⟨b, off, ub, uc, rfl, hx⟩ := HC.out k hlt
      go_wp2
      go_round
      case rel => exact ⟨k + 1, by omega, by go_num⟩
      case measure => simp [intOf]; omega
    · obtain rfl : k = sec.length := by omega
      go_wp2
      go_ret
      exact ⟨rfl, hB0⟩

set_option maxHeartbeats 400000 in
theorem refValid3 (w : World) (base : Option Addr) (cap : Nat) (sec : List (List UInt8)) (left tear : Int) (hcap : cap ≤ 9223372036854775807) (hl1 : sec.length ≤ cap) (k1 : (1 : Int) ≤ (sec.length : Int)) (k2 : (sec.length : Int) ≤ 4096) (k3 : ¬ left < -1) (k4 : ¬ (1099511627776 : Int) < left) (k5 : ¬ tear < 0) (k6 : ¬ (128 : Int) < tear) (k7 : left ≠ -1)
    (HC : Hid (∀ i (h : i < sec.length), ∃ b off ub uc, base = some ⟨b, off, none⟩ ∧ (w.alloc (.cells #[.slice base sec.length cap, .int .i64 left, .int .i64 tear, .bool false] 25)).cell? ⟨b, off + i, none⟩ = some (.slice ub 128 uc))) :
    Calls Try.prog 26 #[.agg #[.slice base sec.length cap, .int .i64 left, .int .i64 tear, .bool false]] w fun e w' => e = .returned (.bool true) ∧ Below w.heap.size w w' := by
  have hB0 : Below w.heap.size w (w.alloc (.cells #[.slice base sec.length cap, .int .i64 left, .int .i64 tear, .bool false] 25)) := (Below.refl _ _).alloc (Nat.le_refl _) _
  go_enter Try.func26, Try.ntmps26
  go_wp2
  go_loop [3] (fun c => ∃ k : Nat, k ≤ sec.length ∧ c = .int .i64 k) (fun c => sec.length - (intOf c).toNat)
  case atStart => exact ⟨0, by omega, rfl⟩
  case round =>
    obtain ⟨k, hk, rfl⟩ := hrel
    by_cases hlt : k < sec.length
    · obtain ⟨b, off, ub, uc, rfl, hx⟩ := HC.out k hlt
      go_wp2
      go_round
      case rel => exact ⟨k + 1, by omega, by go_num⟩
      case measure => simp [intOf]; omega
    · obtain rfl : k = sec.length := by omega
      go_wp2
      go_ret
      exact ⟨rfl, hB0⟩

theorem refValid_any (w : World) (v : Value) (d : Dk) (hd : d.Ok) (hv : IsDk w v d) :
    Calls Try.prog 26 #[v] w fun e w' => e = .returned (.bool true) ∧ Below w.heap.size w w' := by
  obtain ⟨sv, rfl, hl⟩ := hv
  obtain ⟨sec, left, tear, st⟩ := d
  obtain ⟨g1, g2, g9, g3, g4, g5, g6, g7, g8⟩ := hd
  simp only [dkV] at *
  obtain ⟨base, cap, rfl, hl1, hcap, -, hcell⟩ := hl.out
  unfold maxLen at hcap
  have hcap : cap ≤ 9223372036854775807 := hcap
  have HC : ∀ l t s, Hid (∀ i (h : i < sec.length), ∃ b off ub uc, base = some ⟨b, off, none⟩ ∧ (w.alloc (.cells #[.slice base sec.length cap, .int .i64 l, .int .i64 t, .bool s] 25)).cell? ⟨b, off + i, none⟩ = some (.slice ub 128 uc)) := by
    refine fun l t s => Lib.hid (fun i hi => ?_)
    obtain ⟨b, off, u, h1, h2, h3⟩ := hcell i hi
    obtain ⟨ub, uc, rfl, -, -, -, -⟩ := h3.out
    rw [g9 i hi] at h2
    refine ⟨b, off, ub, uc, h1, ?_⟩
    rw [World.cell?_of_block (w := w) (Below.heap_alloc w _ b (cell_lt h2))]
    exact h2
  by_cases e : left = -1
  · subst e
    have e := g7 rfl
    subst e
    cases st
    · exact refValid1 w base cap sec (-1) 0 hcap hl1 (by omega) (by omega) (HC _ _ _)
    · have := g8 rfl
      omega
  · cases st
    · exact refValid3 w base cap sec left tear hcap hl1 (by omega) (by omega) (by omega) (by omega) (by omega) (by omega) e (HC _ _ _)
    · obtain rfl := g8 rfl
      exact refValid2 w base cap sec 0 tear hcap hl1 (by omega) (by omega) (by omega) (by omega) (HC _ _ _)

end Go.Proofs.Ytkfikcppnbfmoaa
