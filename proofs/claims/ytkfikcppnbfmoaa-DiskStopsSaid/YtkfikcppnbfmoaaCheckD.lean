/- The walks over package disk: Check, for every disk. -/
import Derived.Test.YtkfikcppnbfmoaaChecked
import Derived.Test.YtkfikcppnbfmoaaDk
set_option linter.unusedVariables false
namespace Go.Proofs.Ytkfikcppnbfmoaa
open Go.RowKit

/-- The chapter's test, as a Boolean. -/
def Dk.valid (d : Dk) : Bool :=
  decide (1 ≤ d.sec.length ∧ d.sec.length ≤ 4096 ∧ -1 ≤ d.left ∧ d.left ≤ 1099511627776 ∧ 0 ≤ d.tear ∧ d.tear ≤ 128 ∧ (d.left = -1 → d.tear = 0) ∧ (d.stopped = true → d.left = 0)) && d.sec.all (fun s => s.length == 128)

theorem Dk.valid_iff (d : Dk) : d.valid = true ↔ d.Ok := by
  simp only [Dk.valid, Bool.and_eq_true, decide_eq_true_eq, List.all_eq_true, beq_iff_eq]
  constructor
  · rintro ⟨⟨h1, h2, h3, h4, h5, h6, h7, h8⟩, h9⟩
    exact ⟨h1, h2, fun i h => h9 _ (List.getElem_mem h), h3, h4, h5, h6, h7, h8⟩
  · rintro ⟨h1, h2, h9, h3, h4, h5, h6, h7, h8⟩
    refine ⟨⟨h1, h2, h3, h4, h5, h6, h7, h8⟩, fun s hs => ?_⟩
    obtain ⟨i, hi, rfl⟩ := List.getElem_of_mem hs
    exact h9 i hi

/-- A disk's value. -/
def dkV (sv : Value) (left tear : Int) (st : Bool) : Value := .agg #[sv, .int .i64 left, .int .i64 tear, .bool st]
def IsDk (w : World) (v : Value) (d : Dk) : Prop := ∃ sv, v = dkV sv d.left d.tear d.stopped ∧ IsLists w sv d.sec
theorem IsDk.below {B : Nat} {w w' : World} {v : Value} {d : Dk} (h : IsDk w v d) (hb : Below B w w') (hB : B = w.heap.size) : IsDk w' v d := by
  obtain ⟨sv, h1, h2⟩ := h
  exact ⟨sv, h1, h2.below hb hB⟩

theorem IsDk.sub {w w' : World} {v : Value} {d : Dk} (h : IsDk w v d) (k : Sub w w') : IsDk w' v d := by
  obtain ⟨sv, h1, h2⟩ := h
  exact ⟨sv, h1, h2.sub k⟩

set_option maxHeartbeats 400000 in
theorem check_good1 (w : World) (base : Option Addr) (cap : Nat) (sec : List (List UInt8)) (left tear : Int) (st : Bool) (hcap : cap ≤ 9223372036854775807) (hl1 : sec.length ≤ cap) (k1 : ¬ (sec.length : Int) < 1) (k2 : ¬ (4096 : Int) < (sec.length : Int)) (HC : Hid (∀ i (h : i < sec.length), ∃ b off u, base = some ⟨b, off, none⟩ ∧ (w.alloc (.cells #[.slice base sec.length cap, .int .i64 (-1), .int .i64 0, .bool false] 25)).cell? ⟨b, off + i, none⟩ = some u ∧ IsBytes w u sec[i])) (r : Int) (hr : Hid (r = if sec.all (fun s => s.length == 128) then 0 else 1)) :
    Calls Try.prog 23 #[.agg #[.slice base sec.length cap, .int .i64 (-1), .int .i64 0, .bool false]] w fun e w' => e = .returned (.int .i64 r) ∧ Below w.heap.size w w' := by
  have hB0 : Below w.heap.size w (w.alloc (.cells #[.slice base sec.length cap, .int .i64 (-1), .int .i64 0, .bool false] 25)) := (Below.refl _ _).alloc (Nat.le_refl _) _
  go_enter Try.func23, Try.ntmps23
  go_wp2
  go_loop [4, 56] (fun s c => ∃ k : Nat, k ≤ sec.length ∧ c = .int .i64 k ∧ ∀ j (h : j < sec.length), j < k → (sec[j]).length = 128) (fun _ c => sec.length - (intOf c).toNat)
  case atStart => exact ⟨0, by omega, rfl, fun j _ h => absurd h (by omega)⟩
  case round =>
    obtain ⟨k, hk, rfl, hall⟩ := hrel
    have HA := Lib.hid hall
    clear hall
    by_cases hlt : k < sec.length
    · obtain ⟨b, off, u, rfl, hx, hu⟩ := HC.out k hlt
      obtain ⟨ub, uc, rfl, -, -, -, -⟩ := hu.out
      clear hu
      obtain ⟨m, hm⟩ : ∃ m, (sec[k]).length = m := ⟨_, rfl⟩
      have HM := Lib.hid hm
      rw [hm] at hx
      clear hm
      cases h128 : ((m : Int) != 128)
      · go_wp2
        go_round
        case rel => exact ⟨k + 1, by omega, by go_num, fun j hj hjk => by
          by_cases e : j = k
          · subst e; have := HM.out; simp only [bne_eq_false_iff_eq] at h128; omega
          · exact HA.out j hj (by omega)⟩
        case measure => simp [intOf]; omega
      · go_wp2
        go_ret
        refine ⟨?_, hB0⟩
        have : sec.all (fun s => s.length == 128) = false := by
          rw [List.all_eq_false]
          exact ⟨_, List.getElem_mem hlt, by simp only [beq_iff_eq]; have := HM.out; simp only [bne_iff_ne] at h128; omega⟩
        rw [hr.out, this]; rfl
    · obtain rfl : k = sec.length := by omega
      go_wp2
      go_ret
      refine ⟨?_, hB0⟩
      have : sec.all (fun s => s.length == 128) = true := by
        rw [List.all_eq_true]
        intro s hs
        obtain ⟨i, hi, rfl⟩ := List.getElem_of_mem hs
        simp only [beq_iff_eq]
        exact HA.out i hi hi
      rw [hr.out, this]; rfl

set_option maxHeartbeats 400000 in
theorem check_good2 (w : World) (base : Option Addr) (cap : Nat) (sec : List (List UInt8)) (left tear : Int) (st : Bool) (hcap : cap ≤ 9223372036854775807) (hl1 : sec.length ≤ cap) (k1 : ¬ (sec.length : Int) < 1) (k2 : ¬ (4096 : Int) < (sec.length : Int)) (k5 : ¬ tear < 0) (k6 : ¬ (128 : Int) < tear) (HC : Hid (∀ i (h : i < sec.length), ∃ b off u, base = some ⟨b, off, none⟩ ∧ (w.alloc (.cells #[.slice base sec.length cap, .int .i64 0, .int .i64 tear, .bool true] 25)).cell? ⟨b, off + i, none⟩ = some u ∧ IsBytes w u sec[i])) (r : Int) (hr : Hid (r = if sec.all (fun s => s.length == 128) then 0 else 1)) :
    Calls Try.prog 23 #[.agg #[.slice base sec.length cap, .int .i64 0, .int .i64 tear, .bool true]] w fun e w' => e = .returned (.int .i64 r) ∧ Below w.heap.size w w' := by
  have hB0 : Below w.heap.size w (w.alloc (.cells #[.slice base sec.length cap, .int .i64 0, .int .i64 tear, .bool true] 25)) := (Below.refl _ _).alloc (Nat.le_refl _) _
  go_enter Try.func23, Try.ntmps23
  go_wp2
  go_loop [4, 56] (fun s c => ∃ k : Nat, k ≤ sec.length ∧ c = .int .i64 k ∧ ∀ j (h : j < sec.length), j < k → (sec[j]).length = 128) (fun _ c => sec.length - (intOf c).toNat)
  case atStart => exact ⟨0, by omega, rfl, fun j _ h => absurd h (by omega)⟩
  case round =>
    obtain ⟨k, hk, rfl, hall⟩ := hrel
    have HA := Lib.hid hall
    clear hall
    by_cases hlt : k < sec.length
    · obtain ⟨b, off, u, rfl, hx, hu⟩ := HC.out k hlt
      obtain ⟨ub, uc, rfl, -, -, -, -⟩ := hu.out
      clear hu
      obtain ⟨m, hm⟩ : ∃ m, (sec[k]).length = m := ⟨_, rfl⟩
      have HM := Lib.hid hm
      rw [hm] at hx
      clear hm
      cases h128 : ((m : Int) != 128)
      · go_wp2
        go_round
        case rel => exact ⟨k + 1, by omega, by go_num, fun j hj hjk => by
          by_cases e : j = k
          · subst e; have := HM.out; simp only [bne_eq_false_iff_eq] at h128; omega
          · exact HA.out j hj (by omega)⟩
        case measure => simp [intOf]; omega
      · go_wp2
        go_ret
        refine ⟨?_, hB0⟩
        have : sec.all (fun s => s.length == 128) = false := by
          rw [List.all_eq_false]
          exact ⟨_, List.getElem_mem hlt, by simp only [beq_iff_eq]; have := HM.out; simp only [bne_iff_ne] at h128; omega⟩
        rw [hr.out, this]; rfl
    · obtain rfl : k = sec.length := by omega
      go_wp2
      go_ret
      refine ⟨?_, hB0⟩
      have : sec.all (fun s => s.length == 128) = true := by
        rw [List.all_eq_true]
        intro s hs
        obtain ⟨i, hi, rfl⟩ := List.getElem_of_mem hs
        simp only [beq_iff_eq]
        exact HA.out i hi hi
      rw [hr.out, this]; rfl

set_option maxHeartbeats 400000 in
theorem check_good3 (w : World) (base : Option Addr) (cap : Nat) (sec : List (List UInt8)) (left tear : Int) (st : Bool) (hcap : cap ≤ 9223372036854775807) (hl1 : sec.length ≤ cap) (k1 : ¬ (sec.length : Int) < 1) (k2 : ¬ (4096 : Int) < (sec.length : Int)) (k3 : ¬ left < -1) (k4 : ¬ (1099511627776 : Int) < left) (k5 : ¬ tear < 0) (k6 : ¬ (128 : Int) < tear) (k7 : left ≠ -1) (HC : Hid (∀ i (h : i < sec.length), ∃ b off u, base = some ⟨b, off, none⟩ ∧ (w.alloc (.cells #[.slice base sec.length cap, .int .i64 left, .int .i64 tear, .bool false] 25)).cell? ⟨b, off + i, none⟩ = some u ∧ IsBytes w u sec[i])) (r : Int) (hr : Hid (r = if sec.all (fun s => s.length == 128) then 0 else 1)) :
    Calls Try.prog 23 #[.agg #[.slice base sec.length cap, .int .i64 left, .int .i64 tear, .bool false]] w fun e w' => e = .returned (.int .i64 r) ∧ Below w.heap.size w w' := by
  have hB0 : Below w.heap.size w (w.alloc (.cells #[.slice base sec.length cap, .int .i64 left, .int .i64 tear, .bool false] 25)) := (Below.refl _ _).alloc (Nat.le_refl _) _
  go_enter Try.func23, Try.ntmps23
  go_wp2
  go_loop [4, 56] (fun s c => ∃ k : Nat, k ≤ sec.length ∧ c = .int .i64 k ∧ ∀ j (h : j < sec.length), j < k → (sec[j]).length = 128) (fun _ c => sec.length - (intOf c).toNat)
  case atStart => exact ⟨0, by omega, rfl, fun j _ h => absurd h (by omega)⟩
  case round =>
    obtain ⟨k, hk, rfl, hall⟩ := hrel
    have HA := Lib.hid hall
    clear hall
    by_cases hlt : k < sec.length
    · obtain ⟨b, off, u, rfl, hx, hu⟩ := HC.out k hlt
      obtain ⟨ub, uc, rfl, -, -, -, -⟩ := hu.out
      clear hu
      obtain ⟨m, hm⟩ : ∃ m, (sec[k]).length = m := ⟨_, rfl⟩
      have HM := Lib.hid hm
      rw [hm] at hx
      clear hm
      cases h128 : ((m : Int) != 128)
      · go_wp2
        go_round
        case rel => exact ⟨k + 1, by omega, by go_num, fun j hj hjk => by
          by_cases e : j = k
          · subst e; have := HM.out; simp only [bne_eq_false_iff_eq] at h128; omega
          · exact HA.out j hj (by omega)⟩
        case measure => simp [intOf]; omega
      · go_wp2
        go_ret
        refine ⟨?_, hB0⟩
        have : sec.all (fun s => s.length == 128) = false := by
          rw [List.all_eq_false]
          exact ⟨_, List.getElem_mem hlt, by simp only [beq_iff_eq]; have := HM.out; simp only [bne_iff_ne] at h128; omega⟩
        rw [hr.out, this]; rfl
    · obtain rfl : k = sec.length := by omega
      go_wp2
      go_ret
      refine ⟨?_, hB0⟩
      have : sec.all (fun s => s.length == 128) = true := by
        rw [List.all_eq_true]
        intro s hs
        obtain ⟨i, hi, rfl⟩ := List.getElem_of_mem hs
        simp only [beq_iff_eq]
        exact HA.out i hi hi
      rw [hr.out, this]; rfl

set_option maxHeartbeats 400000 in
theorem check_bad1 (w : World) (base : Option Addr) (cap : Nat) (sec : List (List UInt8)) (left tear : Int) (st : Bool) (hcap : cap ≤ 9223372036854775807) (hl1 : sec.length ≤ cap) (k1 : (sec.length : Int) < 1) :
    Calls Try.prog 23 #[.agg #[.slice base sec.length cap, .int .i64 left, .int .i64 tear, .bool st]] w fun e w' => e = .returned (.int .i64 1) ∧ Below w.heap.size w w' := by
  have hB0 : Below w.heap.size w (w.alloc (.cells #[.slice base sec.length cap, .int .i64 left, .int .i64 tear, .bool st] 25)) := (Below.refl _ _).alloc (Nat.le_refl _) _
  go_enter Try.func23, Try.ntmps23
  go_wp2
  go_ret
  exact ⟨rfl, hB0⟩

set_option maxHeartbeats 400000 in
theorem check_bad2 (w : World) (base : Option Addr) (cap : Nat) (sec : List (List UInt8)) (left tear : Int) (st : Bool) (hcap : cap ≤ 9223372036854775807) (hl1 : sec.length ≤ cap) (k1 : ¬ (sec.length : Int) < 1) (k2 : (4096 : Int) < (sec.length : Int)) :
    Calls Try.prog 23 #[.agg #[.slice base sec.length cap, .int .i64 left, .int .i64 tear, .bool st]] w fun e w' => e = .returned (.int .i64 1) ∧ Below w.heap.size w w' := by
  have hB0 : Below w.heap.size w (w.alloc (.cells #[.slice base sec.length cap, .int .i64 left, .int .i64 tear, .bool st] 25)) := (Below.refl _ _).alloc (Nat.le_refl _) _
  go_enter Try.func23, Try.ntmps23
  go_wp2
  go_ret
  exact ⟨rfl, hB0⟩

set_option maxHeartbeats 400000 in
theorem check_bad3 (w : World) (base : Option Addr) (cap : Nat) (sec : List (List UInt8)) (left tear : Int) (st : Bool) (hcap : cap ≤ 9223372036854775807) (hl1 : sec.length ≤ cap) (k1 : ¬ (sec.length : Int) < 1) (k2 : ¬ (4096 : Int) < (sec.length : Int)) (k3 : left < -1) :
    Calls Try.prog 23 #[.agg #[.slice base sec.length cap, .int .i64 left, .int .i64 tear, .bool st]] w fun e w' => e = .returned (.int .i64 1) ∧ Below w.heap.size w w' := by
  have hB0 : Below w.heap.size w (w.alloc (.cells #[.slice base sec.length cap, .int .i64 left, .int .i64 tear, .bool st] 25)) := (Below.refl _ _).alloc (Nat.le_refl _) _
  go_enter Try.func23, Try.ntmps23
  go_wp2
  go_ret
  exact ⟨rfl, hB0⟩

set_option maxHeartbeats 400000 in
theorem check_bad4 (w : World) (base : Option Addr) (cap : Nat) (sec : List (List UInt8)) (left tear : Int) (st : Bool) (hcap : cap ≤ 9223372036854775807) (hl1 : sec.length ≤ cap) (k1 : ¬ (sec.length : Int) < 1) (k2 : ¬ (4096 : Int) < (sec.length : Int)) (k3 : ¬ left < -1) (k4 : (1099511627776 : Int) < left) :
    Calls Try.prog 23 #[.agg #[.slice base sec.length cap, .int .i64 left, .int .i64 tear, .bool st]] w fun e w' => e = .returned (.int .i64 1) ∧ Below w.heap.size w w' := by
  have hB0 : Below w.heap.size w (w.alloc (.cells #[.slice base sec.length cap, .int .i64 left, .int .i64 tear, .bool st] 25)) := (Below.refl _ _).alloc (Nat.le_refl _) _
  go_enter Try.func23, Try.ntmps23
  go_wp2
  go_ret
  exact ⟨rfl, hB0⟩

set_option maxHeartbeats 400000 in
theorem check_bad5 (w : World) (base : Option Addr) (cap : Nat) (sec : List (List UInt8)) (left tear : Int) (st : Bool) (hcap : cap ≤ 9223372036854775807) (hl1 : sec.length ≤ cap) (k1 : ¬ (sec.length : Int) < 1) (k2 : ¬ (4096 : Int) < (sec.length : Int)) (k3 : ¬ left < -1) (k4 : ¬ (1099511627776 : Int) < left) (k5 : tear < 0) :
    Calls Try.prog 23 #[.agg #[.slice base sec.length cap, .int .i64 left, .int .i64 tear, .bool st]] w fun e w' => e = .returned (.int .i64 1) ∧ Below w.heap.size w w' := by
  have hB0 : Below w.heap.size w (w.alloc (.cells #[.slice base sec.length cap, .int .i64 left, .int .i64 tear, .bool st] 25)) := (Below.refl _ _).alloc (Nat.le_refl _) _
  go_enter Try.func23, Try.ntmps23
  go_wp2
  go_ret
  exact ⟨rfl, hB0⟩

set_option maxHeartbeats 400000 in
theorem check_bad6 (w : World) (base : Option Addr) (cap : Nat) (sec : List (List UInt8)) (left tear : Int) (st : Bool) (hcap : cap ≤ 9223372036854775807) (hl1 : sec.length ≤ cap) (k1 : ¬ (sec.length : Int) < 1) (k2 : ¬ (4096 : Int) < (sec.length : Int)) (k3 : ¬ left < -1) (k4 : ¬ (1099511627776 : Int) < left) (k5 : ¬ tear < 0) (k6 : (128 : Int) < tear) :
    Calls Try.prog 23 #[.agg #[.slice base sec.length cap, .int .i64 left, .int .i64 tear, .bool st]] w fun e w' => e = .returned (.int .i64 1) ∧ Below w.heap.size w w' := by
  have hB0 : Below w.heap.size w (w.alloc (.cells #[.slice base sec.length cap, .int .i64 left, .int .i64 tear, .bool st] 25)) := (Below.refl _ _).alloc (Nat.le_refl _) _
  go_enter Try.func23, Try.ntmps23
  go_wp2
  go_ret
  exact ⟨rfl, hB0⟩

set_option maxHeartbeats 400000 in
theorem check_bad7 (w : World) (base : Option Addr) (cap : Nat) (sec : List (List UInt8)) (left tear : Int) (st : Bool) (hcap : cap ≤ 9223372036854775807) (hl1 : sec.length ≤ cap) (k1 : ¬ (sec.length : Int) < 1) (k2 : ¬ (4096 : Int) < (sec.length : Int)) (k5 : ¬ tear < 0) (k6 : ¬ (128 : Int) < tear) (k8 : tear ≠ 0) :
    Calls Try.prog 23 #[.agg #[.slice base sec.length cap, .int .i64 (-1), .int .i64 tear, .bool st]] w fun e w' => e = .returned (.int .i64 1) ∧ Below w.heap.size w w' := by
  have hB0 : Below w.heap.size w (w.alloc (.cells #[.slice base sec.length cap, .int .i64 (-1), .int .i64 tear, .bool st] 25)) := (Below.refl _ _).alloc (Nat.le_refl _) _
  go_enter Try.func23, Try.ntmps23
  go_wp2
  go_ret
  exact ⟨rfl, hB0⟩

set_option maxHeartbeats 400000 in
theorem check_bad8 (w : World) (base : Option Addr) (cap : Nat) (sec : List (List UInt8)) (left tear : Int) (st : Bool) (hcap : cap ≤ 9223372036854775807) (hl1 : sec.length ≤ cap) (k1 : ¬ (sec.length : Int) < 1) (k2 : ¬ (4096 : Int) < (sec.length : Int)) :
    Calls Try.prog 23 #[.agg #[.slice base sec.length cap, .int .i64 (-1), .int .i64 0, .bool true]] w fun e w' => e = .returned (.int .i64 1) ∧ Below w.heap.size w w' := by
  have hB0 : Below w.heap.size w (w.alloc (.cells #[.slice base sec.length cap, .int .i64 (-1), .int .i64 0, .bool true] 25)) := (Below.refl _ _).alloc (Nat.le_refl _) _
  go_enter Try.func23, Try.ntmps23
  go_wp2
  go_ret
  exact ⟨rfl, hB0⟩

set_option maxHeartbeats 400000 in
theorem check_bad9 (w : World) (base : Option Addr) (cap : Nat) (sec : List (List UInt8)) (left tear : Int) (st : Bool) (hcap : cap ≤ 9223372036854775807) (hl1 : sec.length ≤ cap) (k1 : ¬ (sec.length : Int) < 1) (k2 : ¬ (4096 : Int) < (sec.length : Int)) (k3 : ¬ left < -1) (k4 : ¬ (1099511627776 : Int) < left) (k5 : ¬ tear < 0) (k6 : ¬ (128 : Int) < tear) (k7 : left ≠ -1) (k8 : left ≠ 0) :
    Calls Try.prog 23 #[.agg #[.slice base sec.length cap, .int .i64 left, .int .i64 tear, .bool true]] w fun e w' => e = .returned (.int .i64 1) ∧ Below w.heap.size w w' := by
  have hB0 : Below w.heap.size w (w.alloc (.cells #[.slice base sec.length cap, .int .i64 left, .int .i64 tear, .bool true] 25)) := (Below.refl _ _).alloc (Nat.le_refl _) _
  go_enter Try.func23, Try.ntmps23
  go_wp2
  go_ret
  exact ⟨rfl, hB0⟩

theorem check_any (w : World) (v : Value) (d : Dk) (hv : IsDk w v d) :
    Calls Try.prog 23 #[v] w fun e w' => e = .returned (.int .i64 (if d.valid then 0 else 1)) ∧ Below w.heap.size w w' := by
  obtain ⟨sv, rfl, hl⟩ := hv
  obtain ⟨sec, left, tear, st⟩ := d
  simp only [dkV] at *
  obtain ⟨base, cap, rfl, hl1, hcap, -, hcell⟩ := hl.out
  unfold maxLen at hcap
  have hcap : cap ≤ 9223372036854775807 := hcap
  have HC : ∀ l t s, Hid (∀ i (h : i < sec.length), ∃ b off u, base = some ⟨b, off, none⟩ ∧ (w.alloc (.cells #[.slice base sec.length cap, .int .i64 l, .int .i64 t, .bool s] 25)).cell? ⟨b, off + i, none⟩ = some u ∧ IsBytes w u sec[i]) := by
    refine fun l t s => Lib.hid (fun i hi => ?_)
    obtain ⟨b, off, u, h1, h2, h3⟩ := hcell i hi
    refine ⟨b, off, u, h1, ?_, h3⟩
    have hb : b < w.heap.size := by
      rcases Nat.lt_or_ge b w.heap.size with h | h
      · exact h
      · simp [World.cell?, Array.getElem?_eq_none h] at h2
    rw [World.cell?_of_block (w := w) (Below.heap_alloc w _ b hb)]
    exact h2
  by_cases g : 1 ≤ sec.length ∧ sec.length ≤ 4096 ∧ -1 ≤ left ∧ left ≤ 1099511627776 ∧ 0 ≤ tear ∧ tear ≤ 128 ∧ (left = -1 → tear = 0) ∧ (st = true → left = 0)
  · have hval : Dk.valid ⟨sec, left, tear, st⟩ = sec.all (fun s => s.length == 128) := by simp only [Dk.valid]; rw [decide_eq_true g, Bool.true_and]
    rw [hval]
    obtain ⟨g1, g2, g3, g4, g5, g6, g7, g8⟩ := g
    by_cases e : left = -1
    · subst e
      have e := g7 rfl
      subst e
      cases st
      · exact check_good1 w base cap sec (-1) 0 false hcap hl1 (by omega) (by omega) (HC _ _ _) _ (Lib.hid rfl)
      · have := g8 rfl
        omega
    · cases st
      · exact check_good3 w base cap sec left tear false hcap hl1 (by omega) (by omega) (by omega) (by omega) (by omega) (by omega) e (HC _ _ _) _ (Lib.hid rfl)
      · obtain rfl := g8 rfl
        exact check_good2 w base cap sec 0 tear true hcap hl1 (by omega) (by omega) (by omega) (by omega) (HC _ _ _) _ (Lib.hid rfl)
  · have hval : Dk.valid ⟨sec, left, tear, st⟩ = false := by simp only [Dk.valid, decide_eq_false g, Bool.false_and]
    rw [hval]
    by_cases k1 : (sec.length : Int) < 1
    · exact check_bad1 w base cap sec left tear st hcap hl1 k1
    by_cases k2 : (4096 : Int) < (sec.length : Int)
    · exact check_bad2 w base cap sec left tear st hcap hl1 k1 k2
    by_cases k3 : left < -1
    · exact check_bad3 w base cap sec left tear st hcap hl1 k1 k2 k3
    by_cases k4 : (1099511627776 : Int) < left
    · exact check_bad4 w base cap sec left tear st hcap hl1 k1 k2 k3 k4
    by_cases k5 : tear < 0
    · exact check_bad5 w base cap sec left tear st hcap hl1 k1 k2 k3 k4 k5
    by_cases k6 : (128 : Int) < tear
    · exact check_bad6 w base cap sec left tear st hcap hl1 k1 k2 k3 k4 k5 k6
    by_cases k7 : left = -1
    · subst k7
      by_cases k8 : tear = 0
      · subst k8
        cases st
        · exact absurd ⟨by omega, by omega, by omega, by omega, by omega, by omega, fun _ => rfl, fun h => by simp at h⟩ g
        · exact check_bad8 w base cap sec (-1) 0 true hcap hl1 k1 k2
      · exact check_bad7 w base cap sec (-1) tear st hcap hl1 k1 k2 k5 k6 k8
    · cases st
      · exact absurd ⟨by omega, by omega, by omega, by omega, by omega, by omega, fun h => absurd h k7, fun h => by simp at h⟩ g
      · by_cases k8 : left = 0
        · exact absurd ⟨by omega, by omega, by omega, by omega, by omega, by omega, fun h => absurd h k7, fun _ => k8⟩ g
        · exact check_bad9 w base cap sec left tear true hcap hl1 k1 k2 k3 k4 k5 k6 k7 k8

end Go.Proofs.Ytkfikcppnbfmoaa
