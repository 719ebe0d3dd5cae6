/- The walks over package asofref30: SameBytes. -/
import Derived.Test.YtnfgapdpnihicaaChecked
import Derived.Test.YtnfgapdpnihicaaZGD
import Derived.BigQuiet
import Derived.Deep.Cut
namespace Go.Proofs.Ytnfgapdpnihicaa
open Go.RowKit

theorem _root_.Go.RowKit.Below.drewN {B : Nat} {a w : World} (h : Below B a w) (n : Nat) : Below B a (w.drewN n) := ⟨h.os, h.tape, h.output, h.size, h.block⟩

set_option maxHeartbeats 1000000 in
theorem sameBytes_quiet (w : World) (va vb : Value) (a b : List UInt8) (ha : IsBytes w va a) (hb : IsBytes w vb b) :
    Calls Try.prog 51 #[va, vb] w fun e w' => e = .returned (.bool (decide (a = b))) ∧ ∃ m, w' = w.drewN m := by
  have HA := Lib.hid ha
  have HB := Lib.hid hb
  obtain ⟨abase, acap, rfl, hal, hac, -, -⟩ := ha.out
  obtain ⟨bbase, bcap, rfl, hbl, hbc, -, -⟩ := hb.out
  clear ha hb
  unfold maxLen at hac hbc
  obtain ⟨r, hr⟩ : ∃ r, decide (a = b) = r := ⟨_, rfl⟩
  rw [hr]
  have HR := Lib.hid hr
  clear hr
  go_enter Try.func51, Try.ntmps51
  go_wp2
  · rename_i hlen
    go_ret
    refine ⟨?_, 0, rfl⟩
    have : decide (a = b) = false := decide_eq_false (fun e => by subst e; simp at hlen)
    rw [show r = _ from HR.out.symm.trans this]; rfl
  · have hlen : a.length = b.length := by
      have h := ‹((a.length : Int) != (b.length : Int)) = false›
      rw [bne_eq_false_iff_eq] at h
      omega
    have HL := Lib.hid hlen
    clear hlen
    go_loopw [5] (fun c wr => ∃ k : Nat, k ≤ a.length ∧ c = .int .i64 k ∧ a.take k = b.take k ∧ ∃ m, wr = w.drewN m) (fun c _ => a.length - (intOf c).toNat)
    case atStart => exact ⟨0, by omega, rfl, rfl, 0, rfl⟩
    case round =>
      obtain ⟨k, hk, rfl, htk, m, rfl⟩ := hrel
      have HT := Lib.hid htk
      clear htk
      by_cases hlt : k < a.length
      · have hkb : k < b.length := by have := HL.out; omega
        obtain ⟨_, _, e1, -, -, -, hca⟩ := HA.out.out
        cases e1
        obtain ⟨_, _, e2, -, -, -, hcb⟩ := HB.out.out
        cases e2
        obtain ⟨ab, ao, rfl, hxa⟩ := hca k hlt
        obtain ⟨bb, bo, rfl, hxb⟩ := hcb k hkb
        clear hca hcb
        have i1 : (k : Int) < (a.length : Int) := by omega
        have i2 : (k : Int) < (b.length : Int) := by omega
        go_wp2
        go_quiet (fail)
        go_wp2
        · rename_i hx
          go_ret
          refine ⟨?_, _, by first | rfl | exact World.drewN_drewN _ _ _⟩
          have : decide (a = b) = false := decide_eq_false (fun e => by subst e; simp at hx)
          rw [show r = _ from HR.out.symm.trans this]; rfl
        · rename_i hx
          go_roundw
          case rel =>
            refine ⟨k + 1, by omega, by go_num, ?_, _, by first | rfl | exact World.drewN_drewN _ _ _⟩
            have hab : a[k] = b[k] := by
              simp only [bne_eq_false_iff_eq] at hx
              exact UInt8.toNat_inj.1 (by omega)
            rw [List.take_succ_eq_append_getElem hlt, List.take_succ_eq_append_getElem hkb, HT.out, hab]
          case measure => simp [intOf]; omega
      · obtain rfl : k = a.length := by omega
        go_wp2
        go_ret
        refine ⟨?_, _, by first | rfl | exact World.drewN_drewN _ _ _⟩
        have : decide (a = b) = true := by
          have h := HT.out
          rw [List.take_length, HL.out, List.take_length] at h
          exact decide_eq_true h
        rw [show r = _ from HR.out.symm.trans this]; rfl

theorem sameBytes_any (w : World) (va vb : Value) (a b : List UInt8) (ha : IsBytes w va a) (hb : IsBytes w vb b) :
    Calls Try.prog 51 #[va, vb] w fun e w' => e = .returned (.bool (decide (a = b))) ∧ Below w.heap.size w w' :=
  (sameBytes_quiet w va vb a b ha hb).mono fun _ _ ⟨h1, m, h2⟩ => ⟨h1, h2 ▸ (Below.refl _ w).drewN m⟩

end Go.Proofs.Ytnfgapdpnihicaa
/- The walk over asofref30.SameDisk, at two readings of one disk. -/
namespace Go.Proofs.Ytnfgapdpnihicaa
open Go.RowKit

theorem IsDk.open_ {w : World} {v : Value} {d : Dk} (h : IsDk w v d) : ∃ base cap, v = .agg #[.slice base d.sec.length cap, .int .i64 d.left, .int .i64 d.tear, .bool d.stopped] ∧ d.sec.length ≤ cap ∧ cap ≤ 9223372036854775807 ∧
    ∀ i (h : i < d.sec.length), ∃ b off ub uc, base = some ⟨b, off, none⟩ ∧ w.cell? ⟨b, off + i, none⟩ = some (.slice ub (d.sec[i]).length uc) ∧ IsBytes w (.slice ub (d.sec[i]).length uc) d.sec[i] := by
  obtain ⟨sv, rfl, hl⟩ := h
  obtain ⟨base, cap, rfl, h1, h2, -, hc⟩ := hl.out
  unfold maxLen at h2
  refine ⟨base, cap, rfl, h1, by omega, fun i hi => ?_⟩
  obtain ⟨b, off, u, e, hx, hu⟩ := hc i hi
  obtain ⟨ub, uc, rfl, -⟩ := hu.out
  exact ⟨b, off, ub, uc, e, hx, hu⟩

set_option maxHeartbeats 1000000 in
theorem sameDisk_eq (w : World) (va vb : Value) (d : Dk) (hd : d.sec.length ≤ 1048576) (ha : IsDk w va d) (hb : IsDk w vb d) :
    Calls Try.prog 23 #[va, vb] w fun e w' => e = .returned (.bool true) ∧ Below w.heap.size w w' := by
  obtain ⟨sec, left, tear, st⟩ := d
  obtain ⟨ab, ac, rfl, ha1, ha2, hac⟩ := ha.open_
  obtain ⟨bb, bc, rfl, hb1, hb2, hbc⟩ := hb.open_
  simp only at *
  have HAC := Lib.hid hac
  have HBC := Lib.hid hbc
  clear hac hbc ha hb
  have hB0 : Below w.heap.size w ((w.alloc (.cells #[.slice ab sec.length ac, .int .i64 left, .int .i64 tear, .bool st] 24)).alloc (.cells #[.slice bb sec.length bc, .int .i64 left, .int .i64 tear, .bool st] 24)) := ((Below.refl _ _).alloc (Nat.le_refl _) _).alloc (by simp) _
  have hrs := heap_alloc2_old w (.cells #[.slice ab sec.length ac, .int .i64 left, .int .i64 tear, .bool st] 24) (.cells #[.slice bb sec.length bc, .int .i64 left, .int .i64 tear, .bool st] 24)
  have hrt := heap_alloc2_new w (.cells #[.slice ab sec.length ac, .int .i64 left, .int .i64 tear, .bool st] 24) (.cells #[.slice bb sec.length bc, .int .i64 left, .int .i64 tear, .bool st] 24)
  go_enter Try.func23, Try.ntmps23
  go_wp2
  obtain ⟨W, hW⟩ : ∃ W, (w.alloc (.cells #[.slice ab sec.length ac, .int .i64 left, .int .i64 tear, .bool st] 24)).alloc (.cells #[.slice bb sec.length bc, .int .i64 left, .int .i64 tear, .bool st] 24) = W := ⟨_, rfl⟩
  rw [hW] at hB0 hrs hrt ⊢
  clear hW
  obtain ⟨a0, -, -, -, -, -⟩ := dkO_cells hrs
  obtain ⟨b0, -, -, -, -, -⟩ := dkO_cells hrt
  clear hrs hrt
  have A0 := Lib.hid a0
  have B0 := Lib.hid b0
  clear a0 b0
  go_loopw [5] (fun c wr => ∃ k : Nat, k ≤ sec.length ∧ c = .int .i64 k ∧ ∃ m, wr = W.drewN m) (fun c _ => sec.length - (intOf c).toNat)
  case atStart => exact ⟨0, by omega, rfl, 0, rfl⟩
  case round =>
    obtain ⟨k, hk, rfl, hm⟩ := hrel
    have hBr : Below w.heap.size w wr := by obtain ⟨m, rfl⟩ := hm; exact hB0.drewN m
    have a0 : wr.cell? ⟨w.heap.size, 0, none⟩ = some (.slice ab sec.length ac) := by obtain ⟨m, rfl⟩ := hm; exact A0.out
    have b0 : wr.cell? ⟨w.heap.size + 1, 0, none⟩ = some (.slice bb sec.length bc) := by obtain ⟨m, rfl⟩ := hm; exact B0.out
    have HM := Lib.hid hm
    clear hm
    by_cases hlt : k < sec.length
    · obtain ⟨xb, xo, xub, xuc, rfl, hx, hxu⟩ := HAC.out k hlt
      obtain ⟨yb, yo, yub, yuc, rfl, hy, hyu⟩ := HBC.out k hlt
      have hx1 := (hBr.cell (cell_lt hx)).trans hx
      have hy1 := (hBr.cell (cell_lt hy)).trans hy
      have hxu1 := hxu.below hBr rfl
      have hyu1 := hyu.below hBr rfl
      have HXU := Lib.hid hxu1
      have HYU := Lib.hid hyu1
      clear hx hy hxu hyu hxu1 hyu1
      have i1 : (k : Int) < (sec.length : Int) := by omega
      have hq : ∀ n, Calls Try.prog 51 #[.slice xub (sec[k]).length xuc, .slice yub (sec[k]).length yuc] (wr.drewN n) fun e w'' => e = .returned (.bool true) ∧ ∃ m, w'' = wr.drewN m := fun n =>
        (sameBytes_quiet _ _ _ sec[k] sec[k] (show IsBytes (wr.drewN n) _ _ from HXU.out) (show IsBytes (wr.drewN n) _ _ from HYU.out)).mono fun _ _ ⟨h1, m, h2⟩ => ⟨by rw [h1]; simp, n + m, by rw [h2, World.drewN_drewN]⟩
      have HQ := Lib.hid hq
      clear hq
      go_wp2
      go_quiet ((go_at_call 51; exact HQ.out _))
      go_wp2
      go_roundw
      case rel => exact ⟨k + 1, by omega, by go_num, by obtain ⟨m, rfl⟩ := HM.out; exact ⟨_, World.drewN_drewN _ _ _⟩⟩
      case measure => simp [intOf]; omega
    · obtain rfl : k = sec.length := by omega
      go_wp2
      go_ret
      exact ⟨rfl, hBr⟩

end Go.Proofs.Ytnfgapdpnihicaa
/- The walk over asofref30.Valid, at the valid disks. Printed by wip/tools/gen_refvalid.py. -/
set_option linter.unusedVariables false
namespace Go.Proofs.Ytnfgapdpnihicaa
open Go.RowKit

set_option maxHeartbeats 400000 in
theorem refValid1 (w : World) (base : Option Addr) (cap : Nat) (sec : List (List UInt8)) (left tear : Int) (hcap : cap ≤ 9223372036854775807) (hl1 : sec.length ≤ cap) (k1 : (1 : Int) ≤ (sec.length : Int)) (k2 : (sec.length : Int) ≤ 4096) 
    (HC : Hid (∀ i (h : i < sec.length), ∃ b off ub uc, base = some ⟨b, off, none⟩ ∧ (w.alloc (.cells #[.slice base sec.length cap, .int .i64 (-1), .int .i64 0, .bool false] 24)).cell? ⟨b, off + i, none⟩ = some (.slice ub 128 uc))) :
    Calls Try.prog 54 #[.agg #[.slice base sec.length cap, .int .i64 (-1), .int .i64 0, .bool false]] w fun e w' => e = .returned (.bool true) ∧ Below w.heap.size w w' := by
  have hB0 : Below w.heap.size w (w.alloc (.cells #[.slice base sec.length cap, .int .i64 (-1), .int .i64 0, .bool false] 24)) := (Below.refl _ _).alloc (Nat.le_refl _) _
  go_enter Try.func54, Try.ntmps54
  go_wp2
  go_loop [3] (fun c => ∃ k : Nat, k ≤ sec.length ∧ c = .int .i64 k) (fun c => sec.length - (intOf c).toNat)
  case atStart => exact ⟨0, by omega, rfl⟩
  case round =>
    obtain ⟨k, hk, rfl⟩ := hrel
    by_cases hlt : k < sec.length
    · obtain ⟨b, off, ub, uc, rfl, hx⟩ := HC.out k hlt
      go_wp2
      go_round
      case rel => exact ⟨k + 1, by omega, by go_num⟩
      case measure => simp [intOf]; omega
    · obtain rfl : k = sec.length := by omega
      go_wp2
      go_ret
      exact ⟨rfl, hB0⟩

set_option maxHeartbeats 400000 in
theorem refValid2 (w : World) (base : Option Addr) (cap : Nat) (sec : List (List UInt8)) (left tear : Int) (hcap : cap ≤ 9223372036854775807) (hl1 : sec.length ≤ cap) (k1 : (1 : Int) ≤ (sec.length : Int)) (k2 : (sec.length : Int) ≤ 4096) (k5 : ¬ tear < 0) (k6 : ¬ (128 : Int) < tear)
    (HC : Hid (∀ i (h : i < sec.length), ∃ b off ub uc, base = some ⟨b, off, none⟩ ∧ (w.alloc (.cells #[.slice base sec.length cap, .int .i64 0, .int .i64 tear, .bool true] 24)).cell? ⟨b, off + i, none⟩ = some (.slice ub 128 uc))) :
    Calls Try.prog 54 #[.agg #[.slice base sec.length cap, .int .i64 0, .int .i64 tear, .bool true]] w fun e w' => e = .returned (.bool true) ∧ Below w.heap.size w w' := by
  have hB0 : Below w.heap.size w (w.alloc (.cells #[.slice base sec.length cap, .int .i64 0, .int .i64 tear, .bool true] 24)) := (Below.refl _ _).alloc (Nat.le_refl _) _
  go_enter Try.func54, Try.ntmps54
  go_wp2
  go_loop [3] (fun c => ∃ k : Nat, k ≤ sec.length ∧ c = .int .i64 k) (fun c => sec.length - (intOf c).toNat)
  case atStart => exact ⟨0, by omega, rfl⟩
  case round =>
    obtain ⟨k, hk, rfl⟩ := hrel
    by_cases hlt : k < sec.length
    · obtain ⟨b, off, ub, uc, rfl, hx⟩ := HC.out k hlt
      go_wp2
      go_round
      case rel => exact ⟨k + 1, by omega, by go_num⟩
      case measure => simp [intOf]; omega
    · obtain rfl : k = sec.length := by omega
      go_wp2
      go_ret
      exact ⟨rfl, hB0⟩

set_option maxHeartbeats 400000 in
theorem refValid3 (w : World) (base : Option Addr) (cap : Nat) (sec : List (List UInt8)) (left tear : Int) (hcap : cap ≤ 9223372036854775807) (hl1 : sec.length ≤ cap) (k1 : (1 : Int) ≤ (sec.length : Int)) (k2 : (sec.length : Int) ≤ 4096) (k3 : ¬ left < -1) (k4 : ¬ (1099511627776 : Int) < left) (k5 : ¬ tear < 0) (k6 : ¬ (128 : Int) < tear) (k7 : left ≠ -1)
    (HC : Hid (∀ i (h : i < sec.length), ∃ b off ub uc, base = some ⟨b, off, none⟩ ∧ (w.alloc (.cells #[.slice base sec.length cap, .int .i64 left, .int .i64 tear, .bool false] 24)).cell? ⟨b, off + i, none⟩ = some (.slice ub 128 uc))) :
    Calls Try.prog 54 #[.agg #[.slice base sec.length cap, .int .i64 left, .int .i64 tear, .bool false]] w fun e w' => e = .returned (.bool true) ∧ Below w.heap.size w w' := by
  have hB0 : Below w.heap.size w (w.alloc (.cells #[.slice base sec.length cap, .int .i64 left, .int .i64 tear, .bool false] 24)) := (Below.refl _ _).alloc (Nat.le_refl _) _
  go_enter Try.func54, Try.ntmps54
  go_wp2
  go_loop [3] (fun c => ∃ k : Nat, k ≤ sec.length ∧ c = .int .i64 k) (fun c => sec.length - (intOf c).toNat)
  case atStart => exact ⟨0, by omega, rfl⟩
  case round =>
    obtain ⟨k, hk, rfl⟩ := hrel
    by_cases hlt : k < sec.length
    · obtain ⟨b, off, ub, uc, rfl, hx⟩ := HC.out k hlt
      go_wp2
      go_round
      case rel => exact ⟨k + 1, by omega, by go_num⟩
      case measure => simp [intOf]; omega
    · obtain rfl : k = sec.length := by omega
      go_wp2
      go_ret
      exact ⟨rfl, hB0⟩

theorem refValid_any (w : World) (v : Value) (d : Dk) (hd : d.Ok) (hv : IsDk w v d) :
    Calls Try.prog 54 #[v] w fun e w' => e = .returned (.bool true) ∧ Below w.heap.size w w' := by
  obtain ⟨sv, rfl, hl⟩ := hv
  obtain ⟨sec, left, tear, st⟩ := d
  obtain ⟨g1, g2, g9, g3, g4, g5, g6, g7, g8⟩ := hd
  simp only [dkV] at *
  obtain ⟨base, cap, rfl, hl1, hcap, -, hcell⟩ := hl.out
  unfold maxLen at hcap
  have hcap : cap ≤ 9223372036854775807 := hcap
  have HC : ∀ l t s, Hid (∀ i (h : i < sec.length), ∃ b off ub uc, base = some ⟨b, off, none⟩ ∧ (w.alloc (.cells #[.slice base sec.length cap, .int .i64 l, .int .i64 t, .bool s] 24)).cell? ⟨b, off + i, none⟩ = some (.slice ub 128 uc)) := by
    refine fun l t s => Lib.hid (fun i hi => ?_)
    obtain ⟨b, off, u, h1, h2, h3⟩ := hcell i hi
    obtain ⟨ub, uc, rfl, -, -, -, -⟩ := h3.out
    rw [g9 i hi] at h2
    refine ⟨b, off, ub, uc, h1, ?_⟩
    rw [World.cell?_of_block (w := w) (Below.heap_alloc w _ b (cell_lt h2))]
    exact h2
  by_cases e : left = -1
  · subst e
    have e := g7 rfl
    subst e
    cases st
    · exact refValid1 w base cap sec (-1) 0 hcap hl1 (by omega) (by omega) (HC _ _ _)
    · have := g8 rfl
      omega
  · cases st
    · exact refValid3 w base cap sec left tear hcap hl1 (by omega) (by omega) (by omega) (by omega) (by omega) (by omega) e (HC _ _ _)
    · obtain rfl := g8 rfl
      exact refValid2 w base cap sec 0 tear hcap hl1 (by omega) (by omega) (by omega) (by omega) (HC _ _ _)

end Go.Proofs.Ytnfgapdpnihicaa
/- The walk over asofref30.Restart, at the valid disks. -/
namespace Go.Proofs.Ytnfgapdpnihicaa
open Go.RowKit

set_option maxHeartbeats 1000000 in
theorem refRestart_any (S : Nat → Bool) (w : World) (v : Value) (d : Dk) (hd : d.Ok) (hvm : IsDk (mask S w) v d) :
    Calls Try.prog 26 #[v] w fun e w' => ∃ v', e = .returned v' ∧ IsDk (mask S w') v' d.restart ∧ Below w.heap.size w w' := by
  obtain ⟨sv, rfl, hlm⟩ := hvm
  have hl := hlm.sub (mask_is S w)
  have hv' : IsDk w _ d := ⟨sv, rfl, hl⟩
  have HLM := Lib.hid hlm
  clear hlm
  have hB0 : Below w.heap.size w ((w.alloc (.cells #[sv, .int .i64 d.left, .int .i64 d.tear, .bool d.stopped] 24)).alloc (.cells #[.slice none 0 0, .int .i64 0, .int .i64 0, .bool false] 24)) := ((Below.refl _ _).alloc (Nat.le_refl _) _).alloc (by simp) _
  have hv0 := hv'.below hB0 rfl
  have HL := Lib.hid hl
  have hc := refValid_any _ _ d hd hv0
  obtain ⟨base, cap, rfl, hl1, hcap, -, -⟩ := hl.out
  unfold maxLen at hcap
  have hval : d.valid = true := (Dk.valid_iff d).2 hd
  have hr : d.restart = { d with left := -1, tear := 0, stopped := false } := by simp [Dk.restart, hval]
  rw [hr]
  clear hv' hv0 hl
  simp only [dkV] at *
  go_enter Try.func26, Try.ntmps26
  go_wp2_with fail
  refine hc.mono ?_
  rintro e w1 ⟨rfl, hb1⟩
  have hrs := box2_b hb1
  obtain ⟨c0, c1, c2, c3, f1, f2⟩ := dkO_cells (box2_a hb1)
  go_wp2_with (refine wpList_store_row rfl 24 (.tmp 2) (.tmp 9) rfl (w.heap.size + 1) #[.slice base d.sec.length cap, .int .i64 (-1), .int .i64 0, .bool false] rfl rfl 24 _ hrs disk_info rfl (one4 HL.out.one _ _ _) ?_)
  try simp only [Exit.inBlock, Exit.then]
  have hbz := below_setRow (hB0.trans (hb1.mono hB0.size)) (Nat.le_succ w.heap.size) #[.slice base d.sec.length cap, .int .i64 (-1), .int .i64 0, .bool false]
  exact ret_disk1 (w.heap.size + 1) (.slice base d.sec.length cap) (-1) 0 false rfl rfl (setRow_heap _ _ _ _ _ _ hrs) rfl ⟨_, rfl, ⟨_, rfl, HLM.out.sub (mask_below hbz rfl)⟩, hbz⟩

end Go.Proofs.Ytnfgapdpnihicaa
/- The walks over asofref30.with, Write, at the valid disks. -/
namespace Go.Proofs.Ytnfgapdpnihicaa
open Go.RowKit

set_option maxHeartbeats 1000000 in
theorem refWith_any (S : Nat → Bool) (w : World) (hS : ∀ k, S k = true → k < w.heap.size) (v : Value) (d : Dk) (hv : IsDk (mask S w) v d) (hd : d.Ok) (i : Nat) (hi : i < d.sec.length) (bv : Value) (b : List UInt8) (hb : IsBytes w bv b) (hb1 : b.length = 128) (m : Nat) (hm : m ≤ 128) :
    Calls Try.prog 64 #[v, .int .i64 i, bv, .int .i64 m] w fun e w' => ∃ v', e = .returned v' ∧ IsDk (mask S w') v' { d with sec := putAt d.sec i (b.take m) } ∧ Below w.heap.size w w' := by
  obtain ⟨sv, rfl, hlm⟩ := hv
  have hl := hlm.sub (mask_is S w)
  obtain ⟨base, cap, rfl, hl1, hcap, -, hcell⟩ := hl.out
  unfold maxLen at hcap
  obtain ⟨xb, xo, u, rfl, hx, hu⟩ := hcell i hi
  have h128 := hd.size i hi
  obtain ⟨ub, uc, rfl, -, huc, -, -⟩ := hu.out
  obtain ⟨bb, bc, rfl, hbl, hbc, -, -⟩ := hb.out
  unfold maxLen at hbc huc
  have hbt := hb.take m (by omega)
  have hut := hu.from_ m (by omega)
  obtain ⟨tb, htb⟩ : ∃ tb, (if uc = m then ub else Option.map (fun x => x.add m) ub) = tb := ⟨_, rfl⟩
  rw [htb] at hut
  have H128 := Lib.hid h128
  have q1 : m ≤ bc := by omega
  have q2 : m ≤ (d.sec[i]).length := by omega
  have hmany := hd.many
  obtain ⟨vs, hrow, hone, hvs⟩ := hlm.parts
  have HLM := Lib.hid (And.intro hrow (And.intro hone hvs))
  have HD := Lib.hid hd
  have HI := Lib.hid hi
  simp only [dkV] at *
  clear hcell hl hlm hd hrow hone hvs
  obtain ⟨sec, left, tear, st⟩ := d
  simp only at *
  have hB0 : Below w.heap.size w ((w.alloc (.cells #[.slice (some ⟨xb, xo, none⟩) sec.length cap, .int .i64 left, .int .i64 tear, .bool st] 24)).alloc (.cells #[.slice none 0 0, .int .i64 0, .int .i64 0, .bool false] 24)) := ((Below.refl _ _).alloc (Nat.le_refl _) _).alloc (by simp) _
  have hrd := heap_alloc2_old w (.cells #[.slice (some ⟨xb, xo, none⟩) sec.length cap, .int .i64 left, .int .i64 tear, .bool st] 24) (.cells #[.slice none 0 0, .int .i64 0, .int .i64 0, .bool false] 24)
  have hrs := heap_alloc2_new w (.cells #[.slice (some ⟨xb, xo, none⟩) sec.length cap, .int .i64 left, .int .i64 tear, .bool st] 24) (.cells #[.slice none 0 0, .int .i64 0, .int .i64 0, .bool false] 24)
  have hsz : w.heap.size + 2 = ((w.alloc (.cells #[.slice (some ⟨xb, xo, none⟩) sec.length cap, .int .i64 left, .int .i64 tear, .bool st] 24)).alloc (.cells #[.slice none 0 0, .int .i64 0, .int .i64 0, .bool false] 24)).heap.size := by simp
  obtain ⟨W2, hW2⟩ : ∃ W2, (w.alloc (.cells #[.slice (some ⟨xb, xo, none⟩) sec.length cap, .int .i64 left, .int .i64 tear, .bool st] 24)).alloc (.cells #[.slice none 0 0, .int .i64 0, .int .i64 0, .bool false] 24) = W2 := ⟨_, rfl⟩
  rw [hW2] at hB0 hrd hrs hsz
  have hs2 : w.heap.size + 2 ≤ W2.heap.size := by omega
  have ho2 := OwnBytes.nil 5 (w.heap.size + 2) W2
  have HSZ := Lib.hid hsz
  clear hsz
  have hsr1 := (hbt.below hB0 rfl).src (P := Try.prog) Try.underlying42
  have e1 : (b.take m).length = m := by rw [List.length_take]; omega
  have e2 : ((sec[i]).drop m).length = 128 - m := by rw [List.length_drop]; omega
  have E1 := Lib.hid e1
  have E2 := Lib.hid e2
  have HUT := Lib.hid hut
  have HXX := Lib.hid hx
  have HB1 := Lib.hid hb1
  clear e1 e2 hut hx hb1 h128
  go_enter Try.func64, Try.ntmps64
  go_upto_region 3 with (at_builtin; refine wpList_append_bytes rfl (.tmp 11) (.tmp 14) 42 42 rfl (w.heap.size + 2) 5 Try.underlying42 byte_info _ [] rfl ho2 _ (b.take m) rfl hsr1 (by have := E1.out; simp only [List.length_nil]; omega) hs2 ?_; intro v3 w3 ho3 hg3)
  have hK3 := Below.grown (Below.refl (w.heap.size + 2) W2) hg3 hs2 (fun k hk => by cases hk)
  have hB3 := hB0.trans (hK3.mono (by omega))
  have hd3 := (hK3.block w.heap.size (by omega)).trans hrd
  have hr3 := (hK3.block (w.heap.size + 1) (by omega)).trans hrs
  have hsz3 := Nat.le_trans hs2 hK3.size
  obtain ⟨c0, -, -, -, -, -⟩ := dkO_cells hd3
  have hx3 := (hB3.cell (cell_lt HXX.out)).trans HXX.out
  have hsr3 := (HUT.out.below hB3 rfl).src (P := Try.prog) Try.underlying42
  clear hsr1 ho2 hrd hrs hB0 hs2
  go_upto_region 4 with (at_builtin; refine wpList_append_bytes rfl (.tmp 16) (.tmp 23) 42 42 rfl (w.heap.size + 2) 5 Try.underlying42 byte_info _ (b.take m) rfl ho3 _ ((sec[i]).drop m) rfl hsr3 (by have := E1.out; have := E2.out; omega) hsz3 ?_; intro v4 w4 ho4 hg4)
  have hK4 := Below.grown (Below.refl (w.heap.size + 2) w3) hg4 hsz3 (fun k hk => (World.ownsRow.lt ho3 k hk).1)
  have hB4 := hB3.trans (hK4.mono (by omega))
  have hd4 := (hK4.block w.heap.size (by omega)).trans hd3
  have hr4 := (hK4.block (w.heap.size + 1) (by omega)).trans hr3
  have hsz4 := Nat.le_trans hsz3 hK4.size
  clear c0 hx3 hsr3 ho3 hd3 hr3 hB3 hg4 hg3
  obtain ⟨c0, -, -, -, -, -⟩ := dkO_cells hd4
  have hal : Below w4.heap.size w4 (w4.alloc (.cells #[] 42)) := (Below.refl _ _).alloc (Nat.le_refl _) _
  have c1 := (hal.cell (p := ⟨w.heap.size, 0, none⟩) (cell_lt c0)).trans c0
  have hsr4 := Src.row (P := Try.prog) Try.underlying22 (((HLM.out.1.sub (mask_is S w)).below hB4 rfl).below hal rfl) HLM.out.2.1
  go_upto_region 5 with (at_builtin; refine wpList_append_any rfl (.tmp 25) (.tmp 27) 22 22 rfl w4.heap.size 42 (.slice none 0 0) 1 24 Try.underlying22 slice_info rfl _ 0 [] rfl (World.ownsRow_made w4 #[] 0 (Nat.le_refl _) (by simp [maxLen]) (by simp)) _ sec.length vs rfl hsr4 (by omega) (by simp only [maxLen]; omega) (by simp) ?_; intro v5 w5 ho5 hg5)
  have ho6 : w5.ownsRow w4.heap.size 42 1 v5 sec.length vs := by simpa using ho5
  obtain ⟨g, q, rfl, hlo, hhi⟩ := own_block ho6 (by have := HI.out; omega)
  have hK5 := Below.grown hal hg5 (by simp) (fun k hk => by cases hk; exact Nat.le_refl _)
  have hB5 := hB4.trans (hK5.mono hB4.size)
  have hd5 := (hK5.block w.heap.size (by omega)).trans hd4
  have hr5 := (hK5.block (w.heap.size + 1) (by omega)).trans hr4
  have ho4' := ho4.later hK5
  clear c0 c1 hsr4 hd4 hr4 hB4 hg5 ho5 hal
  obtain ⟨c0, -, -, -, -, -⟩ := dkO_cells hd5
  have f0 : w5.frozen? ⟨w.heap.size, 0, none⟩ = false := frozen_of_row _ _ _ _ _ hd5
  obtain ⟨y, hy, -⟩ := HLM.out.2.2 i HI.out
  have cy := (World.ownsRow.cellAt ho6 i (Nat.lt_of_lt_of_eq HI.out (Nat.mul_one _).symm)).trans hy
  have fy := World.ownsRow.frozenAt ho6 i
  have n1 : ¬ w.heap.size = g := by omega
  have n2 : ¬ g = w.heap.size := by omega
  have hi' : i < sec.length := HI.out
  have i1 : (i : Int) < (sec.length : Int) := by omega
  obtain ⟨s0, hs0⟩ : ∃ s0, b.take m ++ (sec[i]).drop m = s0 := ⟨_, rfl⟩
  replace ho4' : OwnBytes 5 (w.heap.size + 2) w5 v4 s0 := hs0 ▸ ho4'
  have ho4s : OwnBytes 5 (w.heap.size + 2) w4 v4 s0 := hs0 ▸ ho4
  have HS0 := Lib.hid hs0
  clear hs0
  obtain ⟨b4, q4, rfl⟩ := own_slice ho4'
  clear ho4
  go_upto_region 7 with (fail)
  have hd7 : ((w5.setCell ⟨g, i, none⟩ (.slice b4 s0.length q4)).setCell ⟨w.heap.size, 0, none⟩ (.slice (some ⟨g, 0, none⟩) sec.length q)).heap[w.heap.size]? = some (dkO (.slice (some ⟨g, 0, none⟩) sec.length q) left tear st) := by
    rw [heap_setCell_same _ _ 0 _ _ _ ((heap_setCell_other _ _ _ _ n1).trans hd5)]
    rfl
  have hr7 : ((w5.setCell ⟨g, i, none⟩ (.slice b4 s0.length q4)).setCell ⟨w.heap.size, 0, none⟩ (.slice (some ⟨g, 0, none⟩) sec.length q)).heap[w.heap.size + 1]? = some (dkO (.slice none 0 0) 0 0 false) := by
    rw [heap_setCell_other _ _ _ _ (by show w.heap.size + 1 ≠ w.heap.size; omega), heap_setCell_other _ _ _ _ (by show w.heap.size + 1 ≠ g; omega)]
    exact hr5
  have hst := (World.ownsRow.stored ho6 i (.slice b4 s0.length q4)).1
  have hB6 : Below w.heap.size w ((w5.setCell ⟨g, i, none⟩ (.slice b4 s0.length q4)).setCell ⟨w.heap.size, 0, none⟩ (.slice (some ⟨g, 0, none⟩) sec.length q)) :=
    (hB5.setCell (by show w.heap.size ≤ g; omega) _).setCell (Nat.le_refl _) _
  obtain ⟨w6, hw6⟩ : ∃ w6, (w5.setCell ⟨g, i, none⟩ (.slice b4 s0.length q4)).setCell ⟨w.heap.size, 0, none⟩ (.slice (some ⟨g, 0, none⟩) sec.length q) = w6 := ⟨_, rfl⟩
  have hrow6 : w6.ownsRow w4.heap.size 42 1 (.slice (some ⟨g, 0, none⟩) sec.length q) sec.length (vs.set i (.slice b4 s0.length q4)) := by
    rw [← hw6]
    exact World.ownsRow.kept hst (setCell_grown _ ⟨w.heap.size, 0, none⟩ _) (.inr (fun e => n2 (by cases e; rfl)))
  have hby6 : IsBytes w6 (.slice b4 s0.length q4) s0 := by
    rw [← hw6]
    refine (ho4'.is.setCell ⟨g, i, none⟩ _ (fun k hk => ?_)).setCell ⟨w.heap.size, 0, none⟩ _ (fun k hk => ?_)
    · have := (World.ownsRow.lt ho4s k hk).2
      show k ≠ g
      omega
    · have := (World.ownsRow.lt ho4s k hk).1
      show k ≠ w.heap.size
      omega
  rw [hw6] at hd7 hr7 hB6 ⊢
  clear hw6 hst c0 f0 cy fy
  go_wp2_with (first | (refine wpList_load_row rfl 24 (.tmp 4) rfl w.heap.size rfl 24 _ (0, 0) _ hd7 Try.underlying24 rfl disk_info ?_) | (refine wpList_store_row rfl 24 (.tmp 8) (.tmp 35) rfl (w.heap.size + 1) #[.slice (some ⟨g, 0, none⟩) sec.length q, .int .i64 left, .int .i64 tear, .bool st] rfl rfl 24 _ hr7 disk_info rfl (one4 rfl _ _ _) ?_))
  try simp only [Exit.inBlock, Exit.then]
  have hbz := below_setRow hB6 (Nat.le_succ w.heap.size) #[.slice (some ⟨g, 0, none⟩) sec.length q, .int .i64 left, .int .i64 tear, .bool st]
  refine ret_disk1 (w.heap.size + 1) (.slice (some ⟨g, 0, none⟩) sec.length q) left tear st rfl rfl (setRow_heap _ _ _ _ _ _ hr7) rfl ⟨_, rfl, ⟨_, rfl, ?_⟩, hbz⟩
  have hlt4 : ∀ k, (Value.slice b4 s0.length q4).ownBlock = some k → w.heap.size + 2 ≤ k := fun k hk => (World.ownsRow.lt ho4s k hk).1
  have hoff : ∀ k, w.heap.size ≤ k → S k = false := fun k hk => by
    cases h : S k with
    | false => rfl
    | true => have := hS k h; omega
  have hP : putAt sec i (b.take m) = sec.set i s0 := by
    unfold putAt
    rw [← HS0.out, E1.out]
    congr 2
    simp [List.getD_eq_getElem?_getD, hi']
  show IsLists _ _ (putAt sec i (b.take m))
  rw [hP]
  have hL : (sec.set i s0).length = sec.length := List.length_set
  refine isLists_of_row (vs := vs.set i (.slice b4 s0.length q4)) ?_ (fun j hj => ?_)
  · rw [hL]
    exact mask_row ((ownsRow_isRow hrow6).own (fun k hk => setRow_other _ _ _ _ (by
      have : g = k := by cases hk; rfl
      omega))) (fun k hk => hoff k (by
        have : g = k := by cases hk; rfl
        omega))
  · rw [hL] at hj
    have hvl : vs.length = sec.length := by rw [ho6.1]; omega
    by_cases e : i = j
    · subst e
      refine ⟨_, by rw [List.getElem?_set, if_pos rfl, if_pos (by omega)], ?_⟩
      rw [List.getElem_set_self]
      exact mask_row (IsRow.own hby6 (fun k hk => setRow_other _ _ _ _ (by have := hlt4 k hk; omega))) (fun k hk => hoff k (by have := hlt4 k hk; omega))
    · obtain ⟨x, k1, k2⟩ := HLM.out.2.2 j hj
      refine ⟨x, by rw [List.getElem?_set, if_neg e]; exact k1, ?_⟩
      rw [List.getElem_set_ne e]
      exact k2.sub (mask_below hbz rfl)

end Go.Proofs.Ytnfgapdpnihicaa
/- The walk over asofref30.Write, at the valid disks. -/
namespace Go.Proofs.Ytnfgapdpnihicaa
open Go.RowKit

/-- A disk's block stands where the call has laid it. -/
theorem dk_ok_wr {d : Dk} (hd : d.Ok) (i : Nat) (hi : i < d.sec.length) (b : List UInt8) (hb : b.length = 128) : (d.wr i b).1.Ok := by
  obtain ⟨g1, g2, g9, g3, g4, g5, g6, g7, g8⟩ := hd
  have hs : ∀ c : List UInt8, c.length ≤ 128 → ∀ j (h : j < (putAt d.sec i c).length), ((putAt d.sec i c)[j]).length = 128 := fun c hc j hj => by
    unfold putAt at hj ⊢
    rw [List.length_set] at hj
    rw [List.getElem_set]
    split
    · have := g9 i hi
      rw [List.length_append, List.length_drop, List.getD_eq_getElem?_getD, List.getElem?_eq_getElem hi]
      simp only [Option.getD_some]
      omega
    · exact g9 j hj
  have hl : ∀ c, (putAt d.sec i c).length = d.sec.length := fun c => by simp [putAt]
  unfold Dk.wr
  split
  · exact ⟨g1, g2, g9, g3, g4, g5, g6, g7, g8⟩
  · split
    · exact ⟨by simp only [hl]; omega, by simp only [hl]; omega, hs _ (by rw [List.length_take]; omega), g3, g4, g5, g6, g7, fun _ => by assumption⟩
    · rename_i h1 h2
      refine ⟨by simp only [hl]; omega, by simp only [hl]; omega, hs _ (by omega), ?_, ?_, g5, g6, ?_, fun h => absurd h h1⟩
      · simp only; split <;> omega
      · simp only; split <;> omega
      · simp only; split
        · intro e; omega
        · exact g7

set_option maxHeartbeats 1000000 in
set_option maxRecDepth 8000 in
theorem refWrite_any (S : Nat → Bool) (w : World) (hS : ∀ k, S k = true → k < w.heap.size) (v : Value) (d : Dk) (i : Int) (bv : Value) (b : List UInt8) (hd : d.Ok) (hvm : IsDk (mask S w) v d) (hbv : IsBytes w bv b) :
    Calls Try.prog 45 #[v, .int .i64 i, bv] w fun e w' => ∃ v', e = .returned (.tuple #[v', .int .i64 (d.write i b).2]) ∧ IsDk (mask S w') v' (d.write i b).1 ∧ Below w.heap.size w w' := by
  have hB0 : ∀ o1 o2 : Obj, Below w.heap.size w ((w.alloc o1).alloc o2) := fun _ _ => ((Below.refl _ _).alloc (Nat.le_refl _) _).alloc (by simp) _
  have hvm' := hvm
  obtain ⟨sv, rfl, hlm⟩ := hvm
  have hv0 : IsDk w _ d := hvm'.sub (mask_is S w)
  have HLM := Lib.hid hvm'
  have hval : d.valid = true := (Dk.valid_iff d).2 hd
  have HV := Lib.hid hval
  obtain ⟨bb, bc, rfl, hbl, hbc, -, -⟩ := hbv.out
  unfold maxLen at hbc
  have HBV := Lib.hid hbv
  have HD := Lib.hid hd
  obtain ⟨base, cap, rfl, hl1, hcap, -, -⟩ := (hlm.sub (mask_is S w)).out
  unfold maxLen at hcap
  obtain ⟨sec, left, tear, st⟩ := d
  simp only [dkV] at *
  have hB0 := hB0 (.cells #[.slice base sec.length cap, .int .i64 left, .int .i64 tear, .bool st] 24) (.cells #[.slice none 0 0, .int .i64 0, .int .i64 0, .bool false] 24)
  have hc := refValid_any _ _ _ hd (hv0.below hB0 rfl)
  clear hvm' hv0 hlm hval hbv hd
  obtain ⟨D, x, hwr⟩ : ∃ D x, Dk.write ⟨sec, left, tear, st⟩ i b = (D, x) := ⟨_, _, rfl⟩
  rw [hwr]
  have HWR := Lib.hid hwr
  clear hwr
  simp only
  go_enter Try.func45, Try.ntmps45
  go_wp2_with fail
  refine hc.mono ?_
  rintro e w1 ⟨rfl, hb1⟩
  have hbx := box2_a hb1
  have hrs := box2_b hb1
  have hB1 := hB0.trans (hb1.mono hB0.size)
  obtain ⟨c0, c1, c2, c3, f1, f2⟩ := dkO_cells hbx
  have hsz1 : w.heap.size + 1 < w1.heap.size := (Array.getElem?_eq_some_iff.1 hrs).1
  clear hB0 hb1 hc
  by_cases k : i < 0 ∨ (sec.length : Int) ≤ i ∨ b.length ≠ 128
  · have hr : Dk.write ⟨sec, left, tear, st⟩ i b = (Dk.zero, 1) := by
      unfold Dk.write
      rw [if_pos (.inr k)]
    have HR := Lib.hid (HWR.out.symm.trans hr)
    have k' : i < 0 ∨ ¬ i < 0 ∧ (sec.length : Int) ≤ i ∨ ¬ i < 0 ∧ ¬ (sec.length : Int) ≤ i ∧ ((b.length : Int) != 128) = true := by simp only [bne_iff_ne]; omega
    clear k hr HWR
    rcases k' with k1 | ⟨k1, k2⟩ | ⟨k1, k2, k3⟩
    all_goals
      go_wp2_with (refine wpList_store_row rfl 24 (.tmp 6) (.tmp 29) rfl (w.heap.size + 1) #[.slice none 0 0, .int .i64 0, .int .i64 0, .bool false] rfl rfl 24 _ hrs disk_info rfl (one4 rfl _ _ _) ?_)
      try simp only [Exit.inBlock, Exit.then]
      refine ret_disk (w.heap.size + 1) (.slice none 0 0) 0 0 false rfl rfl (setRow_heap _ _ _ _ _ _ hrs) rfl ⟨_, by rw [(Prod.mk.inj HR.out).2]; rfl, by rw [(Prod.mk.inj HR.out).1]; exact dk_zero _, below_setRow hB1 (Nat.le_succ _) _⟩
  obtain ⟨n, rfl⟩ : ∃ n : Nat, i = (n : Int) := ⟨i.toNat, by omega⟩
  have hn : n < sec.length := by omega
  have hb128 : b.length = 128 := by omega
  have hr : Dk.write ⟨sec, left, tear, st⟩ n b = Dk.wr ⟨sec, left, tear, st⟩ n b := by
    unfold Dk.write
    rw [if_neg (fun h => h.elim (fun h => by rw [HV.out] at h; cases h) k)]
    rfl
  have HR := Lib.hid (HWR.out.symm.trans hr)
  have k1 : ¬ (n : Int) < 0 := by omega
  have k2 : (n : Int) < (sec.length : Int) := by omega
  have k3 : ((b.length : Int) != 128) = false := by rw [bne_eq_false_iff_eq]; omega
  have HB128 := Lib.hid hb128
  clear k hr hb128 HWR
  cases st with
  | true =>
    have hr : Dk.wr ⟨sec, left, tear, true⟩ n b = (⟨sec, left, tear, true⟩, 300) := by simp [Dk.wr]
    have HX := Lib.hid (Prod.mk.inj (HR.out.trans hr))
    clear hr HR
    go_wp2_with (first | (refine wpList_load_row rfl 24 (.tmp 3) rfl w.heap.size rfl 24 _ (0, 0) _ hbx Try.underlying24 rfl disk_info ?_) | (refine wpList_store_row rfl 24 (.tmp 6) (.tmp 32) rfl (w.heap.size + 1) #[.slice base sec.length cap, .int .i64 left, .int .i64 tear, .bool true] rfl rfl 24 _ hrs disk_info rfl (one4 rfl _ _ _) ?_))
    try simp only [Exit.inBlock, Exit.then]
    have hbz := below_setRow hB1 (Nat.le_succ w.heap.size) #[.slice base sec.length cap, .int .i64 left, .int .i64 tear, .bool true]
    exact ret_disk (w.heap.size + 1) (.slice base sec.length cap) left tear true rfl rfl (setRow_heap _ _ _ _ _ _ hrs) rfl ⟨_, by rw [HX.out.2]; rfl, by rw [HX.out.1]; exact HLM.out.sub (mask_below hbz rfl), hbz⟩
  | false =>
    have hbw := HBV.out.below hB1 rfl
    obtain ⟨S', hS'⟩ : ∃ S' : Nat → Bool, S' = fun k => S k || decide (k = w.heap.size + 1) := ⟨_, rfl⟩
    have hS1 : ∀ k, S' k = true → S k = true ∨ w.heap.size ≤ k := fun k hk => by
      rw [hS'] at hk
      simp only [Bool.or_eq_true, decide_eq_true_eq] at hk
      rcases hk with hk | hk
      · exact .inl hk
      · exact .inr (by omega)
    have hS2 : ∀ k, S' k = true → k < w1.heap.size := fun k hk => by
      rw [hS'] at hk
      simp only [Bool.or_eq_true, decide_eq_true_eq] at hk
      rcases hk with hk | hk
      · have := hS k hk; omega
      · omega
    have hS3 : S' (w.heap.size + 1) = true := by rw [hS']; simp
    have hS4 : ∀ k, S k = true → S' k = true := fun k hk => by rw [hS']; simp [hk]
    clear hS'
    have hdm := HLM.out.sub (mask_more hB1 rfl hS1)
    have HS := Lib.hid (And.intro hS2 (And.intro hS3 hS4))
    clear hS1 hS2 hS3 hS4
    by_cases h0 : left = 0
    · subst h0
      have ht : 0 ≤ tear ∧ tear ≤ 128 := ⟨HD.out.tear1, HD.out.tear2⟩
      obtain ⟨t, rfl⟩ : ∃ t : Nat, tear = (t : Int) := ⟨tear.toNat, by omega⟩
      have hr : Dk.wr ⟨sec, 0, t, false⟩ n b = (⟨putAt sec n (b.take t), 0, t, true⟩, 300) := by simp [Dk.wr]
      have HX := Lib.hid (Prod.mk.inj (HR.out.trans hr))
      clear hr HR
      have hca := refWith_any S' w1 HS.out.1 _ _ hdm HD.out n hn _ b hbw HB128.out t (by omega)
      have HCA := Lib.hid hca
      clear hca hdm hbw
      go_wp2_with (refine wpList_load_row rfl 24 (.tmp 3) rfl w.heap.size rfl 24 _ (0, 0) _ hbx Try.underlying24 rfl disk_info ?_)
      refine HCA.out.mono ?_
      rintro e w2 ⟨v2, rfl, ⟨sv2, rfl, hl2⟩, hb2⟩
      simp only [dkV]
      obtain ⟨b2, q2, rfl, -, -, -, -⟩ := hl2.out
      have hrs2 := (hb2.block _ hsz1).trans hrs
      have hB2 := hB1.trans (hb2.mono hB1.size)
      have hsz2 : w.heap.size + 1 < w2.heap.size := Nat.lt_of_lt_of_le hsz1 hb2.size
      have hnew := heap_alloc_new w2 (.cells #[.slice none 0 0, .int .i64 0, .int .i64 0, .bool false] 24)
      go_upto_region 7 with (refine wpList_store_row rfl 24 (.tmp 8) (.tmp 41) rfl w2.heap.size #[.slice b2 (putAt sec n (b.take t)).length q2, .int .i64 0, .int .i64 t, .bool false] rfl rfl 24 _ hnew disk_info rfl (one4 rfl _ _ _) ?_)
      have hd3 := setRow_heap _ _ _ #[.slice b2 (putAt sec n (b.take t)).length q2, .int .i64 0, .int .i64 t, .bool false] _ _ hnew
      obtain ⟨-, -, -, c3, -, -⟩ := dkO_cells hd3
      have f3 : ((w2.alloc (.cells #[.slice none 0 0, .int .i64 0, .int .i64 0, .bool false] 24)).setRow w2.heap.size #[.slice b2 (putAt sec n (b.take t)).length q2, .int .i64 0, .int .i64 t, .bool false]).frozen? ⟨w2.heap.size, 3, none⟩ = false := frozen_of_row _ _ _ _ _ hd3
      have hB3 := below_setRow (hB2.alloc hB2.size (.cells #[.slice none 0 0, .int .i64 0, .int .i64 0, .bool false] 24)) hB2.size #[.slice b2 (putAt sec n (b.take t)).length q2, .int .i64 0, .int .i64 t, .bool false]
      go_upto_region 8 with fail
      have hd4 := heap_setCell_same _ w2.heap.size 3 _ _ (.bool true) hd3
      have hr4 : (((w2.alloc (.cells #[.slice none 0 0, .int .i64 0, .int .i64 0, .bool false] 24)).setRow w2.heap.size #[.slice b2 (putAt sec n (b.take t)).length q2, .int .i64 0, .int .i64 t, .bool false]).setCell ⟨w2.heap.size, 3, none⟩ (.bool true)).heap[w.heap.size + 1]? = some (dkO (.slice none 0 0) 0 0 false) := by
        rw [heap_setCell_other _ _ _ _ (by show w.heap.size + 1 ≠ w2.heap.size; omega), setRow_other _ _ _ _ (by omega), Below.heap_alloc _ _ _ hsz2]
        exact hrs2
      have hB4 := hB3.setCell (p := ⟨w2.heap.size, 3, none⟩) hB2.size (.bool true)
      have hm4 : Sub (mask S' w2) (mask S' (((w2.alloc (.cells #[.slice none 0 0, .int .i64 0, .int .i64 0, .bool false] 24)).setRow w2.heap.size #[.slice b2 (putAt sec n (b.take t)).length q2, .int .i64 0, .int .i64 t, .bool false]).setCell ⟨w2.heap.size, 3, none⟩ (.bool true))) :=
        mask_below ((below_setRow ((Below.refl w2.heap.size w2).alloc (Nat.le_refl _) _) (Nat.le_refl _) _).setCell (Nat.le_refl _) _) rfl
      obtain ⟨w4, hw4⟩ : ∃ w4, ((w2.alloc (.cells #[.slice none 0 0, .int .i64 0, .int .i64 0, .bool false] 24)).setRow w2.heap.size #[.slice b2 (putAt sec n (b.take t)).length q2, .int .i64 0, .int .i64 t, .bool false]).setCell ⟨w2.heap.size, 3, none⟩ (.bool true) = w4 := ⟨_, rfl⟩
      rw [hw4] at hd4 hr4 hB4 hm4 ⊢
      replace hd4 : w4.heap[w2.heap.size]? = some (dkO (.slice b2 (putAt sec n (b.take t)).length q2) 0 t true) := hd4
      clear hw4 hd3 c3 f3
      go_wp2_with (first | (refine wpList_load_row rfl 24 (.tmp 8) rfl w2.heap.size rfl 24 _ (0, 0) _ hd4 Try.underlying24 rfl disk_info ?_) | (refine wpList_store_row rfl 24 (.tmp 6) (.tmp 43) rfl (w.heap.size + 1) #[.slice b2 (putAt sec n (b.take t)).length q2, .int .i64 0, .int .i64 t, .bool true] rfl rfl 24 _ hr4 disk_info rfl (one4 rfl _ _ _) ?_))
      try simp only [Exit.inBlock, Exit.then]
      have hbz := below_setRow hB4 (Nat.le_succ w.heap.size) #[.slice b2 (putAt sec n (b.take t)).length q2, .int .i64 0, .int .i64 t, .bool true]
      exact ret_disk (w.heap.size + 1) (.slice b2 (putAt sec n (b.take t)).length q2) 0 t true rfl rfl (setRow_heap _ _ _ _ _ _ hr4) rfl ⟨_, by rw [HX.out.2]; rfl, by rw [HX.out.1]; exact ⟨_, rfl, ((hl2.sub hm4).sub (mask_setRow _ _ HS.out.2.1)).sub (mask_less HS.out.2.2)⟩, hbz⟩
    · have ht : 0 ≤ tear ∧ tear ≤ 128 := ⟨HD.out.tear1, HD.out.tear2⟩
      obtain ⟨t, rfl⟩ : ∃ t : Nat, tear = (t : Int) := ⟨tear.toNat, by omega⟩
      have hr : Dk.wr ⟨sec, left, t, false⟩ n b = (⟨putAt sec n b, if 0 < left then left - 1 else left, t, false⟩, 0) := by simp [Dk.wr, h0]
      have hx0 := Prod.mk.inj (HR.out.trans hr)
      have HX0 := Lib.hid hx0
      clear hr HR hx0
      have hca := refWith_any S' w1 HS.out.1 _ _ hdm HD.out n hn _ b hbw HB128.out 128 (by omega)
      have htk : b.take 128 = b := List.take_of_length_le (by have := HB128.out; omega)
      rw [htk] at hca
      have HCA := Lib.hid hca
      clear hca hdm hbw htk
      go_wp2_with (refine wpList_load_row rfl 24 (.tmp 3) rfl w.heap.size rfl 24 _ (0, 0) _ hbx Try.underlying24 rfl disk_info ?_)
      refine HCA.out.mono ?_
      rintro e w2 ⟨v2, rfl, ⟨sv2, rfl, hl2⟩, hb2⟩
      simp only [dkV]
      obtain ⟨b2, q2, rfl, -, -, -, -⟩ := hl2.out
      have hrs2 := (hb2.block _ hsz1).trans hrs
      have hB2 := hB1.trans (hb2.mono hB1.size)
      have hsz2 : w.heap.size + 1 < w2.heap.size := Nat.lt_of_lt_of_le hsz1 hb2.size
      have hnew := heap_alloc_new w2 (.cells #[.slice none 0 0, .int .i64 0, .int .i64 0, .bool false] 24)
      go_upto_region 10 with (refine wpList_store_row rfl 24 (.tmp 9) (.tmp 47) rfl w2.heap.size #[.slice b2 (putAt sec n b).length q2, .int .i64 left, .int .i64 t, .bool false] rfl rfl 24 _ hnew disk_info rfl (one4 rfl _ _ _) ?_)
      have hd3 := setRow_heap _ _ _ #[.slice b2 (putAt sec n b).length q2, .int .i64 left, .int .i64 t, .bool false] _ _ hnew
      obtain ⟨-, c3, -, -, f3, -⟩ := dkO_cells hd3
      have hB3 := below_setRow (hB2.alloc hB2.size (.cells #[.slice none 0 0, .int .i64 0, .int .i64 0, .bool false] 24)) hB2.size #[.slice b2 (putAt sec n b).length q2, .int .i64 left, .int .i64 t, .bool false]
      have hl3 := HD.out.left1
      have hl4 := HD.out.left2
      simp only at hl3 hl4
      by_cases hlt : 0 < left
      · have HX : Hid (D = ⟨putAt sec n b, left - 1, t, false⟩ ∧ x = 0) := by have := HX0.out; rwa [if_pos hlt] at this
        go_upto_region 12 with fail
        have hd4 := heap_setCell_same _ w2.heap.size 1 _ _ (.int .i64 (left - 1)) hd3
        have hr4 : (((w2.alloc (.cells #[.slice none 0 0, .int .i64 0, .int .i64 0, .bool false] 24)).setRow w2.heap.size #[.slice b2 (putAt sec n b).length q2, .int .i64 left, .int .i64 t, .bool false]).setCell ⟨w2.heap.size, 1, none⟩ (.int .i64 (left - 1))).heap[w.heap.size + 1]? = some (dkO (.slice none 0 0) 0 0 false) := by
          rw [heap_setCell_other _ _ _ _ (by show w.heap.size + 1 ≠ w2.heap.size; omega), setRow_other _ _ _ _ (by omega), Below.heap_alloc _ _ _ hsz2]
          exact hrs2
        have hB4 := hB3.setCell (p := ⟨w2.heap.size, 1, none⟩) hB2.size (.int .i64 (left - 1))
        have hm4 : Sub (mask S' w2) (mask S' (((w2.alloc (.cells #[.slice none 0 0, .int .i64 0, .int .i64 0, .bool false] 24)).setRow w2.heap.size #[.slice b2 (putAt sec n b).length q2, .int .i64 left, .int .i64 t, .bool false]).setCell ⟨w2.heap.size, 1, none⟩ (.int .i64 (left - 1)))) :=
          mask_below ((below_setRow ((Below.refl w2.heap.size w2).alloc (Nat.le_refl _) _) (Nat.le_refl _) _).setCell (Nat.le_refl _) _) rfl
        obtain ⟨w4, hw4⟩ : ∃ w4, ((w2.alloc (.cells #[.slice none 0 0, .int .i64 0, .int .i64 0, .bool false] 24)).setRow w2.heap.size #[.slice b2 (putAt sec n b).length q2, .int .i64 left, .int .i64 t, .bool false]).setCell ⟨w2.heap.size, 1, none⟩ (.int .i64 (left - 1)) = w4 := ⟨_, rfl⟩
        rw [hw4] at hd4 hr4 hB4 hm4 ⊢
        replace hd4 : w4.heap[w2.heap.size]? = some (dkO (.slice b2 (putAt sec n b).length q2) (left - 1) t false) := hd4
        clear hw4 hd3 c3 f3
        go_wp2_with (first | (refine wpList_load_row rfl 24 (.tmp 9) rfl w2.heap.size rfl 24 _ (0, 0) _ hd4 Try.underlying24 rfl disk_info ?_) | (refine wpList_store_row rfl 24 (.tmp 6) (.tmp 55) rfl (w.heap.size + 1) #[.slice b2 (putAt sec n b).length q2, .int .i64 (left - 1), .int .i64 t, .bool false] rfl rfl 24 _ hr4 disk_info rfl (one4 rfl _ _ _) ?_))
        try simp only [Exit.inBlock, Exit.then]
        have hbz := below_setRow hB4 (Nat.le_succ w.heap.size) #[.slice b2 (putAt sec n b).length q2, .int .i64 (left - 1), .int .i64 t, .bool false]
        exact ret_disk (w.heap.size + 1) (.slice b2 (putAt sec n b).length q2) (left - 1) t false rfl rfl (setRow_heap _ _ _ _ _ _ hr4) rfl ⟨_, by rw [HX.out.2]; rfl, by rw [HX.out.1]; exact ⟨_, rfl, ((hl2.sub hm4).sub (mask_setRow _ _ HS.out.2.1)).sub (mask_less HS.out.2.2)⟩, hbz⟩
      · have HX : Hid (D = ⟨putAt sec n b, left, t, false⟩ ∧ x = 0) := by have := HX0.out; rwa [if_neg hlt] at this
        have hr4 : ((w2.alloc (.cells #[.slice none 0 0, .int .i64 0, .int .i64 0, .bool false] 24)).setRow w2.heap.size #[.slice b2 (putAt sec n b).length q2, .int .i64 left, .int .i64 t, .bool false]).heap[w.heap.size + 1]? = some (dkO (.slice none 0 0) 0 0 false) := by
          rw [setRow_other _ _ _ _ (by omega), Below.heap_alloc _ _ _ hsz2]
          exact hrs2
        have hm4 : Sub (mask S' w2) (mask S' ((w2.alloc (.cells #[.slice none 0 0, .int .i64 0, .int .i64 0, .bool false] 24)).setRow w2.heap.size #[.slice b2 (putAt sec n b).length q2, .int .i64 left, .int .i64 t, .bool false])) :=
          mask_below (below_setRow ((Below.refl w2.heap.size w2).alloc (Nat.le_refl _) _) (Nat.le_refl _) _) rfl
        go_wp2_with (first | (refine wpList_load_row rfl 24 (.tmp 9) rfl w2.heap.size rfl 24 _ (0, 0) _ hd3 Try.underlying24 rfl disk_info ?_) | (refine wpList_store_row rfl 24 (.tmp 6) (.tmp 55) rfl (w.heap.size + 1) #[.slice b2 (putAt sec n b).length q2, .int .i64 left, .int .i64 t, .bool false] rfl rfl 24 _ hr4 disk_info rfl (one4 rfl _ _ _) ?_))
        try simp only [Exit.inBlock, Exit.then]
        have hbz := below_setRow hB3 (Nat.le_succ w.heap.size) #[.slice b2 (putAt sec n b).length q2, .int .i64 left, .int .i64 t, .bool false]
        exact ret_disk (w.heap.size + 1) (.slice b2 (putAt sec n b).length q2) left t false rfl rfl (setRow_heap _ _ _ _ _ _ hr4) rfl ⟨_, by rw [HX.out.2]; rfl, by rw [HX.out.1]; exact ⟨_, rfl, ((hl2.sub hm4).sub (mask_setRow _ _ HS.out.2.1)).sub (mask_less HS.out.2.2)⟩, hbz⟩

end Go.Proofs.Ytnfgapdpnihicaa
