/- The walks over package asofref30: SameBytes. -/
import Derived.Test.YtkfikcppnbfmoaaChecked
import Derived.Test.YtkfikcppnbfmoaaDisk
import Derived.BigQuiet
namespace Go.Proofs.Ytkfikcppnbfmoaa
open Go.RowKit

theorem _root_.Go.RowKit.Below.drewN {B : Nat} {a w : World} (h : Below B a w) (n : Nat) : Below B a (w.drewN n) := ⟨h.os, h.tape, h.output, h.size, h.block⟩

set_option maxHeartbeats 1000000 in
theorem sameBytes_quiet (w : World) (va vb : Value) (a b : List UInt8) (ha : IsBytes w va a) (hb : IsBytes w vb b) :
    Calls Try.prog 15 #[va, vb] w fun e w' => e = .returned (.bool (decide (a = b))) ∧ ∃ m, w' = w.drewN m := by
  have HA := Lib.hid ha
  have HB := Lib.hid hb
  obtain ⟨abase, acap, rfl, hal, hac, -, -⟩ := ha.out
  obtain ⟨bbase, bcap, rfl, hbl, hbc, -, -⟩ := hb.out
  clear ha hb
  unfold maxLen at hac hbc
  obtain ⟨r, hr⟩ : ∃ r, decide (a = b) = r := ⟨_, rfl⟩
  rw [hr]
  have HR := Lib.hid hr
  clear hr
  go_enter Try.func15, Try.ntmps15
  go_wp2
  · rename_i hlen
    go_ret
    refine ⟨?_, 0, rfl⟩
    have : decide (a = b) = false := decide_eq_false (fun e => by subst e; simp at hlen)
    rw [show r = _ from HR.out.symm.trans this]; rfl
  · have hlen : a.length = b.length := by
      have h := ‹((a.length : Int) != (b.length : Int)) = false›
      rw [bne_eq_false_iff_eq] at h
      omega
    have HL := Lib.hid hlen
    clear hlen
    go_loopw [5] (fun c wr => ∃ k : Nat, k ≤ a.length ∧ c = .int .i64 k ∧ a.take k = b.take k ∧ ∃ m, wr = w.drewN m) (fun c _ => a.length - (intOf c).toNat)
    case atStart => exact ⟨0, by omega, rfl, rfl, 0, rfl⟩
    case round =>
      obtain ⟨k, hk, rfl, htk, m, rfl⟩ := hrel
      have HT := Lib.hid htk
      clear htk
      by_cases hlt : k < a.length
      · have hkb : k < b.length := by have := HL.out; omega
        obtain ⟨_, _, e1, -, -, -, hca⟩ := HA.out.out
        cases e1
        obtain ⟨_, _, e2, -, -, -, hcb⟩ := HB.out.out
        cases e2
        obtain ⟨ab, ao, rfl, hxa⟩ := hca k hlt
        obtain ⟨bb, bo, rfl, hxb⟩ := hcb k hkb
        clear hca hcb
        have i1 : (k : Int) < (a.length : Int) := by omega
        have i2 : (k : Int) < (b.length : Int) := by omega
        go_wp2
        go_quiet (fail)
        go_wp2
        · rename_i hx
          go_ret
          refine ⟨?_, _, by first | rfl | exact World.drewN_drewN _ _ _⟩
          have : decide (a = b) = false := decide_eq_false (fun e => by subst e; simp at hx)
          rw [show r = _ from HR.out.symm.trans this]; rfl
        · rename_i hx
          go_roundw
          case rel =>
            refine ⟨k + 1, by omega, by go_num, ?_, _, by first | rfl | exact World.drewN_drewN _ _ _⟩
            have hab : a[k] = b[k] := by
              simp only [bne_eq_false_iff_eq] at hx
              exact UInt8.toNat_inj.1 (by omega)
            rw [List.take_succ_eq_append_getElem hlt, List.take_succ_eq_append_getElem hkb, HT.out, hab]
          case measure => simp [intOf]; omega
      · obtain rfl : k = a.length := by omega
        go_wp2
        go_ret
        refine ⟨?_, _, by first | rfl | exact World.drewN_drewN _ _ _⟩
        have : decide (a = b) = true := by
          have h := HT.out
          rw [List.take_length, HL.out, List.take_length] at h
          exact decide_eq_true h
        rw [show r = _ from HR.out.symm.trans this]; rfl

theorem sameBytes_any (w : World) (va vb : Value) (a b : List UInt8) (ha : IsBytes w va a) (hb : IsBytes w vb b) :
    Calls Try.prog 15 #[va, vb] w fun e w' => e = .returned (.bool (decide (a = b))) ∧ Below w.heap.size w w' :=
  (sameBytes_quiet w va vb a b ha hb).mono fun _ _ ⟨h1, m, h2⟩ => ⟨h1, h2 ▸ (Below.refl _ w).drewN m⟩

end Go.Proofs.Ytkfikcppnbfmoaa
