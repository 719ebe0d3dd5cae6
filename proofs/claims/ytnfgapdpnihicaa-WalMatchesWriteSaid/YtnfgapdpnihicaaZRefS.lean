/- The specification of checksums: Extend and Sum32 (the first half of the text Ref03). -/
import Derived.Test.YtnfgapdpnihicaaZGC
namespace Go.Proofs.Ytnfgapdpnihicaa
open Go.RowKit

theorem xor32b (r : BitVec 32) (x : UInt8) : bits .xor .u32 (r.toNat : Int) (x.toNat : Int) = ((r ^^^ x.toBitVec.setWidth 32).toNat : Int) := by
  have h : (x.toNat : Int) = (((x.toBitVec.setWidth 32).toNat : Nat) : Int) := by
    rw [BitVec.toNat_setWidth]
    have := x.toNat_lt
    show (x.toNat : Int) = ((x.toNat % 2 ^ 32 : Nat) : Int)
    omega
  rw [h, xor32]
theorem odd_yes {r : BitVec 32} (h : ((r.toNat : Int) % 2 == 1) = true) : bits .xor .u32 ((r.toNat : Int) / 2) 3988292384 = ((Crc.rnd r).toNat : Int) := by
  refine rnd_yes ?_
  rw [low32, decide_eq_true_eq, ← BitVec.toNat_inj, BitVec.toNat_and]
  rw [beq_iff_eq] at h
  show r.toNat &&& 1 = 1
  rw [nat_mask1]; omega
theorem odd_no {r : BitVec 32} (h : ((r.toNat : Int) % 2 == 1) = false) : (r.toNat : Int) / 2 = ((Crc.rnd r).toNat : Int) := by
  refine rnd_no ?_
  rw [low32, decide_eq_false_iff_not, ← BitVec.toNat_inj, BitVec.toNat_and]
  rw [beq_eq_false_iff_ne] at h
  show ¬ r.toNat &&& 1 = 1
  rw [nat_mask1]; omega

set_option maxHeartbeats 400000 in
theorem refExtend_any (s : BitVec 32) (v : Value) (l : List UInt8) (w : World) (hv : IsBytes w v l) :
    Calls Try.prog 84 #[.int .u32 (s.toNat : Int), v] w fun e w' => e = .returned (.int .u32 ((Crc.ext s l).toNat : Int)) ∧ w = w' := by
  obtain ⟨base, cap, rfl, hlen, hcap, hnil, hcell⟩ := hv.out
  clear hv
  unfold maxLen at hcap
  have HB := Lib.hid hcell
  clear hcell hnil
  go_enter Try.func84, Try.ntmps84
  go_wp2
  rw [not32]
  go_loop [5, 6] (fun r c => ∃ k : Nat, k ≤ l.length ∧ c = .int .i64 k ∧ r = .int .u32 ((Crc.run (~~~s) (l.take k)).toNat : Int)) (fun _ c => l.length - (intOf c).toNat)
  case atStart => exact ⟨0, by omega, rfl, rfl⟩
  case round =>
    obtain ⟨k, hk, rfl, rfl⟩ := hrel
    by_cases hlt : k < l.length
    · obtain ⟨b, off, rfl, hx⟩ := HB.out k hlt
      generalize hr : Crc.run (~~~s) (l.take k) = r
      have HR := Lib.hid hr
      clear hr
      have hx8 := l[k].toNat_lt
      go_wp2
      rw [xor32b]
      go_loop [5, 7] (fun q c => ∃ j : Nat, j ≤ 8 ∧ c = .int .i64 j ∧ q = .int .u32 ((Crc.rnds j (r ^^^ l[k].toBitVec.setWidth 32)).toNat : Int)) (fun _ c => 8 - (intOf c).toNat)
      case atStart => exact ⟨0, by omega, rfl, rfl⟩
      case round =>
        obtain ⟨j, hj, rfl, rfl⟩ := hrel
        by_cases hj8 : j < 8
        · generalize hq : Crc.rnds j (r ^^^ l[k].toBitVec.setWidth 32) = q
          have HQ := Lib.hid hq
          clear hq
          generalize r ^^^ l[k].toBitVec.setWidth 32 = r' at *
          go_wp2
          · go_round
            case rel => exact ⟨j + 1, by omega, by go_num, by rw [odd_yes ‹_›, ← HQ.out]; rfl⟩
            case measure => simp [intOf]; omega
          · go_round
            case rel => exact ⟨j + 1, by omega, by go_num, by rw [odd_no ‹_›, ← HQ.out]; rfl⟩
            case measure => simp [intOf]; omega
        · obtain rfl : j = 8 := by omega
          rw [Crc.step_rnds]
          go_wp2
          go_round
          case rel => exact ⟨k + 1, by omega, by go_num, by rw [run_snoc _ _ _ hlt, HR.out]⟩
          case measure => simp [intOf]; omega
    · obtain rfl : k = l.length := by omega
      rw [List.take_length]
      go_wp2
      go_ret
      exact ⟨congrArg (fun n => Ending.returned (.int .u32 n)) (not32 (Crc.run (~~~s) l)), rfl⟩

set_option maxHeartbeats 400000 in
theorem refSum32_any (v : Value) (l : List UInt8) (w : World) (hv : IsBytes w v l) :
    Calls Try.prog 82 #[v] w fun e w' => e = .returned (.int .u32 ((Crc.ext 0#32 l).toNat : Int)) ∧ w = w' := by
  go_enter Try.func82, Try.ntmps82
  go_wp2_with (go_at_call 84; refine (refExtend_any 0#32 v l _ hv).mono ?_; rintro e w1 ⟨rfl, rfl⟩)
  go_ret
  exact ⟨rfl, rfl⟩

end Go.Proofs.Ytnfgapdpnihicaa
