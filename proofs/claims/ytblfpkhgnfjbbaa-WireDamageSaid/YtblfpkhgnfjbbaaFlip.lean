/- The law's helper flip: the bytes with bits inverted. -/
import Derived.Test.YtblfpkhgnfjbbaaEx04
import Derived.Test.YtblfpkhgnfjbbaaFeed
import Derived.Laws.BitsAllLaws
set_option linter.unusedVariables false
namespace Go.Proofs.Ytblfpkhgnfjbbaa
open Go.RowKit

theorem odd_bit (n j : Nat) : ((n : Int) / 2 ^ j).tmod 2 = 1 ↔ n.testBit j = true := by
  have e : (n : Int) / 2 ^ j = ((n / 2 ^ j : Nat) : Int) := by rw [Int.natCast_ediv, Int.natCast_pow]; rfl
  rw [e, Nat.testBit_eq_decide_div_mod_eq, decide_eq_true_eq]
  generalize n / 2 ^ j = m
  rw [Int.tmod_eq_emod_of_nonneg (by omega)]
  omega
theorem xor8 (x y : UInt8) : bits .xor .u8 (x.toNat : Int) (y.toNat : Int) = ((x ^^^ y).toNat : Int) := by
  rw [UInt8.toNat_xor]
  exact u8_xor_nat _ _ (by have := x.toNat_lt; omega) (by have := y.toNat_lt; omega)
theorem flip8 (y : UInt8) (m : Nat) : bits .xor .u8 (y.toNat : Int) (2 ^ m % 256) = ((y ^^^ UInt8.ofNat (2 ^ m)).toNat : Int) := by
  have e : ((2 : Int) ^ m % 256) = (((UInt8.ofNat (2 ^ m)).toNat : Nat) : Int) := by
    rw [UInt8.toNat_ofNat', Int.natCast_emod, Int.natCast_pow]; rfl
  rw [e, xor8]

set_option maxHeartbeats 1000000 in
theorem flip_any (w : World) (v : Value) (l : List UInt8) (hv : IsBytes w v l) (f : Nat) (hf : f ≤ 8 * l.length) (hl : l.length ≤ 140737488351232) (s : BitVec 32) :
    Calls Try.prog 27 #[v, .int .i64 f, .int .u32 (s.toNat : Int)] w fun e w' => ∃ v', e = .returned (.tuple #[v', .bool (decide (Crc.maskTo (8 * l.length) f s.toNat 32 ≠ 0))]) ∧ OwnBytes 5 w.heap.size w' v' (Crc.flipTo l f s.toNat 32) ∧ Below w.heap.size w w' := by
  have ho0 := OwnBytes.made 5 w w.heap.size (Nat.le_refl _)
  have hb0 : Below w.heap.size w (w.alloc (.cells #[] 5)) := (Below.refl _ _).alloc (Nat.le_refl _) _
  have hv0 := hv.below hb0 rfl
  clear hv
  have hs2 := s.isLt
  go_enter Try.func27, Try.ntmps27
  go_wp2_with (first | (at_builtin; refine wpList_append_bytes rfl (.tmp 12) (.tmp 13) 22 22 rfl w.heap.size 5 Try.underlying22 byte_info _ [] rfl ho0 _ l rfl (hv0.src Try.underlying22) (by simp only [List.length_nil]; omega) hb0.size ?_; intro v3 w1 ho1 hg1; have hb1 := Below.grown hb0 hg1 hb0.size (fun k hk => (World.ownsRow.lt ho0 k hk).1); rw [List.nil_append] at ho1; obtain ⟨b, cp, rfl, -⟩ := ho1.is.out; clear hg1 ho0 hb0 hv0))
  go_loopw [9, 10, 11] (fun ch c _ wr => ∃ (j : Nat) (x : Bool), j ≤ 32 ∧ c = .int .i64 j ∧ ch = .bool x ∧ x = decide (Crc.maskTo (8 * l.length) f s.toNat j ≠ 0) ∧ OwnBytes 5 w.heap.size wr (.slice b l.length cp) (Crc.flipTo l f s.toNat j) ∧ Below w.heap.size w wr) (fun _ c _ _ => 32 - (intOf c).toNat)
  case atStart => exact ⟨0, false, by omega, rfl, rfl, by simp [Crc.maskTo], ho1, hb1⟩
  case round =>
    obtain ⟨j, x, hj, rfl, rfl, hb, hoj, hbj⟩ := hrel
    have HB := Lib.hid hb
    have HO := Lib.hid hoj
    clear hb hoj ho1 hb1
    by_cases hlt : j < 32
    · by_cases hin : f + j < 8 * l.length
      · obtain ⟨g, cp', e, hgB⟩ := HO.out.shape (fun e => by have := congrArg List.length e; rw [Crc.flipTo_length, List.length_nil] at this; omega)
        rw [Crc.flipTo_length] at e
        cases e
        have hin2 : ((f : Int) + (j : Int)) / 8 < (l.length : Int) := by omega
        by_cases hbt : s.toNat.testBit j = true
        · have hodd := (odd_bit _ _).2 hbt
          have hidx : (f + j) / 8 < (Crc.flipTo l f s.toNat j).length := by rw [Crc.flipTo_length]; omega
          have hst : wr.cell? ⟨g, (f + j) / 8, none⟩ = some (.int .u8 (((Crc.flipTo l f s.toNat j).getD ((f + j) / 8) 0).toNat : Int)) := by
            rw [HO.out.cellAt _ hidx, List.getD_eq_getElem?_getD, List.getElem?_eq_getElem hidx]; rfl
          have hfr := HO.out.frozenAt ((f + j) / 8)
          generalize hy : (Crc.flipTo l f s.toNat j).getD ((f + j) / 8) 0 = y at hst
          have HY := Lib.hid hy
          have hy8 := y.toNat_lt
          clear hy hidx
          go_upto_region 8 with fail
          go_region
          go_wp2_with fail
          go_roundw
          case rel =>
            refine ⟨j + 1, true, by omega, by go_num, rfl, ?_, ?_, (hbj.setCell hgB _).drew⟩
            · exact (decide_eq_true (p := Crc.maskTo (8 * l.length) f s.toNat (j + 1) ≠ 0) (fun e => ((Crc.maskTo_zero _ _ _ _).1 e).2 ⟨hbt, hin⟩)).symm
            · rw [flip8, ← HY.out, Crc.flipTo, if_pos ⟨hbt, hin⟩]
              exact HO.out.stored _ _
          case measure => simp [intOf]; omega
        · have hodd : ¬ ((s.toNat : Int) / 2 ^ j).tmod 2 = 1 := fun h => hbt ((odd_bit _ _).1 h)
          have hbit : ¬ (s.toNat.testBit j = true ∧ f + j < 8 * l.length) := fun h => hbt h.1
          go_wp2_with fail
          go_roundw
          case rel => exact ⟨j + 1, x, by omega, by go_num, rfl, by rw [Crc.maskTo, if_neg hbit]; exact HB.out, by rw [Crc.flipTo, if_neg hbit]; exact HO.out, hbj⟩
          case measure => simp [intOf]; omega
      · have hin2 : ¬ ((f : Int) + (j : Int)) / 8 < (l.length : Int) := by omega
        have hbit : ¬ (s.toNat.testBit j = true ∧ f + j < 8 * l.length) := fun h => hin h.2
        go_wp2_with fail
        all_goals
          go_roundw
          case rel => exact ⟨j + 1, x, by omega, by go_num, rfl, by rw [Crc.maskTo, if_neg hbit]; exact HB.out, by rw [Crc.flipTo, if_neg hbit]; exact HO.out, hbj⟩
          case measure => simp [intOf]; omega
    · obtain rfl : j = 32 := by omega
      go_wp2_with fail
      go_ret2
      exact ⟨_, by rw [← HB.out]; rfl, HO.out, hbj⟩
end Go.Proofs.Ytblfpkhgnfjbbaa
