/- The helpers of chapter 30's laws: fill, small, few. -/
import Derived.Test.YtkfikcppnbfmoaaChecked
import Derived.Test.YtkfikcppnbfmoaaRef30
namespace Go.Proofs.Ytkfikcppnbfmoaa
open Go.RowKit

/-- The bytes that begin with b and increase by 1. -/
def fillL (b : UInt8) (n : Nat) : List UInt8 := (List.range n).map (fun i => b + UInt8.ofNat i)
theorem fillL_succ (b : UInt8) (n : Nat) : fillL b (n + 1) = fillL b n ++ [b + UInt8.ofNat n] := by simp [fillL, List.range_succ]
theorem fillL_length (b : UInt8) (n : Nat) : (fillL b n).length = n := by simp [fillL]

def smallN (n : Int) : Nat := (n.tmod 8).natAbs + 1
theorem tmod8 (n : Int) : (n.tmod 8).natAbs < 8 := by
  rw [Int.natAbs_tmod]
  exact Nat.mod_lt _ (by decide)
theorem smallN_le (n : Int) : 1 ≤ smallN n ∧ smallN n ≤ 8 := by have := tmod8 n; unfold smallN; omega

set_option maxHeartbeats 1000000 in
theorem small_any (w : World) (n : Int) :
    Calls Try.prog 9 #[.int .i64 n] w fun e w' => e = .returned (.int .i64 (smallN n)) ∧ w = w' := by
  go_enter Try.func9, Try.ntmps9
  go_wp2
  · go_ret
    have h := ‹n.tmod 8 < 0›
    have h8 := tmod8 n
    have e1 : wrap64 (-n.tmod 8) = -n.tmod 8 := by unfold wrap64; omega
    refine ⟨?_, rfl⟩
    show Ending.returned (Value.int .i64 (wrap64 (wrap64 (-n.tmod 8) + 1))) = _
    rw [e1]
    congr 2
    unfold wrap64 smallN
    omega
  · go_ret
    have h := ‹0 ≤ n.tmod 8›
    have h8 := tmod8 n
    refine ⟨?_, rfl⟩
    show Ending.returned (Value.int .i64 (wrap64 (n.tmod 8 + 1))) = _
    congr 2
    unfold wrap64 smallN
    omega

/-- The number of bytes that fill makes. -/
def fillN (n : Int) : Nat := min n.toNat 200

set_option maxHeartbeats 1000000 in
set_option maxRecDepth 10000 in
theorem fill_any (w : World) (b : UInt8) (n : Int) :
    Calls Try.prog 17 #[.int .u8 (b.toNat : Int), .int .i64 n] w fun e w' => ∃ v, e = .returned v ∧ OwnBytes 5 w.heap.size w' v (fillL b (fillN n)) ∧ Below w.heap.size w w' := by
  go_enter Try.func17, Try.ntmps17
  go_wp2
  go_loopw [5, 6] (fun o c wr => ∃ k : Nat, k ≤ fillN n ∧ c = .int .i64 k ∧ OwnBytes 5 w.heap.size wr o (fillL b k) ∧ Below w.heap.size w wr) (fun _ c _ => 200 - (intOf c).toNat)
  case atStart => exact ⟨0, by omega, rfl, OwnBytes.nil _ _ _, Below.refl _ _⟩
  case round =>
    obtain ⟨k, hk, rfl, ho, hbel⟩ := hrel
    by_cases hlt : k < fillN n
    · have i1 : (k : Int) < n := by unfold fillN at hlt; omega
      have i2 : (k : Int) < 200 := by unfold fillN at hlt; omega
      have e20 : ((b.toNat : Int) + (k : Int)) % 256 = ((b + UInt8.ofNat k).toNat : Int) := by
        rw [UInt8.toNat_add, UInt8.toNat_ofNat']
        omega
      have hx : IsBytes (wr.alloc (.cells #[.int .u8 ((b + UInt8.ofNat k).toNat : Int)] 5)) (.slice (some ⟨wr.heap.size, 0, none⟩) 1 1) [b + UInt8.ofNat k] := IsBytes.new wr 5 (0, 0) [b + UInt8.ofNat k] (by simp [maxLen])
      have hb1 := hbel.alloc hbel.size (.cells #[.int .u8 ((b + UInt8.ofNat k).toNat : Int)] 5)
      have ho1 : OwnBytes 5 w.heap.size (wr.alloc (.cells #[.int .u8 ((b + UInt8.ofNat k).toNat : Int)] 5)) u5 (fillL b k) := World.ownsRow.alloc ho _
      obtain ⟨xb, hxb⟩ : ∃ xb, b + UInt8.ofNat k = xb := ⟨_, rfl⟩
      rw [hxb] at hx hb1 ho1 e20
      have E20 := Lib.hid e20
      have HXB := Lib.hid hxb
      clear e20 hxb
      go_wp2_with (at_builtin; go_loud (rw [E20.out]; refine wpList_append_bytes rfl (.tmp 16) (.tmp 21) 34 34 rfl w.heap.size 5 Try.underlying34 byte_info _ (fillL b k) rfl ho1 _ [xb] rfl (hx.src Try.underlying34) (by rw [fillL_length]; simp; omega) hb1.size ?_; intro v3 w3 ho3 hg3))
      have hb3 := Below.grown hb1 hg3 hb1.size (fun k hk => (World.ownsRow.lt ho1 k hk).1)
      rw [← HXB.out, ← fillL_succ] at ho3
      have H3 := Lib.hid ho3
      go_roundw
      case rel => exact ⟨k + 1, by omega, by go_num, H3.out, hb3⟩
      case measure => simp [intOf]; unfold fillN at hlt; omega
    · obtain rfl : k = fillN n := by omega
      have i3 : ¬ ((fillN n : Nat) : Int) < n ∨ (((fillN n : Nat) : Int) < n ∧ ¬ ((fillN n : Nat) : Int) < 200) := by unfold fillN; omega
      have HO := Lib.hid ho
      generalize hq : fillN n = q at *
      rcases i3 with i3 | ⟨i3, i4⟩
      · go_wp2
        go_ret
        exact ⟨_, rfl, HO.out, hbel⟩
      · go_wp2
        go_ret
        exact ⟨_, rfl, HO.out, hbel⟩

theorem IsRow.take {sz : Nat} {w : World} {base : Option Addr} {n cap : Nat} {xs : List Value} (h : IsRow sz w (.slice base n cap) n xs) (hi : Nat) (hhi : hi ≤ n) : IsRow sz w (.slice base hi cap) hi (xs.take (hi * sz)) := by
  obtain ⟨_, _, e, hx, hl, hm, hn, hc⟩ := h
  cases e
  have hle : hi * sz ≤ n * sz := Nat.mul_le_mul_right _ hhi
  refine ⟨base, cap, rfl, by rw [List.length_take]; omega, by omega, hm, hn, fun i hi' => ?_⟩
  rw [List.length_take] at hi'
  obtain ⟨b, off, e, hcell⟩ := hc i (by omega)
  exact ⟨b, off, e, by rw [hcell, List.getElem_take]⟩

theorem act_rows : (Try.prog.info? 33).map (·.size) = some 6 := by kernel_rfl

set_option maxHeartbeats 1000000 in
theorem few_any (w : World) (v : Value) (n : Nat) (xs : List Value) (m : Nat) (hv : IsRow 6 w v n xs) :
    Calls Try.prog 11 #[v, .int .i64 m] w fun e w' => ∃ v', e = .returned v' ∧ IsRow 6 w v' (min n m) (xs.take (min n m * 6)) ∧ w = w' := by
  have HV := Lib.hid hv
  obtain ⟨base, cap, rfl, hx, hl, hm, hn, hc⟩ := hv
  clear hc hn
  unfold maxLen at hm
  by_cases hlt : (m : Int) < (n : Int)
  · have hq := fun w : World => run_slice_row_to (P := Try.prog) (t := 22) Try.underlying22 act_rows w base n cap .i64 m (by omega)
    have e : min n m = m := by omega
    rw [e]
    go_enter Try.func11, Try.ntmps11
    go_wp2
    go_ret
    exact ⟨_, rfl, HV.out.take m (by omega), rfl⟩
  · have e : min n m = n := by omega
    rw [e]
    go_enter Try.func11, Try.ntmps11
    go_wp2
    go_ret
    exact ⟨_, rfl, by rw [List.take_of_length_le (by omega)]; exact HV.out, rfl⟩

set_option maxHeartbeats 1000000 in
theorem few_val (w : World) (base : Option Addr) (n cap : Nat) (xs : List Value) (m : Nat) (hv : IsRow 6 w (.slice base n cap) n xs) :
    Calls Try.prog 11 #[.slice base n cap, .int .i64 m] w fun e w' => e = .returned (.slice base (min n m) cap) ∧ w = w' := by
  obtain ⟨_, _, e, hx, hl, hm, hn, hc⟩ := hv
  cases e
  clear hc hn
  unfold maxLen at hm
  by_cases hlt : (m : Int) < (n : Int)
  · have e : min n m = m := by omega
    rw [e]
    have hmc : m ≤ cap := by omega
    go_enter Try.func11, Try.ntmps11
    go_wp2
    go_ret
    exact ⟨rfl, rfl⟩
  · have e : min n m = n := by omega
    rw [e]
    go_enter Try.func11, Try.ntmps11
    go_wp2
    go_ret
    exact ⟨rfl, rfl⟩

end Go.Proofs.Ytkfikcppnbfmoaa
