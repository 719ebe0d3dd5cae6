/- WireLengths: the plain law on lengths, and the walk. -/
import Derived.Test.YtblfpkhgnfjbbaaEx04
set_option linter.unusedVariables false
namespace Go.Proofs.Ytblfpkhgnfjbbaa
open Go.RowKit

def digs (n : Nat) : Nat := if n = 0 then 0 else digs (n / 2) + 1
termination_by n
decreasing_by omega
theorem digs_zero : digs 0 = 0 := by unfold digs; rw [if_pos rfl]
theorem digs_succ {n : Nat} (h : n ≠ 0) : digs n = digs (n / 2) + 1 := by rw [digs, if_neg h]
theorem digs_mono : ∀ (n m : Nat), n ≤ m → digs n ≤ digs m := by
  intro n
  induction n using Nat.strongRecOn with
  | ind n ih =>
    intro m h
    by_cases hn : n = 0
    · subst hn; rw [digs_zero]; exact Nat.zero_le _
    · rw [digs_succ hn, digs_succ (show m ≠ 0 by omega)]
      exact Nat.succ_le_succ (ih (n / 2) (by omega) (m / 2) (by omega))
theorem digs_lt : ∀ (k n : Nat), n < 2 ^ k → digs n ≤ k
  | 0, n, h => by have : n = 0 := by omega
                  subst this; rw [digs_zero]; exact Nat.le_refl _
  | k + 1, n, h => by
    by_cases hn : n = 0
    · subst hn; rw [digs_zero]; exact Nat.zero_le _
    · rw [digs_succ hn]
      exact Nat.succ_le_succ (digs_lt k (n / 2) (by rw [Nat.pow_succ] at h; omega))
theorem digs_128 {n : Nat} (h : 128 ≤ n) : digs n = digs (n / 128) + 7 := by
  rw [digs_succ (by omega), digs_succ (by omega), digs_succ (by omega), digs_succ (by omega), digs_succ (by omega), digs_succ (by omega), digs_succ (by omega)]
  rw [show n / 2 / 2 / 2 / 2 / 2 / 2 / 2 = n / 128 by omega]
theorem encU_length : ∀ (n : Nat), (Wire.encU n).length = max 1 ((digs n + 6) / 7) := by
  intro n
  induction n using Nat.strongRecOn with
  | ind n ih =>
    by_cases h : n < 128
    · rw [Wire.encU_small h]
      have := digs_lt 7 n h
      simp only [List.length_singleton]
      omega
    · rw [Wire.encU_big (by omega), List.length_cons, ih (n / 128) (by omega), digs_128 (n := n) (by omega)]
      have : 0 < digs (n / 128) := by rw [digs_succ (by omega)]; omega
      omega
theorem encU_mono {n m : Nat} (h : n ≤ m) : (Wire.encU n).length ≤ (Wire.encU m).length := by
  rw [encU_length, encU_length]
  have := digs_mono n m h
  omega
theorem encI_apart (n : Int) : (Wire.encI n).length ≤ (Wire.encI (-(n + 1))).length + 1 := by
  unfold Wire.encI
  rw [encU_length, encU_length]
  unfold Wire.zig
  have key : ∀ k : Nat, digs (2 * k + 1) = digs k + 1 ∧ digs (2 * k) ≤ digs k + 1 ∧ digs k ≤ digs (2 * k) := by
    intro k
    refine ⟨?_, ?_, digs_mono _ _ (by omega)⟩
    · rw [digs_succ (by omega), show (2 * k + 1) / 2 = k by omega]
    · by_cases hk : k = 0
      · subst hk; rw [Nat.mul_zero, digs_zero]; omega
      · rw [digs_succ (by omega), show 2 * k / 2 = k by omega]; exact Nat.le_refl _
  by_cases h : 0 ≤ n
  · rw [if_pos h, if_neg (by omega)]
    obtain ⟨k, hk⟩ : ∃ k, n.toNat = k := ⟨_, rfl⟩
    rw [show (-(-(n + 1) + 1)).toNat = k by omega, hk]
    have := key k
    omega
  · rw [if_neg h, if_pos (by omega)]
    obtain ⟨k, hk⟩ : ∃ k, (-(n + 1)).toNat = k := ⟨_, rfl⟩
    rw [hk]
    have := key k
    omega

/-- AppendUint and AppendInt onto nil: a slice of bytes. -/
theorem appU_nil (w : World) (n : Nat) (hn : n < 2 ^ 64) : Calls Try.prog 14 #[.slice none 0 0, .int .u64 n] w fun e w' => ∃ b c, e = .returned (.slice b (Wire.encU n).length c) ∧ IsBytes w' (.slice b (Wire.encU n).length c) (Wire.encU n) ∧ Below w.heap.size w w' :=
  (appendUint_any w _ [] n hn (IsBytes.none w) (by decide)).mono fun _ _ ⟨v, h1, h2, h3⟩ => by
    have h := h2.is
    rw [List.nil_append] at h
    obtain ⟨b, c, rfl, -⟩ := h.out
    exact ⟨b, c, h1, h, h3⟩
theorem appI_nil (w : World) (n : Int) (h1 : -9223372036854775808 ≤ n) (h2 : n ≤ 9223372036854775807) : Calls Try.prog 17 #[.slice none 0 0, .int .i64 n] w fun e w' => ∃ b c, e = .returned (.slice b (Wire.encI n).length c) ∧ IsBytes w' (.slice b (Wire.encI n).length c) (Wire.encI n) ∧ Below w.heap.size w w' :=
  (appendInt_any w _ [] n h1 h2 (IsBytes.none w) (by decide)).mono fun _ _ ⟨v, h1, h2, h3⟩ => by
    have h := h2.is
    rw [List.nil_append] at h
    obtain ⟨b, c, rfl, -⟩ := h.out
    exact ⟨b, c, h1, h, h3⟩
theorem encI_len10 {n : Int} (h1 : -9223372036854775808 ≤ n) (h2 : n ≤ 9223372036854775807) : (Wire.encI n).length ≤ 10 := Wire.encU_len10 (Wire.zig_lt h1 h2)

set_option maxHeartbeats 1000000 in
theorem lengths_walk (w : World) (s0 s1 : BitVec 64) (i : Int) (hi : -9223372036854775808 ≤ i ∧ i ≤ 9223372036854775807) :
    Calls Try.prog 6 #[.int .u64 s0.toNat, .int .u64 s1.toNat, .int .i64 i] w fun e w' => e = .returned (.bool true) ∧ Below w.heap.size w w' := by
  obtain ⟨n, hn, hn'⟩ : ∃ n : Nat, s0.toNat = n ∧ n < 2 ^ 64 := ⟨_, rfl, s0.isLt⟩
  obtain ⟨m, hm, hm'⟩ : ∃ m : Nat, s1.toNat = m ∧ m < 2 ^ 64 := ⟨_, rfl, s1.isLt⟩
  rw [hn, hm]
  clear hn hm s0 s1
  obtain ⟨hi1, hi2⟩ := hi
  go_enter Try.func6, Try.ntmps6
  go_wp2_with fail
  refine (example_any _).mono ?_
  rintro e w1 ⟨rfl, hb1⟩
  go_wp2_with fail
  refine (appU_nil _ n hn').mono ?_
  rintro e w2 ⟨b2, c2, rfl, h2, hb2⟩
  replace hb2 := hb1.trans (hb2.mono hb1.size)
  clear hb1
  obtain ⟨a, ha⟩ : ∃ a, (Wire.encU n).length = a := ⟨_, rfl⟩
  have ha10 := Wire.encU_len10 hn'
  rw [ha] at h2 ha10 ⊢
  have HA := Lib.hid ha
  clear ha h2
  go_wp2_with fail
  go_loopw [9, 10] (fun dv kv wr => wr = w2 ∧ ∃ (d k : Nat), dv = .int .i64 d ∧ kv = .int .u64 k ∧ k < 2 ^ 64 ∧ d + digs k = digs n) (fun _ kv _ => (intOf kv).toNat)
  case atStart => exact ⟨rfl, 0, n, rfl, rfl, hn', Nat.zero_add _⟩
  case round =>
    obtain ⟨rfl, d, k, rfl, rfl, hk, he⟩ := hrel
    have hd64 : digs n ≤ 64 := digs_lt 64 n hn'
    have hdk : d ≤ 64 := by omega
    by_cases h0 : 0 < k
    · have i0 : (0 : Int) < (k : Int) := by omega
      have HE := Lib.hid he
      clear he
      go_wp2_with fail
      go_roundw
      case rel => exact ⟨trivial, d + 1, k / 2, by go_num, by go_num, by omega, by have := HE.out; rw [digs_succ (by omega)] at this; omega⟩
      case measure => simp [intOf]; omega
    · have i0 : ¬ (0 : Int) < (k : Int) := by omega
      obtain rfl : k = 0 := by omega
      rw [digs_zero, Nat.add_zero] at he
      subst he
      have hlen := HA.out
      rw [encU_length] at hlen
      have hmax : max (1 : Int) (((digs n : Nat) + 6 : Int) / 7) = (a : Int) := by omega
      have HM := Lib.hid hmax
      clear hmax hlen
      have hem : n ≤ m → a ≤ (Wire.encU m).length := fun h => by rw [← HA.out]; exact encU_mono h
      obtain ⟨c, hc⟩ : ∃ c, (Wire.encU m).length = c := ⟨_, rfl⟩
      have hc10 := Wire.encU_len10 hm'
      rw [hc] at hem hc10
      have hI1 := encI_apart i
      have hI2 := encI_apart (-(i + 1))
      rw [show -(-(i + 1) + 1) = i by omega] at hI2
      have hI3 := encI_len10 hi1 hi2
      have hI4 := encI_len10 (n := -(i + 1)) (by omega) (by omega)
      obtain ⟨x, hx⟩ : ∃ x, (Wire.encI i).length = x := ⟨_, rfl⟩
      obtain ⟨y, hy⟩ : ∃ y, (Wire.encI (-(i + 1))).length = y := ⟨_, rfl⟩
      rw [hx] at hI1 hI2 hI3
      rw [hy] at hI1 hI2 hI4
      have HC := Lib.hid hc
      have HX := Lib.hid hx
      have HY := Lib.hid hy
      clear hc hx hy
      go_wp2_with fail
      all_goals first
        | (exfalso; have := HM.out; omega)
        | skip
      all_goals first
        | (refine (appU_nil _ m hm').mono ?_
           rintro e w3 ⟨b3, c3, rfl, h3, hb3⟩
           replace hb2 := hb2.trans (hb3.mono hb2.size)
           rw [HC.out] at h3 ⊢
           clear h3 hb3
           go_wp2_with fail)
        | skip
      all_goals
        refine (appI_nil _ i hi1 hi2).mono ?_
        rintro e w4 ⟨b4, c4, rfl, h4, hb4⟩
        replace hb2 := hb2.trans (hb4.mono hb2.size)
        rw [HX.out] at h4 ⊢
        clear h4 hb4
        by_cases htop : i = 9223372036854775807
        · have HT := Lib.hid htop
          subst htop
          go_wp2_with fail
          rw [show wrap64 (-wrap64 9223372036854775808) = (-9223372036854775808 : Int) from by kernel_rfl]
          refine (appI_nil _ (-9223372036854775808) (by decide) (by decide)).mono ?_
          rintro e w5 ⟨b5, c5, rfl, h5, hb5⟩
          replace hb2 := hb2.trans (hb5.mono hb2.size)
          rw [show (Wire.encI (-9223372036854775808)).length = y from HY.out] at h5 ⊢
          clear h5 hb5
          have j1 : (x : Int) - (y : Int) ≤ 1 := by omega
          have j2 : (y : Int) - (x : Int) ≤ 1 := by omega
          go_wp2_with fail
          go_ret
          exact ⟨rfl, hb2⟩
        · have hi3 : i ≤ 9223372036854775806 := by omega
          go_wp2_with fail
          refine (appI_nil _ (-(i + 1)) (by omega) (by omega)).mono ?_
          rintro e w5 ⟨b5, c5, rfl, h5, hb5⟩
          replace hb2 := hb2.trans (hb5.mono hb2.size)
          rw [HY.out] at h5 ⊢
          clear h5 hb5
          have j1 : (x : Int) - (y : Int) ≤ 1 := by omega
          have j2 : (y : Int) - (x : Int) ≤ 1 := by omega
          go_wp2_with fail
          go_ret
          exact ⟨rfl, hb2⟩
end Go.Proofs.Ytblfpkhgnfjbbaa
