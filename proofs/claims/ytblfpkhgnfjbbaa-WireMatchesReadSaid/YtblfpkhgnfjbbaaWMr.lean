/- WireMatchesRead: the walk. -/
import Derived.Test.YtblfpkhgnfjbbaaR4S
set_option linter.unusedVariables false
namespace Go.Proofs.Ytblfpkhgnfjbbaa
open Go.RowKit

set_option maxRecDepth 8000 in
set_option maxHeartbeats 4000000 in
theorem matchesR_walk (w : World) (bv : Value) (b : List UInt8) (hb : IsBytes w bv b) (hbl : b.length ≤ 140737488351232) (i : Int) (hi : -9223372036854775808 ≤ i ∧ i ≤ 9223372036854775807) :
    Calls Try.prog 8 #[bv, .int .i64 i] w fun e w' => e = .returned (.bool true) ∧ Below w.heap.size w w' := by
  have h0 := (St.start w).putOld (P := (IsBytes · bv b)) (Mono.bytes _ _) hb
  clear hb
  obtain ⟨hi1, hi2⟩ := hi
  go_enter Try.func8, Try.ntmps8
  go_wp2_with fail
  refine (Calls.sV h0 (example_any _)).mono ?_
  rintro e w1 ⟨rfl, h1⟩
  clear h0
  go_wp2_with fail
  refine (Calls.sV h1 (readUint_any _ _ b i (h1.is 0 rfl))).mono ?_
  rintro e w2 ⟨rfl, h2⟩
  clear h1
  obtain ⟨n, x, c, hr⟩ : ∃ n x c, Wire.readU b i = (n, x, c) := ⟨_, _, _, rfl⟩
  have HU := Lib.hid hr
  rw [hr]
  clear hr
  go_wp2_with fail
  refine (Calls.sV' h2 (refReadUint_any _ _ b i (h2.is 0 rfl) hi2 (by omega))).mono ?_
  rintro e w3 ⟨rfl, h3⟩
  clear h2
  rw [HU.out]
  go_wp2_with fail
  refine (Calls.sV h3 (readInt_any _ _ b i (h3.is 0 rfl))).mono ?_
  rintro e w4 ⟨rfl, h4⟩
  clear h3
  obtain ⟨n4, x4, c4, hr⟩ : ∃ n x c, Wire.readI b i = (n, x, c) := ⟨_, _, _, rfl⟩
  have HI := Lib.hid hr
  rw [hr]
  clear hr
  go_wp2_with fail
  refine (Calls.sV' h4 (refReadInt_any _ _ b i (h4.is 0 rfl) hi2 (by omega))).mono ?_
  rintro e w5 ⟨rfl, h5⟩
  clear h4
  rw [HI.out]
  go_wp2_with fail
  refine (Calls.sV h5 (readText_any _ _ b i (h5.is 0 rfl))).mono ?_
  rintro e w6 ⟨rfl, h6⟩
  clear h5
  obtain ⟨n6, x6, c6, hr⟩ : ∃ n x c, Wire.readT b i = (n, x, c) := ⟨_, _, _, rfl⟩
  have HT := Lib.hid hr
  rw [hr]
  clear hr
  obtain ⟨s6, hs6⟩ : ∃ s : ByteArray, ⟨n6.toArray⟩ = s := ⟨_, rfl⟩
  have HS := Lib.hid hs6
  simp only [hs6]
  clear hs6
  go_wp2_with fail
  refine (Calls.sV' h6 (refReadText_any _ _ b i (h6.is 0 rfl) hi2 (by omega))).mono ?_
  rintro e w7 ⟨rfl, h7⟩
  clear h6
  rw [HT.out]
  simp only [HS.out]
  go_wp2_with fail
  refine (readFrame_any _ _ b i (h7.is 0 rfl)).mono ?_
  rintro e w8 ⟨v8, rfl, hv8, hb8⟩
  obtain ⟨n8, x8, c8, hr⟩ : ∃ n x c, Wire.readF b i = (n, x, c) := ⟨_, _, _, rfl⟩
  have HF := Lib.hid hr
  rw [hr] at hv8 ⊢
  have h8 := (h7.call hb8).put (Mono.bytes _ _) (hv8.sub (mask_nil _))
  clear hr h7 hv8 hb8
  go_wp2_with fail
  refine (refReadFrame_any _ _ b i (h8.is 1 rfl) hi2 (by omega)).mono ?_
  rintro e w9 ⟨v9, rfl, hv9, hb9⟩
  rw [HF.out] at hv9 ⊢
  have h9 := (h8.call hb9).put (Mono.bytes _ _) (hv9.sub (mask_nil _))
  clear h8 hv9 hb9
  go_wp2_with fail
  refine (Calls.sV' h9 (refSame_any _ _ _ n8 n8 (h9.is 1 rfl) (h9.is 0 rfl))).mono ?_
  rintro e w10 ⟨rfl, h10⟩
  clear h9
  rw [decide_eq_true rfl]
  go_wp2_with fail
  go_ret
  exact ⟨rfl, h10.below⟩
end Go.Proofs.Ytblfpkhgnfjbbaa
