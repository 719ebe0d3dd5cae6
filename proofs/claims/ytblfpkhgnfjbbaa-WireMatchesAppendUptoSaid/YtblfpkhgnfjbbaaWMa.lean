/- WireMatchesAppend: the walk. -/
import Derived.Test.YtblfpkhgnfjbbaaR4A
import Derived.Test.YtblfpkhgnfjbbaaRegC
import Derived.Test.YtblfpkhgnfjbbaaEx04
set_option linter.unusedVariables false
namespace Go.Proofs.Ytblfpkhgnfjbbaa
open Go.RowKit

set_option maxRecDepth 4000 in
set_option maxHeartbeats 4000000 in
theorem matchesA_walk (w : World) (bv : Value) (b : List UInt8) (hb : IsBytes w bv b) (hbl : b.length ≤ 1048576) (s1 : BitVec 64) (i : Int) (hi : -9223372036854775808 ≤ i ∧ i ≤ 9223372036854775807) (s : ByteArray) (hs : s.size ≤ 1048576) (pv : Value) (p : List UInt8) (hp : IsBytes w pv p) (hpl : p.length ≤ 1048576) :
    Calls Try.prog 3 #[bv, .int .u64 s1.toNat, .int .i64 i, .string s, pv] w fun e w' => e = .returned (.bool true) ∧ Below w.heap.size w w' := by
  obtain ⟨n, hn, hn'⟩ : ∃ n : Nat, s1.toNat = n ∧ n < 2 ^ 64 := ⟨_, rfl, s1.isLt⟩
  rw [hn]
  clear hn
  have hss : s.data.toList.length = s.size := by simp
  have hT : (Wire.encT s.data.toList).length ≤ 1048586 := by unfold Wire.encT; rw [List.length_append]; have := Wire.encU_len10 (n := s.data.toList.length) (by omega); omega
  have hF : (Wire.encF p).length ≤ 1048590 := by unfold Wire.encF sum4; simp only [List.length_append, List.length_cons, List.length_nil]; have := Wire.encU_len10 (n := p.length) (by omega); omega
  have hU := Wire.encU_len10 hn'
  have hI : (Wire.encI i).length ≤ 10 := Wire.encU_len10 (Wire.zig_lt hi.1 hi.2)
  have h0 := ((St.start w).putOld (P := (IsBytes · pv p)) (Mono.bytes _ _) hp).putOld (P := (IsBytes · bv b)) (Mono.bytes _ _) hb
  clear hb hp
  go_enter Try.func3, Try.ntmps3
  go_wp2_with fail
  refine (Calls.sV h0 (example_any _)).mono ?_
  rintro e w1 ⟨rfl, h1⟩
  clear h0
  go_wp2_with fail
  refine (Calls.sB h1 (appendUint_any _ _ b n hn' (h1.is 0 rfl) (by omega))).mono ?_
  rintro e w2 ⟨v2, rfl, h2⟩
  clear h1
  go_wp2_with fail
  refine (Calls.sB h2 (refUint_any _ n hn')).mono ?_
  rintro e w3 ⟨v3, rfl, h3⟩
  clear h2
  go_wp2_with fail
  refine (Calls.sB h3 (refJoin_any _ _ _ b _ (h3.is 2 rfl) (h3.is 0 rfl) (by omega))).mono ?_
  rintro e w4 ⟨v4, rfl, h4⟩
  clear h3
  go_wp2_with fail
  refine (Calls.sV' h4 (refSame_any _ _ _ _ _ (h4.is 2 rfl) (h4.is 0 rfl))).mono ?_
  rintro e w5 ⟨rfl, h5⟩
  clear h4
  rw [decide_eq_true rfl]
  replace h5 := h5.pop.pop.pop
  go_wp2_with fail
  refine (Calls.sB h5 (appendInt_any _ _ b i hi.1 hi.2 (h5.is 0 rfl) (by omega))).mono ?_
  rintro e w2 ⟨v6, rfl, h2⟩
  clear h5
  go_wp2_with fail
  refine (Calls.sB h2 (refInt_any _ i hi.1 hi.2)).mono ?_
  rintro e w3 ⟨v7, rfl, h3⟩
  clear h2
  go_wp2_with fail
  refine (Calls.sB h3 (refJoin_any _ _ _ b _ (h3.is 2 rfl) (h3.is 0 rfl) (by omega))).mono ?_
  rintro e w4 ⟨v8, rfl, h4⟩
  clear h3
  go_wp2_with fail
  refine (Calls.sV' h4 (refSame_any _ _ _ _ _ (h4.is 2 rfl) (h4.is 0 rfl))).mono ?_
  rintro e w5 ⟨rfl, h5⟩
  clear h4
  rw [decide_eq_true rfl]
  replace h5 := h5.pop.pop.pop
  go_wp2_with fail
  refine (Calls.sB h5 (appendText_any _ _ b s (h5.is 0 rfl) (by omega))).mono ?_
  rintro e w2 ⟨v9, rfl, h2⟩
  clear h5
  go_wp2_with fail
  refine (Calls.sB h2 (refText_any _ s (by omega))).mono ?_
  rintro e w3 ⟨v10, rfl, h3⟩
  clear h2
  go_wp2_with fail
  refine (Calls.sB h3 (refJoin_any _ _ _ b _ (h3.is 2 rfl) (h3.is 0 rfl) (by omega))).mono ?_
  rintro e w4 ⟨v11, rfl, h4⟩
  clear h3
  go_wp2_with fail
  refine (Calls.sV' h4 (refSame_any _ _ _ _ _ (h4.is 2 rfl) (h4.is 0 rfl))).mono ?_
  rintro e w5 ⟨rfl, h5⟩
  clear h4
  rw [decide_eq_true rfl]
  replace h5 := h5.pop.pop.pop
  go_wp2_with fail
  refine (Calls.sB h5 (appendFrame_any _ _ b _ p (h5.is 0 rfl) (h5.is 1 rfl) (by omega))).mono ?_
  rintro e w2 ⟨v12, rfl, h2⟩
  clear h5
  go_wp2_with fail
  refine (Calls.sB h2 (refFrame_any _ _ p (h2.is 2 rfl) (by omega))).mono ?_
  rintro e w3 ⟨v13, rfl, h3⟩
  clear h2
  go_wp2_with fail
  refine (Calls.sB h3 (refJoin_any _ _ _ b _ (h3.is 2 rfl) (h3.is 0 rfl) (by omega))).mono ?_
  rintro e w4 ⟨v14, rfl, h4⟩
  clear h3
  go_wp2_with fail
  refine (Calls.sV' h4 (refSame_any _ _ _ _ _ (h4.is 2 rfl) (h4.is 0 rfl))).mono ?_
  rintro e w5 ⟨rfl, h5⟩
  clear h4
  rw [decide_eq_true rfl]
  go_wp2_with fail
  go_ret
  exact ⟨rfl, h5.below⟩
end Go.Proofs.Ytblfpkhgnfjbbaa
