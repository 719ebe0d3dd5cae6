/- WireReadsBack: the plain law, and the walk. -/
import Derived.Test.YtblfpkhgnfjbbaaRegC
import Derived.Test.YtblfpkhgnfjbbaaEx04
set_option linter.unusedVariables false
namespace Go.Proofs.Ytblfpkhgnfjbbaa
open Go.RowKit

theorem readU_at {n : Nat} (hn : n < 2 ^ 64) (p t : List UInt8) (l : List UInt8) (hl : l = p ++ Wire.encU n ++ t) (k : Int) (hk : k = p.length) : Wire.readU l k = (n, ((p ++ Wire.encU n).length : Int), 0) := by
  subst hl hk
  unfold Wire.readU
  rw [if_neg (by simp only [List.length_append]; omega), Int.toNat_natCast, List.append_assoc, List.drop_left, Wire.dec_enc _ hn, List.length_append]
  simp only
  congr 2
theorem readI_at {n : Int} (h1 : -9223372036854775808 ≤ n) (h2 : n ≤ 9223372036854775807) (p t : List UInt8) (l : List UInt8) (hl : l = p ++ Wire.encI n ++ t) (k : Int) (hk : k = p.length) : Wire.readI l k = (n, ((p ++ Wire.encI n).length : Int), 0) := by
  unfold Wire.readI
  rw [readU_at (Wire.zig_lt h1 h2) p t l hl k hk]
  simp only [if_pos]
  rw [Wire.zag_zig]
  rfl
theorem readT_at {s : List UInt8} (hs : s.length < 2 ^ 64) (p t : List UInt8) (l : List UInt8) (hl : l = p ++ Wire.encT s ++ t) (k : Int) (hk : k = p.length) : Wire.readT l k = (s, ((p ++ Wire.encT s).length : Int), 0) := by
  subst hl hk
  unfold Wire.readT
  rw [if_neg (by simp only [List.length_append]; omega), Int.toNat_natCast, List.append_assoc, List.drop_left, Wire.decT_enc _ _ hs, List.length_append]
  simp only
  congr 2
theorem bytes_back (s : ByteArray) : (⟨s.data.toList.toArray⟩ : ByteArray) = s := by cases s; simp

set_option maxRecDepth 4000 in
set_option maxHeartbeats 4000000 in
theorem back_walk (w : World) (bv : Value) (b : List UInt8) (hb : IsBytes w bv b) (hbl : b.length ≤ 1048576) (s1 : BitVec 64) (i : Int) (hi : -9223372036854775808 ≤ i ∧ i ≤ 9223372036854775807) (s : ByteArray) (hs : s.size ≤ 1048576) (pv : Value) (p : List UInt8) (hp : IsBytes w pv p) (hpl : p.length ≤ 1048576) :
    Calls Try.prog 9 #[bv, .int .u64 s1.toNat, .int .i64 i, .string s, pv] w fun e w' => e = .returned (.bool true) ∧ Below w.heap.size w w' := by
  obtain ⟨n, hn, hn'⟩ : ∃ n : Nat, s1.toNat = n ∧ n < 2 ^ 64 := ⟨_, rfl, s1.isLt⟩
  rw [hn]
  clear hn
  have hss : s.data.toList.length = s.size := by simp
  have hT : (Wire.encT s.data.toList).length ≤ 1048586 := by unfold Wire.encT; rw [List.length_append]; have := Wire.encU_len10 (n := s.data.toList.length) (by omega); omega
  have hU := Wire.encU_len10 hn'
  have hI : (Wire.encI i).length ≤ 10 := Wire.encU_len10 (Wire.zig_lt hi.1 hi.2)
  obtain ⟨bb, bc, rfl, -⟩ := hb.out
  obtain ⟨m, hm⟩ : ∃ m, b.length = m := ⟨_, rfl⟩
  rw [hm] at hb hbl ⊢
  have h0 := ((St.start w).putOld (P := (IsBytes · pv p)) (Mono.bytes _ _) hp).putOld (P := (IsBytes · (.slice bb m bc) b)) (Mono.bytes _ _) hb
  clear hb hp
  obtain ⟨mc, hmc⟩ : ∃ m, (b ++ Wire.encU n).length = m := ⟨_, rfl⟩
  obtain ⟨md, hmd⟩ : ∃ m, (b ++ Wire.encU n ++ Wire.encI i).length = m := ⟨_, rfl⟩
  obtain ⟨mx, hmx⟩ : ∃ m, (b ++ Wire.encU n ++ Wire.encI i ++ Wire.encT s.data.toList).length = m := ⟨_, rfl⟩
  have b1 : mc ≤ 1048586 := by rw [← hmc, List.length_append, hm]; omega
  have b2 : md ≤ 1048596 := by rw [← hmd, List.length_append, hmc]; omega
  have b3 : mx ≤ 2097182 := by rw [← hmx, List.length_append, hmd]; omega
  go_enter Try.func9, Try.ntmps9
  go_wp2_with fail
  refine (Calls.sV h0 (example_any _)).mono ?_
  rintro e w1 ⟨rfl, h1⟩
  clear h0
  go_wp2_with fail
  refine (Calls.sS h1 hmc (appendUint_any _ _ b n hn' (h1.is 0 rfl) (by omega))).mono ?_
  rintro e w2 ⟨bc', cc, rfl, hc2, h2⟩
  clear h1
  go_wp2_with fail
  refine (Calls.sS h2 hmd (appendInt_any _ _ _ i hi.1 hi.2 (h2.is 0 rfl) (by omega))).mono ?_
  rintro e w3 ⟨bd, cd, rfl, hc3, h3⟩
  clear h2
  go_wp2_with fail
  refine (Calls.sS h3 hmx (appendText_any _ _ _ s (h3.is 0 rfl) (by omega))).mono ?_
  rintro e w4 ⟨bx, cx, rfl, hc4, h4⟩
  clear h3
  have ho0 := OwnBytes.made 5 w4 w4.heap.size (Nat.le_refl _)
  have hb0 : Below w4.heap.size w4 (w4.alloc (.cells #[] 5)) := (Below.refl _ _).alloc (Nat.le_refl _) _
  have hx0 := (h4.is 0 rfl : IsBytes _ _ _).below hb0 rfl
  have ht0 := (h4.is 4 rfl : IsBytes _ _ _).below hb0 rfl
  obtain ⟨X, hX⟩ : ∃ X, b ++ Wire.encU n ++ Wire.encI i ++ Wire.encT s.data.toList = X := ⟨_, rfl⟩
  rw [hX] at hx0 h4 hmx
  go_wp2_with (first
    | (at_builtin; refine wpList_append_bytes rfl (.tmp 31) (.tmp 32) 22 22 rfl w4.heap.size 5 Try.underlying22 byte_info _ [] rfl ho0 _ X rfl (hx0.src Try.underlying22) (by simp only [List.length_nil]; omega) hb0.size ?_; intro v3 w1 ho1 hg1; have hb1 := Below.grown hb0 hg1 hb0.size (fun k hk => (World.ownsRow.lt ho0 k hk).1); rw [List.nil_append] at ho1)
    | (at_builtin; refine wpList_append_bytes rfl (.tmp 33) (.tmp 34) 22 22 rfl w4.heap.size 5 Try.underlying22 byte_info _ X rfl ho1 _ p rfl (((h4.is 4 rfl : IsBytes _ _ _).below hb1 rfl).src Try.underlying22) (by omega) hb1.size ?_; intro v4 w5 ho5 hg5; have hb5 := Below.grown hb1 hg5 hb1.size (fun k hk => (World.ownsRow.lt ho1 k hk).1)))
  have h5 := (h4.call hb5).putOwn ho5 h4.lt
  clear hx0 ht0 h4 ho5 ho1 ho0 hb5 hb1 hb0
  refine (Calls.sV h5 (readUint_any _ _ _ _ (h5.is 0 rfl))).mono ?_
  rintro e w6 ⟨rfl, h6⟩
  rw [readU_at hn' b (Wire.encI i ++ Wire.encT s.data.toList ++ p) (X ++ p) (by rw [← hX]; simp only [List.append_assoc]) _ (by rw [hm]), hmc]
  clear h5
  go_wp2_with fail
  refine (Calls.sV h6 (readInt_any _ _ _ _ (h6.is 0 rfl))).mono ?_
  rintro e w7 ⟨rfl, h7⟩
  rw [readI_at hi.1 hi.2 (b ++ Wire.encU n) (Wire.encT s.data.toList ++ p) (X ++ p) (by rw [← hX]; simp only [List.append_assoc]) _ (by rw [hmc]), hmd]
  clear h6
  go_wp2_with fail
  refine (Calls.sV h7 (readText_any _ _ _ _ (h7.is 0 rfl))).mono ?_
  rintro e w8 ⟨rfl, h8⟩
  rw [readT_at (s := s.data.toList) (by omega) (b ++ Wire.encU n ++ Wire.encI i) p (X ++ p) (by rw [← hX]) _ (by rw [hmd]), hX, hmx, bytes_back]
  clear h7
  go_wp2_with fail
  go_ret
  exact ⟨rfl, h8.below⟩
end Go.Proofs.Ytblfpkhgnfjbbaa
