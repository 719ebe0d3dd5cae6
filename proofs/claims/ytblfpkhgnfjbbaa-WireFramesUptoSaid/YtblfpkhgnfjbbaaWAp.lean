/- WireApart: the walk. -/
import Derived.Test.YtblfpkhgnfjbbaaWBk
import Derived.Test.YtblfpkhgnfjbbaaStrB
import Derived.OwnWalk
set_option linter.unusedVariables false
namespace Go.Proofs.Ytblfpkhgnfjbbaa
open Go.RowKit

theorem decF_enc (p t : List UInt8) (hp : p.length < 2 ^ 64) : Wire.decF (Wire.encF p ++ t) = if 8192 < p.length then .error 2 else .ok (p, (Wire.encF p).length) := by
  unfold Wire.decF
  have he : Wire.encF p ++ t = Wire.encU p.length ++ (p ++ (sum4 (Wire.sumOf p) ++ t)) := by unfold Wire.encF; simp only [List.append_assoc]
  rw [he, Wire.dec_enc _ hp]
  simp only
  have h4 : (sum4 (Wire.sumOf p)).length = 4 := rfl
  by_cases h : 8192 < p.length
  · rw [if_pos h, if_pos h]
  · rw [if_neg h, if_neg h, if_neg (by simp only [List.length_append]; omega), if_pos]
    · rw [List.drop_left, List.take_left]
      congr 2
      unfold Wire.encF
      simp only [List.length_append]
      omega
    · rw [List.drop_left, List.take_left, ← List.drop_drop, List.drop_left, List.drop_left, ← h4, List.take_left]
theorem readF_at {s : List UInt8} (hs : s.length < 2 ^ 64) (p t : List UInt8) (l : List UInt8) (hl : l = p ++ Wire.encF s ++ t) (k : Int) (hk : k = p.length) : Wire.readF l k = if 8192 < s.length then ([], 0, 2) else (s, ((p ++ Wire.encF s).length : Int), 0) := by
  subst hl hk
  unfold Wire.readF
  rw [if_neg (by simp only [List.length_append]; omega), Int.toNat_natCast, List.append_assoc, List.drop_left, decF_enc _ _ hs, List.length_append]
  by_cases h : 8192 < s.length
  · rw [if_pos h, if_pos h]
  · rw [if_neg h, if_neg h]
    simp only
    congr 2
theorem strOf {W : World} {v : Value} {l : List UInt8} (h : IsBytes W v l) (s : ByteArray) (hs : l = s.data.toList) : (convert 22 9 v).run Try.prog W = .ok (.string s) W := by
  rw [str_of h, hs, bytes_back]

set_option maxRecDepth 20000 in
set_option maxHeartbeats 4000000 in
theorem apart_walk (w : World) (bv : Value) (b : List UInt8) (hb : IsBytes w bv b) (hbl : b.length ≤ 1048576) (s1 s2 : BitVec 64) (s : ByteArray) (hs : s.size ≤ 1048576) (t : ByteArray) (ht : t.size ≤ 1048576) :
    Calls Try.prog 11 #[bv, .int .u64 s1.toNat, .int .u64 s2.toNat, .string s, .string t] w fun e w' => e = .returned (.bool true) ∧ Below w.heap.size w w' := by
  obtain ⟨n, hn, hn'⟩ : ∃ n : Nat, s1.toNat = n ∧ n < 2 ^ 64 := ⟨_, rfl, s1.isLt⟩
  obtain ⟨n2, hn2, hn2'⟩ : ∃ n : Nat, s2.toNat = n ∧ n < 2 ^ 64 := ⟨_, rfl, s2.isLt⟩
  rw [hn, hn2]
  clear hn hn2
  have hss : s.data.toList.length = s.size := by simp
  have htt : t.data.toList.length = t.size := by simp
  obtain ⟨bb, bc, rfl, -⟩ := hb.out
  obtain ⟨m, hm⟩ : ∃ m, b.length = m := ⟨_, rfl⟩
  rw [hm] at hb hbl ⊢
  have h0 := (St.start w).putOld (P := (IsBytes · (.slice bb m bc) b)) (Mono.bytes _ _) hb
  clear hb
  obtain ⟨ma, hma⟩ : ∃ m, (b ++ Wire.encU n).length = m := ⟨_, rfl⟩
  obtain ⟨mb, hmb⟩ : ∃ m, (b ++ Wire.encU n2).length = m := ⟨_, rfl⟩
  obtain ⟨mc, hmc⟩ : ∃ m, (b ++ Wire.encT s.data.toList).length = m := ⟨_, rfl⟩
  obtain ⟨md, hmd⟩ : ∃ m, (b ++ Wire.encF t.data.toList).length = m := ⟨_, rfl⟩
  obtain ⟨me, hme⟩ : ∃ m, (b ++ Wire.encI ((n : Int) % 1000)).length = m := ⟨_, rfl⟩
  obtain ⟨i0, hi0, hz0, hs0, hb0⟩ := info_parts byte_info
  have em : (m : Int) + 64 = ((m + 64 : Nat) : Int) := by omega
  have EM := Lib.hid em
  clear em
  go_enter Try.func11, Try.ntmps11
  go_wp2_with fail
  refine (Calls.sV h0 (example_any _)).mono ?_
  rintro e w1 ⟨rfl, h1⟩
  clear h0
  go_wp2_with (first
    | (refine wpList_make_own w1 rfl (.const (.int .i64 0)) (.tmp 36) 22 rfl w1.heap.size 5 i0 (.int .u8 0) 1 Try.underlying22 hi0 hz0 hs0 .i64 .i64 _ (m + 64) rfl rfl EM.out (by rw [hb0]; omega) (by simp only [maxLen]; omega) (Nat.le_refl _) ?_; intro w2 ho2 hg2; have hb2 := Below.grown (Below.refl w1.heap.size w1) hg2 (Nat.le_refl _) (fun k hk => by cases hk); replace ho2 : OwnBytes 5 w1.heap.size w2 (.slice (some ⟨w1.heap.size, 0, none⟩) 0 (m + 64)) [] := ho2)
    | (at_builtin; refine wpList_append_bytes rfl (.tmp 37) (.tmp 38) 22 22 rfl w1.heap.size 5 Try.underlying22 byte_info _ [] rfl ho2 _ b rfl (((h1.is 0 rfl : IsBytes _ _ _).below hb2 rfl).src Try.underlying22) (by simp only [List.length_nil]; omega) hb2.size ?_; intro v3 w3 ho3 hg3; have hb3 := Below.grown hb2 hg3 hb2.size (fun k hk => (World.ownsRow.lt ho2 k hk).1); rw [List.nil_append] at ho3))
  have h3 := (h1.call hb3).putOwn ho3 h1.lt
  clear ho3 ho2 hb3 hb2 h1
  refine (Calls.sS h3 hma (appendUint_any _ _ b n hn' (h3.is 0 rfl) (by omega))).mono ?_
  rintro e w4 ⟨xb, xc, rfl, hq4, h4⟩
  clear h3
  go_wp2_with fail
  refine (Calls.sS h4 hmb (appendUint_any _ _ b n2 hn2' (h4.is 1 rfl) (by omega))).mono ?_
  rintro e w5 ⟨yb, yc, rfl, hq5, h5⟩
  clear h4
  go_wp2_with fail
  refine (Calls.sS h5 hmc (appendText_any _ _ b s (h5.is 2 rfl) (by omega))).mono ?_
  rintro e w6 ⟨zb, zc, rfl, hq6, h6⟩
  clear h5
  obtain ⟨tc, wt, hct, hqt, hit, hbt⟩ := run_strBytes (P := Try.prog) w6 9 22 5 t Try.underlying9 Try.underlying22 Try.underlying5 (by simp only [maxLen]; omega)
  go_wp2_with (rw [hct])
  have h7 := h6.call hbt
  clear hct hbt h6
  refine (Calls.sS h7 hmd (appendFrame_any _ _ b _ t.data.toList (h7.is 3 rfl) hit (by omega))).mono ?_
  rintro e w8 ⟨fb, fc, rfl, hq8, h8⟩
  clear h7 hit
  go_wp2_with fail
  have hq : -9223372036854775808 ≤ (n : Int) % 1000 ∧ (n : Int) % 1000 ≤ 9223372036854775807 := by omega
  refine (Calls.sS h8 hme (appendInt_any _ _ b ((n : Int) % 1000) hq.1 hq.2 (h8.is 4 rfl) (by omega))).mono ?_
  rintro e w9 ⟨gb, gc, rfl, hq9, h9⟩
  clear h8
  go_wp2_with fail
  refine (Calls.sV h9 (readUint_any _ _ _ _ (h9.is 4 rfl))).mono ?_
  rintro e w10 ⟨rfl, h10⟩
  rw [readU_at hn' b [] _ (List.append_nil _).symm _ (by rw [hm]), hma]
  clear h9
  go_wp2_with fail
  refine (Calls.sV h10 (readUint_any _ _ _ _ (h10.is 3 rfl))).mono ?_
  rintro e w11 ⟨rfl, h11⟩
  rw [readU_at hn2' b [] _ (List.append_nil _).symm _ (by rw [hm]), hmb]
  clear h10
  go_wp2_with fail
  refine (Calls.sV h11 (readText_any _ _ _ _ (h11.is 2 rfl))).mono ?_
  rintro e w12 ⟨rfl, h12⟩
  rw [readT_at (s := s.data.toList) (by omega) b [] _ (List.append_nil _).symm _ (by rw [hm]), hmc, bytes_back]
  clear h11
  go_wp2_with fail
  refine (readFrame_any _ _ _ _ (h12.is 1 rfl)).mono ?_
  rintro e w13 ⟨pv', rfl, hpv, hb13⟩
  have hRF := readF_at (s := t.data.toList) (by omega) b [] _ (List.append_nil _).symm (m : Int) (by rw [hm])
  rw [hmd, htt] at hRF
  have h13' := h12.call hb13
  by_cases hbig : 8192 < t.size
  · rw [if_pos hbig] at hRF
    rw [hRF]
    have h13 := h13'.put (Mono.bytes pv' []) (show IsBytes (sm [] w13) pv' [] by rw [hRF] at hpv; exact hpv.sub (mask_nil _))
    have hbigi : (8192 : Int) < (t.size : Int) := by omega
    clear hRF h13'
    clear h12 hpv hb13
    go_wp2_with fail
    refine (Calls.sV h13 (readInt_any _ _ _ _ (h13.is 1 rfl))).mono ?_
    rintro e w14 ⟨rfl, h14⟩
    rw [readI_at hq.1 hq.2 b [] _ (List.append_nil _).symm _ (by rw [hm]), hme]
    clear h13
    obtain ⟨tc2, wt2, hct2, hqt2, hit2, hbt2⟩ := run_strBytes (P := Try.prog) w14 9 22 5 t Try.underlying9 Try.underlying22 Try.underlying5 (by simp only [maxLen]; omega)
    have h15 := h14.call hbt2
    have c1 := strOf hit2 t rfl
    have c2 := strOf (h15.is 6 rfl : IsBytes _ _ _) ⟨b.toArray⟩ (by simp)
    have c3 := strOf (h15.is 7 rfl : IsBytes _ _ _) ⟨b.toArray⟩ (by simp)
    have hbel := h15.below
    clear h14 h15 hit2 hbt2
    have HC := Lib.hid (And.intro hct2 (And.intro c1 (And.intro c2 c3)))
    clear hct2 c1 c2 c3
    go_wp2_with (first | rw [HC.out.1] | rw [HC.out.2.1] | rw [HC.out.2.2.1] | rw [HC.out.2.2.2])
    go_ret
    exact ⟨rfl, hbel⟩
  · rw [if_neg hbig] at hRF
    rw [hRF]
    have h13 := h13'.put (Mono.bytes pv' t.data.toList) (show IsBytes (sm [] w13) pv' t.data.toList by rw [hRF] at hpv; exact hpv.sub (mask_nil _))
    have hbigi : ¬ (8192 : Int) < (t.size : Int) := by omega
    clear hRF h13'
    clear h12 hpv hb13
    go_wp2_with fail
    refine (Calls.sV h13 (readInt_any _ _ _ _ (h13.is 1 rfl))).mono ?_
    rintro e w14 ⟨rfl, h14⟩
    rw [readI_at hq.1 hq.2 b [] _ (List.append_nil _).symm _ (by rw [hm]), hme]
    clear h13
    have c1 := strOf (h14.is 0 rfl : IsBytes _ _ _) t rfl
    have c2 := strOf (h14.is 6 rfl : IsBytes _ _ _) ⟨b.toArray⟩ (by simp)
    have c3 := strOf (h14.is 7 rfl : IsBytes _ _ _) ⟨b.toArray⟩ (by simp)
    have hbel := h14.below
    clear h14
    have HC := Lib.hid (And.intro c1 (And.intro c2 c3))
    clear c1 c2 c3
    go_wp2_with (first | rw [HC.out.1] | rw [HC.out.2.1] | rw [HC.out.2.2])
    go_ret
    exact ⟨rfl, hbel⟩
end Go.Proofs.Ytblfpkhgnfjbbaa
