/- The walk over values.Append. -/
import Derived.Test.YtfpkibfofainaaaZValW
import Derived.Deep.CutRange
set_option linter.unusedVariables false
namespace Go.Proofs.Ytfpkibfofainaaa
open Go.RowKit

/-- The encoding of a value. -/
def Vl.body (v : Vl) : List UInt8 := if v.k = 1 then [UInt8.ofNat v.n.toNat] else if v.k = 2 ∨ v.k = 3 then Wire.encI v.n else if v.k = 4 ∨ v.k = 5 then Wire.encT v.s.data.toList else []
def Vl.enc (v : Vl) : List UInt8 := if v.check = 0 then UInt8.ofNat v.k.toNat :: v.body else []
theorem OwnBytes.lower {E B B' : Nat} {w : World} {v : Value} {l : List UInt8} (h : OwnBytes E B w v l) (hB : B' ≤ B) : OwnBytes E B' w v l := by
  obtain ⟨h1, h2⟩ := h
  refine ⟨h1, ?_⟩
  rcases h2 with h2 | ⟨g, cap, cur, a, b, r⟩
  · exact .inl h2
  · exact .inr ⟨g, cap, cur, a, by omega, r⟩
theorem OwnBytes.app {E B : Nat} {w : World} {v : Value} {l : List UInt8} (h : OwnBytes E B w v l) : AppB E B w v l := .inl h
theorem check_k {v : Vl} (h : v.check = 0) : v.k = 0 ∨ v.k = 1 ∨ v.k = 2 ∨ v.k = 3 ∨ v.k = 4 ∨ v.k = 5 := by
  unfold Vl.check at h
  split at h
  · cases h
  · omega
theorem check_bool {v : Vl} (h : v.check = 0) (hk : v.k = 1) : v.n = 0 ∨ v.n = 1 := by
  unfold Vl.check at h
  rw [if_neg (by omega), if_neg (by omega), if_pos hk] at h
  split at h
  · rename_i h2; exact h2.2
  · cases h
theorem check_num {v : Vl} (h : v.check = 0) (hk : v.k = 2 ∨ v.k = 3) : -1152921504606846976 ≤ v.n ∧ v.n ≤ 1152921504606846976 := by
  unfold Vl.check at h
  rw [if_neg (by omega), if_neg (by omega), if_neg (by omega), if_pos hk] at h
  split at h
  · cases h
  · split at h
    · cases h
    · omega
theorem check_str {v : Vl} (h : v.check = 0) (hk : v.k = 4 ∨ v.k = 5) : v.s.size ≤ 64 := by
  unfold Vl.check at h
  rw [if_neg (by omega), if_neg (by omega), if_neg (by omega), if_neg (by omega)] at h
  by_cases h0 : v.n ≠ 0
  · rw [if_pos h0] at h; exact absurd h (by decide)
  rw [if_neg h0] at h
  by_cases hm : 64 < v.s.size
  · have hx : (if v.k = 5 then 32 else 64) < v.s.size := by split <;> omega
    rw [if_pos hx] at h
    exact absurd h (by decide)
  · omega

set_option maxRecDepth 8000 in
set_option maxHeartbeats 4000000 in
theorem valAppend_any (w : World) (bv : Value) (l : List UInt8) (v : Vl) (hv : IsBytes w bv l) (hl : l.length ≤ 140737488351232) :
    Calls Try.prog 40 #[bv, v.val] w fun e w' => ∃ v', e = .returned v' ∧ OwnBytes 5 w.heap.size w' v' (l ++ v.enc) ∧ Below w.heap.size w w' := by
  obtain ⟨bs, bc, rfl, hlen, hcap, -, -⟩ := hv.out
  obtain ⟨m, hm⟩ : ∃ m, l.length = m := ⟨_, rfl⟩
  have hc := fun w => valCheck_any w v
  obtain ⟨r, hr⟩ : ∃ r, v.check = r := ⟨_, rfl⟩
  rw [hr] at hc
  have HR := Lib.hid hr
  clear hr
  obtain ⟨k, n, s⟩ := v
  simp only [Vl.val] at *
  rw [hm] at hv hl hlen ⊢
  have h0 := ((St.start w).putOld (P := (IsBytes · (.slice bs m bc) l)) (Mono.bytes _ _) hv).alloc (.cells #[.int .i64 k, .int .i64 n, .string s] 57)
  obtain ⟨W1, hW1⟩ : ∃ W1, w.alloc (.cells #[.int .i64 k, .int .i64 n, .string s] 57) = W1 := ⟨_, rfl⟩
  have hsz : W1.heap.size = w.heap.size + 1 := by rw [← hW1, al_size]
  obtain ⟨i0, hi0, hz0, hs0, hb0⟩ := info_parts byte_info
  have em : (m : Int) + 16 = ((m + 16 : Nat) : Int) := by omega
  have EM := Lib.hid em
  have HM := Lib.hid hm
  clear em hv hm
  go_enter Try.func40, Try.ntmps40
  go_upto_region 1 with fail
  rw [hW1] at h0
  have HW := Lib.hid hsz
  clear hW1 hsz
  go_wp2_with (first
    | (refine wpList_make_own W1 rfl (.const (.int .i64 0)) (.tmp 7) 22 rfl W1.heap.size 5 i0 (.int .u8 0) 1 Try.underlying22 hi0 hz0 hs0 .i64 .i64 _ (m + 16) rfl rfl EM.out (by rw [hb0]; omega) (by simp only [maxLen]; omega) (Nat.le_refl _) ?_; intro w2 ho2 hg2; have hb2 := Below.grown (Below.refl W1.heap.size W1) hg2 (Nat.le_refl _) (fun k hk => by cases hk); replace ho2 : OwnBytes 5 W1.heap.size w2 (.slice (some ⟨W1.heap.size, 0, none⟩) 0 (m + 16)) [] := ho2)
    | (at_builtin; refine wpList_append_bytes rfl (.tmp 8) (.tmp 9) 22 22 rfl W1.heap.size 5 Try.underlying22 byte_info _ [] rfl ho2 _ l rfl (((h0.is 0 rfl : IsBytes _ _ _).below hb2 rfl).src Try.underlying22) (by rw [HM.out]; simp only [List.length_nil]; omega) hb2.size ?_; intro v3 w3 ho3 hg3; have hb3 := Below.grown hb2 hg3 hb2.size (fun k hk => (World.ownsRow.lt ho2 k hk).1); rw [List.nil_append] at ho3; have h3 := h0.call hb3; obtain ⟨c0, c1, c2⟩ := cells3 (h3.at_ 0 rfl)))
  refine (hc _).mono ?_
  rintro e w4 ⟨rfl, hb4⟩
  have h4 := h3.call hb4
  have ho4 := ho3.later hb4
  have hb4' := hb3.trans (hb4.mono hb3.size)
  have HS := Lib.hid h0
  clear c0 c1 c2 h3 ho3 hb3 hb4 hb2 ho2 h0
  obtain ⟨c0, c1, c2⟩ := cells3 (h4.at_ 0 rfl)
  by_cases hr0 : r = 0
  case neg =>
    have n1 := bne_of hr0
    have n2 := beq_of hr0
    go_wp2_with fail
    go_ret
    refine ⟨_, rfl, ?_, h4.below⟩
    unfold Vl.enc
    rw [if_neg (by rw [HR.out]; exact hr0), List.append_nil]
    exact ho4.lower (by rw [HW.out]; omega)
  subst hr0
  have hk := check_k HR.out
  simp only at hk
  have henc : (Vl.enc ⟨k, n, s⟩) = UInt8.ofNat k.toNat :: Vl.body ⟨k, n, s⟩ := by unfold Vl.enc; rw [if_pos HR.out]
  have HE := Lib.hid henc
  clear henc
  rcases hk with rfl | rfl | rfl | rfl | rfl | rfl
  · have hx : IsBytes (w4.alloc (.cells #[.int .u8 0] 5)) (.slice (some ⟨w4.heap.size, 0, none⟩) 1 1) [UInt8.ofNat (0 : Int).toNat] := IsBytes.new w4 5 (0, 0) [UInt8.ofNat (0 : Int).toNat] (by simp [maxLen])
    have ha := (show Below w4.heap.size w4 (w4.alloc (.cells #[.int .u8 0] 5)) from (Below.refl _ _).alloc (Nat.le_refl _) _)
    have hoa := ho4.later ha
    have hba := hb4'.trans (ha.mono hb4'.size)
    have hw4 := h4.call ha
    go_wp2_with (at_builtin; refine wpList_append_bytes rfl (.tmp 15) (.tmp 19) 22 22 rfl W1.heap.size 5 Try.underlying22 byte_info _ _ rfl hoa _ [UInt8.ofNat (0 : Int).toNat] rfl (hx.src Try.underlying22) (by rw [HM.out]; simp only [List.length_singleton]; omega) hba.size ?_; intro v5 w5 ho5 hg5; have hb5 := Below.grown hba hg5 hba.size (fun k hk => (World.ownsRow.lt hoa k hk).1); have h5 := HS.out.call hb5; obtain ⟨d0, d1, d2⟩ := cells3 (h5.at_ 0 rfl))
    go_ret
    exact ⟨_, rfl, by rw [HE.out]; exact ho5.lower (by rw [HW.out]; omega), h5.below⟩
  · have hx : IsBytes (w4.alloc (.cells #[.int .u8 1] 5)) (.slice (some ⟨w4.heap.size, 0, none⟩) 1 1) [UInt8.ofNat (1 : Int).toNat] := IsBytes.new w4 5 (0, 0) [UInt8.ofNat (1 : Int).toNat] (by simp [maxLen])
    have ha := (show Below w4.heap.size w4 (w4.alloc (.cells #[.int .u8 1] 5)) from (Below.refl _ _).alloc (Nat.le_refl _) _)
    have hoa := ho4.later ha
    have hba := hb4'.trans (ha.mono hb4'.size)
    have hw4 := h4.call ha
    have hn := check_bool HR.out rfl
    simp only at hn
    rcases hn with rfl | rfl
    · go_wp2_with (first | (at_builtin; refine wpList_append_bytes rfl (.tmp 15) (.tmp 19) 22 22 rfl W1.heap.size 5 Try.underlying22 byte_info _ _ rfl hoa _ [UInt8.ofNat (1 : Int).toNat] rfl (hx.src Try.underlying22) (by rw [HM.out]; simp only [List.length_singleton]; omega) hba.size ?_; intro v5 w5 ho5 hg5; have hb5 := Below.grown hba hg5 hba.size (fun k hk => (World.ownsRow.lt hoa k hk).1); have h5 := HS.out.call hb5; obtain ⟨d0, d1, d2⟩ := cells3 (h5.at_ 0 rfl)) | (at_builtin; have hx5 : IsBytes (w5.alloc (.cells #[.int .u8 0] 5)) (.slice (some ⟨w5.heap.size, 0, none⟩) 1 1) [UInt8.ofNat (0 : Int).toNat] := IsBytes.new w5 5 (0, 0) [UInt8.ofNat (0 : Int).toNat] (by simp [maxLen]); have ha5 := (show Below w5.heap.size w5 (w5.alloc (.cells #[.int .u8 0] 5)) from (Below.refl _ _).alloc (Nat.le_refl _) _); have hoa5 := ho5.later ha5; have hba5 := hb5.trans (ha5.mono hb5.size); refine wpList_append_bytes rfl (.tmp 25) (.tmp 29) 22 22 rfl W1.heap.size 5 Try.underlying22 byte_info _ _ rfl hoa5 _ [UInt8.ofNat (0 : Int).toNat] rfl (hx5.src Try.underlying22) (by rw [List.length_append, HM.out]; simp only [List.length_singleton]; omega) hba5.size ?_; intro v6 w6 ho6 hg6; have hb6 := Below.grown hba5 hg6 hba5.size (fun k hk => (World.ownsRow.lt hoa5 k hk).1); have h6 := HS.out.call hb6; obtain ⟨f0, f1, f2⟩ := cells3 (h6.at_ 0 rfl)))
      go_ret
      exact ⟨_, rfl, by rw [HE.out]; have ho7 := ho6.lower (B' := w.heap.size) (by rw [HW.out]; omega); rw [List.append_assoc] at ho7; exact ho7, h6.below⟩
    · go_wp2_with (first | (at_builtin; refine wpList_append_bytes rfl (.tmp 15) (.tmp 19) 22 22 rfl W1.heap.size 5 Try.underlying22 byte_info _ _ rfl hoa _ [UInt8.ofNat (1 : Int).toNat] rfl (hx.src Try.underlying22) (by rw [HM.out]; simp only [List.length_singleton]; omega) hba.size ?_; intro v5 w5 ho5 hg5; have hb5 := Below.grown hba hg5 hba.size (fun k hk => (World.ownsRow.lt hoa k hk).1); have h5 := HS.out.call hb5; obtain ⟨d0, d1, d2⟩ := cells3 (h5.at_ 0 rfl)) | (at_builtin; have hx5 : IsBytes (w5.alloc (.cells #[.int .u8 1] 5)) (.slice (some ⟨w5.heap.size, 0, none⟩) 1 1) [UInt8.ofNat (1 : Int).toNat] := IsBytes.new w5 5 (0, 0) [UInt8.ofNat (1 : Int).toNat] (by simp [maxLen]); have ha5 := (show Below w5.heap.size w5 (w5.alloc (.cells #[.int .u8 1] 5)) from (Below.refl _ _).alloc (Nat.le_refl _) _); have hoa5 := ho5.later ha5; have hba5 := hb5.trans (ha5.mono hb5.size); refine wpList_append_bytes rfl (.tmp 25) (.tmp 29) 22 22 rfl W1.heap.size 5 Try.underlying22 byte_info _ _ rfl hoa5 _ [UInt8.ofNat (1 : Int).toNat] rfl (hx5.src Try.underlying22) (by rw [List.length_append, HM.out]; simp only [List.length_singleton]; omega) hba5.size ?_; intro v6 w6 ho6 hg6; have hb6 := Below.grown hba5 hg6 hba5.size (fun k hk => (World.ownsRow.lt hoa5 k hk).1); have h6 := HS.out.call hb6; obtain ⟨f0, f1, f2⟩ := cells3 (h6.at_ 0 rfl)))
      go_ret
      exact ⟨_, rfl, by rw [HE.out]; have ho7 := ho6.lower (B' := w.heap.size) (by rw [HW.out]; omega); rw [List.append_assoc] at ho7; exact ho7, h6.below⟩
  · have hx : IsBytes (w4.alloc (.cells #[.int .u8 2] 5)) (.slice (some ⟨w4.heap.size, 0, none⟩) 1 1) [UInt8.ofNat (2 : Int).toNat] := IsBytes.new w4 5 (0, 0) [UInt8.ofNat (2 : Int).toNat] (by simp [maxLen])
    have ha := (show Below w4.heap.size w4 (w4.alloc (.cells #[.int .u8 2] 5)) from (Below.refl _ _).alloc (Nat.le_refl _) _)
    have hoa := ho4.later ha
    have hba := hb4'.trans (ha.mono hb4'.size)
    have hw4 := h4.call ha
    have hn := check_num HR.out (by simp)
    simp only at hn
    go_wp2_with (at_builtin; refine wpList_append_bytes rfl (.tmp 15) (.tmp 19) 22 22 rfl W1.heap.size 5 Try.underlying22 byte_info _ _ rfl hoa _ [UInt8.ofNat (2 : Int).toNat] rfl (hx.src Try.underlying22) (by rw [HM.out]; simp only [List.length_singleton]; omega) hba.size ?_; intro v5 w5 ho5 hg5; have hb5 := Below.grown hba hg5 hba.size (fun k hk => (World.ownsRow.lt hoa k hk).1); have h5 := HS.out.call hb5; obtain ⟨d0, d1, d2⟩ := cells3 (h5.at_ 0 rfl))
    refine (appendInt_any _ _ _ n (by omega) (by omega) ho5.is (by rw [List.length_append, HM.out]; simp only [List.length_singleton]; omega)).mono ?_
    rintro e w6 ⟨v6, rfl, ho6, hb6⟩
    have h6 := h5.call hb6
    have hle := hb5.size
    go_wp2_with fail
    go_ret
    exact ⟨_, rfl, by rw [HE.out]; have ho7 := ho6.lower (B' := w.heap.size) (by have := HW.out; omega); rw [List.append_assoc] at ho7; exact ho7, h6.below⟩
  · have hx : IsBytes (w4.alloc (.cells #[.int .u8 3] 5)) (.slice (some ⟨w4.heap.size, 0, none⟩) 1 1) [UInt8.ofNat (3 : Int).toNat] := IsBytes.new w4 5 (0, 0) [UInt8.ofNat (3 : Int).toNat] (by simp [maxLen])
    have ha := (show Below w4.heap.size w4 (w4.alloc (.cells #[.int .u8 3] 5)) from (Below.refl _ _).alloc (Nat.le_refl _) _)
    have hoa := ho4.later ha
    have hba := hb4'.trans (ha.mono hb4'.size)
    have hw4 := h4.call ha
    have hn := check_num HR.out (by simp)
    simp only at hn
    go_wp2_with (at_builtin; refine wpList_append_bytes rfl (.tmp 15) (.tmp 19) 22 22 rfl W1.heap.size 5 Try.underlying22 byte_info _ _ rfl hoa _ [UInt8.ofNat (3 : Int).toNat] rfl (hx.src Try.underlying22) (by rw [HM.out]; simp only [List.length_singleton]; omega) hba.size ?_; intro v5 w5 ho5 hg5; have hb5 := Below.grown hba hg5 hba.size (fun k hk => (World.ownsRow.lt hoa k hk).1); have h5 := HS.out.call hb5; obtain ⟨d0, d1, d2⟩ := cells3 (h5.at_ 0 rfl))
    refine (appendInt_any _ _ _ n (by omega) (by omega) ho5.is (by rw [List.length_append, HM.out]; simp only [List.length_singleton]; omega)).mono ?_
    rintro e w6 ⟨v6, rfl, ho6, hb6⟩
    have h6 := h5.call hb6
    have hle := hb5.size
    go_wp2_with fail
    go_ret
    exact ⟨_, rfl, by rw [HE.out]; have ho7 := ho6.lower (B' := w.heap.size) (by have := HW.out; omega); rw [List.append_assoc] at ho7; exact ho7, h6.below⟩
  · have hx : IsBytes (w4.alloc (.cells #[.int .u8 4] 5)) (.slice (some ⟨w4.heap.size, 0, none⟩) 1 1) [UInt8.ofNat (4 : Int).toNat] := IsBytes.new w4 5 (0, 0) [UInt8.ofNat (4 : Int).toNat] (by simp [maxLen])
    have ha := (show Below w4.heap.size w4 (w4.alloc (.cells #[.int .u8 4] 5)) from (Below.refl _ _).alloc (Nat.le_refl _) _)
    have hoa := ho4.later ha
    have hba := hb4'.trans (ha.mono hb4'.size)
    have hw4 := h4.call ha
    have hn := check_str HR.out (by simp)
    simp only at hn
    go_wp2_with (at_builtin; refine wpList_append_bytes rfl (.tmp 15) (.tmp 19) 22 22 rfl W1.heap.size 5 Try.underlying22 byte_info _ _ rfl hoa _ [UInt8.ofNat (4 : Int).toNat] rfl (hx.src Try.underlying22) (by rw [HM.out]; simp only [List.length_singleton]; omega) hba.size ?_; intro v5 w5 ho5 hg5; have hb5 := Below.grown hba hg5 hba.size (fun k hk => (World.ownsRow.lt hoa k hk).1); have h5 := HS.out.call hb5; obtain ⟨d0, d1, d2⟩ := cells3 (h5.at_ 0 rfl))
    refine (appendText_any _ _ _ s ho5.is (by rw [List.length_append, HM.out]; simp only [List.length_singleton]; omega)).mono ?_
    rintro e w6 ⟨v6, rfl, ho6, hb6⟩
    have h6 := h5.call hb6
    have hle := hb5.size
    go_wp2_with fail
    go_ret
    exact ⟨_, rfl, by rw [HE.out]; have ho7 := ho6.lower (B' := w.heap.size) (by have := HW.out; omega); rw [List.append_assoc] at ho7; exact ho7, h6.below⟩
  · have hx : IsBytes (w4.alloc (.cells #[.int .u8 5] 5)) (.slice (some ⟨w4.heap.size, 0, none⟩) 1 1) [UInt8.ofNat (5 : Int).toNat] := IsBytes.new w4 5 (0, 0) [UInt8.ofNat (5 : Int).toNat] (by simp [maxLen])
    have ha := (show Below w4.heap.size w4 (w4.alloc (.cells #[.int .u8 5] 5)) from (Below.refl _ _).alloc (Nat.le_refl _) _)
    have hoa := ho4.later ha
    have hba := hb4'.trans (ha.mono hb4'.size)
    have hw4 := h4.call ha
    have hn := check_str HR.out (by simp)
    simp only at hn
    go_wp2_with (at_builtin; refine wpList_append_bytes rfl (.tmp 15) (.tmp 19) 22 22 rfl W1.heap.size 5 Try.underlying22 byte_info _ _ rfl hoa _ [UInt8.ofNat (5 : Int).toNat] rfl (hx.src Try.underlying22) (by rw [HM.out]; simp only [List.length_singleton]; omega) hba.size ?_; intro v5 w5 ho5 hg5; have hb5 := Below.grown hba hg5 hba.size (fun k hk => (World.ownsRow.lt hoa k hk).1); have h5 := HS.out.call hb5; obtain ⟨d0, d1, d2⟩ := cells3 (h5.at_ 0 rfl))
    refine (appendText_any _ _ _ s ho5.is (by rw [List.length_append, HM.out]; simp only [List.length_singleton]; omega)).mono ?_
    rintro e w6 ⟨v6, rfl, ho6, hb6⟩
    have h6 := h5.call hb6
    have hle := hb5.size
    go_wp2_with fail
    go_ret
    exact ⟨_, rfl, by rw [HE.out]; have ho7 := ho6.lower (B' := w.heap.size) (by have := HW.out; omega); rw [List.append_assoc] at ho7; exact ho7, h6.below⟩
end Go.Proofs.Ytfpkibfofainaaa
