/- The specification of values: Bytes and Append. -/
import Derived.Test.YtfpkibfofainaaaZR4A
import Derived.Test.YtfpkibfofainaaaZRvc
import Derived.Test.YtfpkibfofainaaaZValA
set_option linter.unusedVariables false
set_option linter.unusedSimpArgs false
namespace Go.Proofs.Ytfpkibfofainaaa
open Go.RowKit

theorem OwnBytes.built {E B : Nat} (w : World) (x : UInt8) (c : Int) (hc : c = (x.toNat : Int)) (hB : B ≤ w.heap.size) : OwnBytes E B (w.alloc (.cells #[.int .u8 c] E)) (.slice (some ⟨w.heap.size, 0, none⟩) 1 1) [x] :=
  ⟨by simp, .inr ⟨w.heap.size, 1, #[.int .u8 c], by simp, hB, heap_alloc_new _ _, by simp, by simp [maxLen], by simp, by simp [u8v, hc]⟩⟩

set_option maxRecDepth 8000 in
set_option maxHeartbeats 2000000 in
theorem refVBytes_any (w : World) (v : Vl) (hv : v.check = 0) :
    Calls Try.prog 93 #[v.val] w fun e w' => ∃ v', e = .returned v' ∧ OwnBytes 5 w.heap.size w' v' v.enc ∧ Below w.heap.size w w' := by
  obtain ⟨k, n, s⟩ := v
  have henc : Vl.enc ⟨k, n, s⟩ = UInt8.ofNat k.toNat :: Vl.body ⟨k, n, s⟩ := by unfold Vl.enc; rw [if_pos hv]
  have hb := check_bool hv
  have hnum := check_num hv
  have hstr := check_str hv
  have hk := check_k hv
  simp only at hb hnum hstr hk
  obtain ⟨X, hX⟩ : ∃ X, Vl.enc ⟨k, n, s⟩ = X := ⟨_, rfl⟩
  rw [hX] at henc ⊢
  have HX := Lib.hid henc
  clear henc hX hv
  rcases hk with rfl | rfl | rfl | rfl | rfl | rfl
  · have h2 := ((St.start w).alloc (.cells #[.int .i64 0, .int .i64 n, .string s] 57)).alloc (.cells #[.int .u8 0] 5)
    have ho : OwnBytes 5 w.heap.size _ _ [UInt8.ofNat 0] := OwnBytes.built (E := 5) (w.alloc (.cells #[.int .i64 0, .int .i64 n, .string s] 57)) (UInt8.ofNat 0) 0 rfl (by rw [al_size]; exact Nat.le_succ _)
    simp only [al_size] at h2 ho
    go_enter Try.func93, Try.ntmps93
    go_upto_region 2 with fail
    generalize World.alloc _ _ = W at h2 ho ⊢
    have hbl := h2.below
    obtain ⟨c0, c1, c2⟩ := cells3 (h2.at_ 1 rfl)
    go_wp2_with fail
    go_ret
    exact ⟨_, rfl, by rw [HX.out]; exact ho, hbl⟩
  · have h2 := ((St.start w).alloc (.cells #[.int .i64 1, .int .i64 n, .string s] 57)).alloc (.cells #[.int .u8 1] 5)
    have ho : OwnBytes 5 w.heap.size _ _ [UInt8.ofNat 1] := OwnBytes.built (E := 5) (w.alloc (.cells #[.int .i64 1, .int .i64 n, .string s] 57)) (UInt8.ofNat 1) 1 rfl (by rw [al_size]; exact Nat.le_succ _)
    simp only [al_size] at h2 ho
    go_enter Try.func93, Try.ntmps93
    go_upto_region 2 with fail
    generalize World.alloc _ _ = W at h2 ho ⊢
    have hbl := h2.below
    obtain ⟨c0, c1, c2⟩ := cells3 (h2.at_ 1 rfl)
    rcases hb rfl with rfl | rfl
    · have hx : IsBytes (W.alloc (.cells #[.int .u8 0] 5)) (.slice (some ⟨W.heap.size, 0, none⟩) 1 1) [UInt8.ofNat 0] := IsBytes.new W 5 (0, 0) [UInt8.ofNat 0] (by simp [maxLen])
      have hb1 := hbl.alloc hbl.size (.cells #[.int .u8 0] 5)
      have ho1 := ho.later (show Below W.heap.size W (W.alloc (.cells #[.int .u8 0] 5)) from (Below.refl _ _).alloc (Nat.le_refl _) _)
      go_wp2_with (at_builtin; go_loud (refine wpList_append_bytes rfl (.tmp 12) (.tmp 16) 22 22 rfl w.heap.size 5 Try.underlying22 byte_info _ [UInt8.ofNat 1] rfl ho1 _ [UInt8.ofNat 0] rfl (hx.src Try.underlying22) (by simp) hb1.size ?_; intro v3 w3 ho3 hg3))
      go_ret
      exact ⟨_, rfl, by rw [HX.out]; exact ho3, Below.grown hb1 hg3 hb1.size (fun k hk => (World.ownsRow.lt ho1 k hk).1)⟩
    · have hx : IsBytes (W.alloc (.cells #[.int .u8 1] 5)) (.slice (some ⟨W.heap.size, 0, none⟩) 1 1) [UInt8.ofNat 1] := IsBytes.new W 5 (0, 0) [UInt8.ofNat 1] (by simp [maxLen])
      have hb1 := hbl.alloc hbl.size (.cells #[.int .u8 1] 5)
      have ho1 := ho.later (show Below W.heap.size W (W.alloc (.cells #[.int .u8 1] 5)) from (Below.refl _ _).alloc (Nat.le_refl _) _)
      go_wp2_with (at_builtin; go_loud (refine wpList_append_bytes rfl (.tmp 12) (.tmp 16) 22 22 rfl w.heap.size 5 Try.underlying22 byte_info _ [UInt8.ofNat 1] rfl ho1 _ [UInt8.ofNat 1] rfl (hx.src Try.underlying22) (by simp) hb1.size ?_; intro v3 w3 ho3 hg3))
      go_ret
      exact ⟨_, rfl, by rw [HX.out]; exact ho3, Below.grown hb1 hg3 hb1.size (fun k hk => (World.ownsRow.lt ho1 k hk).1)⟩
  · have h2 := ((St.start w).alloc (.cells #[.int .i64 2, .int .i64 n, .string s] 57)).alloc (.cells #[.int .u8 2] 5)
    have ho : OwnBytes 5 w.heap.size _ _ [UInt8.ofNat 2] := OwnBytes.built (E := 5) (w.alloc (.cells #[.int .i64 2, .int .i64 n, .string s] 57)) (UInt8.ofNat 2) 2 rfl (by rw [al_size]; exact Nat.le_succ _)
    simp only [al_size] at h2 ho
    go_enter Try.func93, Try.ntmps93
    go_upto_region 2 with fail
    generalize World.alloc _ _ = W at h2 ho ⊢
    have hbl := h2.below
    obtain ⟨c0, c1, c2⟩ := cells3 (h2.at_ 1 rfl)
    obtain ⟨m1, m2⟩ := hnum (.inl rfl)
    go_wp2_with fail
    refine (refInt_any W n (by omega) (by omega)).mono ?_
    rintro e w1 ⟨v1, rfl, ho1, hb1⟩
    have ho2 := ho.later hb1
    have hlen : (Wire.encI n).length ≤ 10 := Wire.encU_len10 (Wire.zig_lt (by omega) (by omega))
    have hb2 := hbl.trans (hb1.mono hbl.size)
    go_wp2_with (at_builtin; go_loud (refine wpList_append_bytes rfl (.tmp 21) (.tmp 24) 22 22 rfl w.heap.size 5 Try.underlying22 byte_info _ [UInt8.ofNat 2] rfl ho2 _ (Wire.encI n) rfl (ho1.is.src Try.underlying22) (by simp only [List.length_singleton]; omega) hb2.size ?_; intro v3 w3 ho3 hg3))
    go_ret
    exact ⟨_, rfl, by rw [HX.out]; exact ho3, Below.grown hb2 hg3 hb2.size (fun k hk => (World.ownsRow.lt ho2 k hk).1)⟩
  · have h2 := ((St.start w).alloc (.cells #[.int .i64 3, .int .i64 n, .string s] 57)).alloc (.cells #[.int .u8 3] 5)
    have ho : OwnBytes 5 w.heap.size _ _ [UInt8.ofNat 3] := OwnBytes.built (E := 5) (w.alloc (.cells #[.int .i64 3, .int .i64 n, .string s] 57)) (UInt8.ofNat 3) 3 rfl (by rw [al_size]; exact Nat.le_succ _)
    simp only [al_size] at h2 ho
    go_enter Try.func93, Try.ntmps93
    go_upto_region 2 with fail
    generalize World.alloc _ _ = W at h2 ho ⊢
    have hbl := h2.below
    obtain ⟨c0, c1, c2⟩ := cells3 (h2.at_ 1 rfl)
    obtain ⟨m1, m2⟩ := hnum (.inr rfl)
    go_wp2_with fail
    refine (refInt_any W n (by omega) (by omega)).mono ?_
    rintro e w1 ⟨v1, rfl, ho1, hb1⟩
    have ho2 := ho.later hb1
    have hlen : (Wire.encI n).length ≤ 10 := Wire.encU_len10 (Wire.zig_lt (by omega) (by omega))
    have hb2 := hbl.trans (hb1.mono hbl.size)
    go_wp2_with (at_builtin; go_loud (refine wpList_append_bytes rfl (.tmp 21) (.tmp 24) 22 22 rfl w.heap.size 5 Try.underlying22 byte_info _ [UInt8.ofNat 3] rfl ho2 _ (Wire.encI n) rfl (ho1.is.src Try.underlying22) (by simp only [List.length_singleton]; omega) hb2.size ?_; intro v3 w3 ho3 hg3))
    go_ret
    exact ⟨_, rfl, by rw [HX.out]; exact ho3, Below.grown hb2 hg3 hb2.size (fun k hk => (World.ownsRow.lt ho2 k hk).1)⟩
  · have h2 := ((St.start w).alloc (.cells #[.int .i64 4, .int .i64 n, .string s] 57)).alloc (.cells #[.int .u8 4] 5)
    have ho : OwnBytes 5 w.heap.size _ _ [UInt8.ofNat 4] := OwnBytes.built (E := 5) (w.alloc (.cells #[.int .i64 4, .int .i64 n, .string s] 57)) (UInt8.ofNat 4) 4 rfl (by rw [al_size]; exact Nat.le_succ _)
    simp only [al_size] at h2 ho
    go_enter Try.func93, Try.ntmps93
    go_upto_region 2 with fail
    generalize World.alloc _ _ = W at h2 ho ⊢
    have hbl := h2.below
    obtain ⟨c0, c1, c2⟩ := cells3 (h2.at_ 1 rfl)
    have hs := hstr (.inl rfl)
    go_wp2_with fail
    refine (refText4_any W s (by omega)).mono ?_
    rintro e w1 ⟨v1, rfl, ho1, hb1⟩
    have ho2 := ho.later hb1
    have hlen : (Wire.encT s.data.toList).length ≤ 74 := by
      have := Wire.encU_len10 (n := s.data.toList.length) (by simp; omega)
      unfold Wire.encT; rw [List.length_append]; simp at this ⊢; omega
    have hb2 := hbl.trans (hb1.mono hbl.size)
    go_wp2_with (at_builtin; go_loud (refine wpList_append_bytes rfl (.tmp 29) (.tmp 32) 22 22 rfl w.heap.size 5 Try.underlying22 byte_info _ [UInt8.ofNat 4] rfl ho2 _ (Wire.encT s.data.toList) rfl (ho1.is.src Try.underlying22) (by simp only [List.length_singleton]; omega) hb2.size ?_; intro v3 w3 ho3 hg3))
    go_ret
    exact ⟨_, rfl, by rw [HX.out]; exact ho3, Below.grown hb2 hg3 hb2.size (fun k hk => (World.ownsRow.lt ho2 k hk).1)⟩
  · have h2 := ((St.start w).alloc (.cells #[.int .i64 5, .int .i64 n, .string s] 57)).alloc (.cells #[.int .u8 5] 5)
    have ho : OwnBytes 5 w.heap.size _ _ [UInt8.ofNat 5] := OwnBytes.built (E := 5) (w.alloc (.cells #[.int .i64 5, .int .i64 n, .string s] 57)) (UInt8.ofNat 5) 5 rfl (by rw [al_size]; exact Nat.le_succ _)
    simp only [al_size] at h2 ho
    go_enter Try.func93, Try.ntmps93
    go_upto_region 2 with fail
    generalize World.alloc _ _ = W at h2 ho ⊢
    have hbl := h2.below
    obtain ⟨c0, c1, c2⟩ := cells3 (h2.at_ 1 rfl)
    have hs := hstr (.inr rfl)
    go_wp2_with fail
    refine (refText4_any W s (by omega)).mono ?_
    rintro e w1 ⟨v1, rfl, ho1, hb1⟩
    have ho2 := ho.later hb1
    have hlen : (Wire.encT s.data.toList).length ≤ 74 := by
      have := Wire.encU_len10 (n := s.data.toList.length) (by simp; omega)
      unfold Wire.encT; rw [List.length_append]; simp at this ⊢; omega
    have hb2 := hbl.trans (hb1.mono hbl.size)
    go_wp2_with (at_builtin; go_loud (refine wpList_append_bytes rfl (.tmp 29) (.tmp 32) 22 22 rfl w.heap.size 5 Try.underlying22 byte_info _ [UInt8.ofNat 5] rfl ho2 _ (Wire.encT s.data.toList) rfl (ho1.is.src Try.underlying22) (by simp only [List.length_singleton]; omega) hb2.size ?_; intro v3 w3 ho3 hg3))
    go_ret
    exact ⟨_, rfl, by rw [HX.out]; exact ho3, Below.grown hb2 hg3 hb2.size (fun k hk => (World.ownsRow.lt ho2 k hk).1)⟩

set_option maxRecDepth 8000 in
set_option maxHeartbeats 2000000 in
theorem refVAppend_any (w : World) (bv : Value) (l : List UInt8) (v : Vl) (hb : IsBytes w bv l) (hl : l.length ≤ 140737488351232) :
    Calls Try.prog 83 #[bv, v.val] w fun e w' => ∃ v', e = .returned v' ∧ OwnBytes 5 w.heap.size w' v' (l ++ v.enc) ∧ Below w.heap.size w w' := by
  obtain ⟨bs, bc, rfl, hlen, hcap, -, -⟩ := hb.out
  obtain ⟨m, hm⟩ : ∃ m, l.length = m := ⟨_, rfl⟩
  rw [hm] at hb hlen ⊢
  have HM := Lib.hid hm
  have HL := Lib.hid hl
  have hval := fun w => refValid_any w v
  have hbv := fun w h => refVBytes_any w v h
  obtain ⟨r, hr⟩ : ∃ r, v.check = r := ⟨_, rfl⟩
  obtain ⟨X, hX⟩ : ∃ X, v.enc = X := ⟨_, rfl⟩
  have hXe : r ≠ 0 → X = [] := fun h => by rw [← hX]; unfold Vl.enc; rw [if_neg (by rw [hr]; exact h)]
  have hXl : X.length ≤ 75 := by
    rw [← hX]; unfold Vl.enc
    by_cases h : v.check = 0
    · rw [if_pos h, List.length_cons]
      have h1 := check_num h
      have h2 := check_str h
      unfold Vl.body
      split
      · simp
      · split
        · rename_i hk; have := h1 hk; have : (Wire.encI v.n).length ≤ 10 := Wire.encU_len10 (Wire.zig_lt (by omega) (by omega)); omega
        · split
          · rename_i hk
            have := h2 hk
            have h3 := Wire.encU_len10 (n := v.s.data.toList.length) (by simp; omega)
            unfold Wire.encT; rw [List.length_append]; simp at h3 ⊢; omega
          · simp
    · rw [if_neg h]; simp
  rw [hX]
  rw [hr, hX] at hbv
  rw [hr] at hval
  obtain ⟨k, n, s⟩ := v
  simp only [Vl.val] at hval hbv ⊢
  have HV := Lib.hid hval
  have HB := Lib.hid hbv
  have HXE := Lib.hid hXe
  clear hval hbv hXe hX hr hm hl
  have h0 := ((St.start w).putOld (P := (IsBytes · (.slice bs m bc) l)) (Mono.bytes _ _) hb).alloc (.cells #[.int .i64 k, .int .i64 n, .string s] 57)
  obtain ⟨c0, c1, c2⟩ := cells3 (h0.at_ 0 rfl)
  go_enter Try.func83, Try.ntmps83
  go_wp2_with fail
  refine (Calls.sV h0 (HV.out _)).mono ?_
  rintro e w1 ⟨rfl, h1⟩
  clear h0 c0 c1 c2
  obtain ⟨c0, c1, c2⟩ := cells3 (h1.at_ 0 rfl)
  by_cases hr : r = 0
  · subst hr
    go_wp2_with fail
    refine (HB.out w1 (by simp)).mono ?_
    rintro e w2 ⟨v2, rfl, ho2, hb2⟩
    have h2 := h1.call hb2
    go_wp2_with fail
    have a1 : IsBytes w2 (.slice bs m bc) l := h2.is 0 rfl
    have a2 : IsBytes w2 v2 X := ho2.is
    have a3 : l.length + X.length ≤ 140737488355328 := by have := HL.out; omega
    have a4 := refJoin_any w2 _ _ l X a1 a2 a3
    clear a1 a2 a3
    refine a4.mono ?_
    rintro e w3 ⟨v3, rfl, ho3, hb3⟩
    go_wp2_with fail
    go_ret
    exact ⟨_, rfl, ho3.lower h2.size, (h2.call hb3).below⟩
  · have n1 := beq_of hr
    go_wp2_with fail
    refine (refJoin_any w1 _ _ l [] (h1.is 0 rfl) (OwnBytes.nil 5 0 w1).is (by simp only [List.length_nil]; have := HL.out; omega)).mono ?_
    rintro e w3 ⟨v3, rfl, ho3, hb3⟩
    go_wp2_with fail
    go_ret
    exact ⟨_, rfl, by rw [HXE.out hr]; exact ho3.lower h1.size, (h1.call hb3).below⟩
end Go.Proofs.Ytfpkibfofainaaa
