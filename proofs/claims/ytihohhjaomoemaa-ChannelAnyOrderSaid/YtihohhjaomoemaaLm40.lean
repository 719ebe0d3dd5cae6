/- The walk over ChannelMatches. -/
import Derived.Test.YtihohhjaomoemaaLx40
set_option linter.unusedVariables false
set_option linter.unusedSimpArgs false
namespace Go.Proofs.Ytihohhjaomoemaa
open Go Go.RowKit

set_option maxRecDepth 8000 in
set_option maxHeartbeats 8000000 in
theorem matches_walk (w : World) (hm : HasMax w) (l : List Pk) (lb : Option Addr) (lq : Nat) (hl : IsPks w (.slice lb l.length lq) l) (p : Pk) (vb : Option Addr) (vq : Nat) (hp : IsVals w (.slice vb p.fact.fields.length vq) p.fact.fields) (n : Int) (hn64 : -9223372036854775808 ≤ n ∧ n ≤ 9223372036854775807) :
    Calls Try.prog 7 #[.agg #[.slice lb l.length lq], p.val (.slice vb p.fact.fields.length vq), .int .i64 n] w fun e w' => e = .returned (.bool true) ∧ Below w.heap.size w w' := by
  obtain ⟨N, hN⟩ : ∃ N, l.length = N := ⟨_, rfl⟩
  obtain ⟨⟨S1, s1⟩, hS⟩ : ∃ R, sendR l p = R := ⟨_, rfl⟩
  obtain ⟨⟨S2, Q, s2⟩, hD⟩ : ∃ R, delR l n = R := ⟨_, rfl⟩
  obtain ⟨⟨S3, s3⟩, hR⟩ : ∃ R, dropR l n = R := ⟨_, rfl⟩
  obtain ⟨⟨S4, s4⟩, hC⟩ : ∃ R, copyR l n = R := ⟨_, rfl⟩
  obtain ⟨N1, hN1⟩ : ∃ N, S1.length = N := ⟨_, rfl⟩
  obtain ⟨N2, hN2⟩ : ∃ N, S2.length = N := ⟨_, rfl⟩
  obtain ⟨N3, hN3⟩ : ∃ N, S3.length = N := ⟨_, rfl⟩
  obtain ⟨N4, hN4⟩ : ∃ N, S4.length = N := ⟨_, rfl⟩
  obtain ⟨a1, a2, a3, f1, f2, f3, f4, f5, f6, f7, f8⟩ := p
  obtain ⟨b1, b2, b3, g1, g2, g3, g4, g5, g6, g7, g8⟩ := Q
  simp only [Pk.val, Pk.cellsA] at hp ⊢
  obtain ⟨m, hmm⟩ : ∃ m, f8.length = m := ⟨_, rfl⟩
  obtain ⟨k, hkk⟩ : ∃ m, g8.length = m := ⟨_, rfl⟩
  rw [hmm] at hp ⊢
  rw [hN] at hl ⊢
  have HN := Lib.hid hN
  have HMM := Lib.hid hmm
  have HKK := Lib.hid hkk
  have RS := Lib.hid hS
  have RD := Lib.hid hD
  have RR := Lib.hid hR
  have RC := Lib.hid hC
  have L1 := Lib.hid hN1
  have L2 := Lib.hid hN2
  have L3 := Lib.hid hN3
  have L4 := Lib.hid hN4
  have h0 := (((((St.start w).putOld hasMax_mono hm).putOld (P := (IsPks · (.slice lb N lq) l)) (Mono.seq rdPk_up _ _) hl).putOld (P := (IsVals · (.slice vb m vq) f8)) (Mono.seq rdVal_up _ _) hp).boxC #[.slice lb N lq] 24).boxC #[.string a1, .bool a2, .int .i64 a3, .string f1, .int .i64 f2, .int .i64 f3, .int .i64 f4, .string f5, .string f6, .int .i64 f7, .slice vb m vq] 31
  simp only [al_size] at h0
  clear hl hp hN hmm hkk hS hD hR hC hN1 hN2 hN3 hN4
  go_enter Try.func7, Try.ntmps7
  go_wp2_with fail
  refine (Calls.sV h0 (example_any _ (h0.is 4 rfl))).mono ?_
  rintro e w1 ⟨rfl, h1⟩
  clear h0
  obtain ⟨ck, hck⟩ : ∃ c, chCheck l = c := ⟨_, rfl⟩
  have HCK := Lib.hid hck
  clear hck
  go_upto_region 2 with fail
  refine wp_region_st [pVal (.agg #[.slice lb N lq]), pVal (.int .i64 ck), pVal (.agg #[.slice lb N lq]), pVal (.int .i64 ck), pVal (.bool false)] (osC []) 118 [0, 1, 0, 7, 15] [[], [(0, 15)], [], [(2, 17)], [(3, 18), (1, 16)]] [(0, 15), (1, 16), (2, 17), (3, 18), (4, 19)] (by kernel_rfl) (by kernel_rfl) rfl rfl h1 osC0 osC1 ?ob ?en
  case ob =>
    refine ⟨?_, ?_, ?_, ?_, ?_, trivial⟩
    · -- 0: t15 := Op.load 24 (t3)
      intro zx1 zx2 zx3 zx4 L V W hL hd hw hst 
      have hz := mask_is _ _ _ _ ((hst.base 1 rfl : IsCells _ _ _) 0 _ rfl)
      refine ob_c rfl ?_ hst rfl
      go_simp
      try with_reducible rfl
    · -- 1: t16 := Op.call { callee := value (func 18), args := #[t15], argTypes := #[24] }
      intro zx1 zx2 zx3 zx4 L V W hL hd hw hst u0 e0 p0
      obtain rfl : u0 = _ := p0
      have hcc := chCheck_any W (hasMax_sub (hst.base 4 rfl) (mask_is _ _)) lb lq l (by rw [HN.out]; exact ((hst.base 3 rfl : IsPks _ _ _).sub rdPk_up (mask_is _ _)))
      rw [HN.out, HCK.out] at hcc
      refine ob_call rfl ?_ (Calls.pV hst hcc)
      go_simp
    · -- 2: t17 := Op.load 24 (t3)
      intro zx1 zx2 zx3 zx4 L V W hL hd hw hst 
      have hz := mask_is _ _ _ _ ((hst.base 1 rfl : IsCells _ _ _) 0 _ rfl)
      refine ob_c rfl ?_ hst rfl
      go_simp
      try with_reducible rfl
    · -- 3: t18 := Op.call { callee := value (func 10), args := #[t17], argTypes := #[24] }
      intro zx1 zx2 zx3 zx4 L V W hL hd hw hst u2 e2 p2
      obtain rfl : u2 = _ := p2
      have hcc := refChCheck_any W lb lq l (by rw [HN.out]; exact ((hst.base 3 rfl : IsPks _ _ _).sub rdPk_up (mask_is _ _)))
      rw [HN.out, HCK.out] at hcc
      refine ob_call rfl ?_ (Calls.pV hst hcc)
      go_simp
    · -- 4: t19 := Op.binOp BinOp.neq 33 (t16) (t18) 33
      intro zx1 zx2 zx3 zx4 L V W hL hd hw hst u1 e1 p1 u3 e3 p3
      obtain rfl : u1 = _ := p1
      obtain rfl : u3 = _ := p3
      refine ob_c rfl ?_ hst rfl
      go_simp
  case en =>
    intro V W hst u0 e0 p0 u1 e1 p1 u2 e2 p2 u3 e3 p3 u4 e4 p4
    obtain rfl : u0 = _ := p0
    obtain rfl : u1 = _ := p1
    obtain rfl : u2 = _ := p2
    obtain rfl : u3 = _ := p3
    obtain rfl : u4 = _ := p4
    simp only [EndAll, Act.put, List.getElem_toArray, List.getElem_cons_succ, List.getElem_cons_zero, List.setIfInBounds_toArray, List.set_cons_zero, List.set_cons_succ]
    rw [show osC [] (fun _ => true) V = [] from rfl] at hst
    have h2 := hst
    clear hst e0 e1 e2 e3 e4 h1
    have c0 := (h2.is 1 rfl : IsCells _ _ _).c1
    go_wp2_with fail
    refine (refChCheck_c h2 (h2.is 3 rfl) HN.out HCK.out).mono ?_
    rintro e w3 ⟨rfl, h3⟩
    clear h2 c0
    by_cases hk : ck = 0
    case neg =>
      have hk' := bne_of hk
      clear HCK
      go_wp2_with fail
      go_ret
      exact ⟨rfl, h3.below⟩
    subst hk
    have hle : N ≤ 1048576 := by have := chk_len HCK.out; rw [HN.out] at this; omega
    clear HCK
    have c0 := (h3.is 1 rfl : IsCells _ _ _).c1
    go_wp2_with (refine wpList_load_mid rfl 31 (.tmp 4) rfl (w.heap.size + 1) 0 rfl [.string a1, .bool a2, .int .i64 a3, .string f1, .int .i64 f2, .int .i64 f3, .int .i64 f4, .string f5, .string f6, .int .i64 f7, .slice vb m vq] _ (h3.is 0 rfl : IsCells _ _ _).range Try.underlying31 rfl rfl ?_)
    refine (send_s h3 (h3.is 4 rfl) (⟨a1, a2, a3, ⟨f1, f2, f3, f4, f5, f6, f7, f8⟩⟩ : Pk) (h3.get 3 rfl) HN.out (h3.get 2 rfl) HMM.out RS.out L1.out).mono ?_
    rintro e w4 ⟨r1, q1, rfl, h4⟩
    clear h3 c0
    go_upto_region 7 with fail
    have h5 := h4.alloc (.cells #[.slice r1 N1 q1] 24)
    clear h4
    generalize World.alloc _ _ = W5 at h5 ⊢
    generalize w4.heap.size = p8 at h5 ⊢
    have c0 := (h5.is 2 rfl : IsCells _ _ _).c1
    go_wp2_with (refine wpList_load_mid rfl 31 (.tmp 4) rfl (w.heap.size + 1) 0 rfl [.string a1, .bool a2, .int .i64 a3, .string f1, .int .i64 f2, .int .i64 f3, .int .i64 f4, .string f5, .string f6, .int .i64 f7, .slice vb m vq] _ (h5.is 1 rfl : IsCells _ _ _).range Try.underlying31 rfl rfl ?_)
    refine (refSend_s h5 (⟨a1, a2, a3, ⟨f1, f2, f3, f4, f5, f6, f7, f8⟩⟩ : Pk) (h5.get 4 rfl) HN.out (h5.get 3 rfl) HMM.out RS.out L1.out).mono ?_
    rintro e w6 ⟨r2, q2, rfl, h6⟩
    clear h5 c0
    go_upto_region 8 with fail
    have h7 := h6.alloc (.cells #[.slice r2 N1 q2] 24)
    clear h6
    generalize World.alloc _ _ = W7 at h7 ⊢
    generalize w6.heap.size = p10 at h7 ⊢
    have d8 := cell_at (h7.at_ 1 rfl)
    have d10 := cell_at (h7.at_ 0 rfl)
    go_wp2_with fail
    refine (sameCh_s h7 (h7.is 1 rfl) L1.out (h7.is 0 rfl) L1.out (decide_eq_true rfl)).mono ?_
    rintro e w8 ⟨rfl, h8⟩
    clear h7 d8 d10
    replace h8 := h8.facts (fs' := [IsCells (w.heap.size + 1) #[.string a1, .bool a2, .int .i64 a3, .string f1, .int .i64 f2, .int .i64 f3, .int .i64 f4, .string f5, .string f6, .int .i64 f7, .slice vb m vq], IsCells w.heap.size #[.slice lb N lq], (IsVals · (.slice vb m vq) f8), (IsPks · (.slice lb N lq) l), HasMax]) (fun P hP => by simp only [List.mem_cons, List.not_mem_nil, or_false] at hP ⊢; rcases hP with rfl | rfl | rfl | rfl | rfl <;> simp)
    have c0 := (h8.is 1 rfl : IsCells _ _ _).c1
    go_wp2_with fail
    refine (deliver_s h8 n (h8.get 3 rfl) HN.out hle RD.out L2.out HKK.out).mono ?_
    rintro e w9 ⟨r3, q3, ua, pa, rfl, h9⟩
    clear h8 c0
    simp only [Pk.val, Pk.cellsA] at h9 ⊢
    go_upto_region 11 with (first
      | (refine wpList_store_row rfl 24 (.tmp 8) (.tmp 49) rfl p8 #[.slice r3 N2 q3] rfl rfl 24 _ ((h9.alloc (.cells #[.string ⟨#[]⟩, .bool false, .int .i64 0, .string ⟨#[]⟩, .int .i64 0, .int .i64 0, .int .i64 0, .string ⟨#[]⟩, .string ⟨#[]⟩, .int .i64 0, .slice none 0 0] 31)).at_ 2 rfl) ch_info rfl (ch_one _ _ _) ?_)
      | (refine wpList_store_row rfl 31 (.tmp 12) (.tmp 50) rfl w9.heap.size #[.string b1, .bool b2, .int .i64 b3, .string g1, .int .i64 g2, .int .i64 g3, .int .i64 g4, .string g5, .string g6, .int .i64 g7, .slice ua k pa] rfl rfl 31 _ (((h9.alloc (.cells #[.string ⟨#[]⟩, .bool false, .int .i64 0, .string ⟨#[]⟩, .int .i64 0, .int .i64 0, .int .i64 0, .string ⟨#[]⟩, .string ⟨#[]⟩, .int .i64 0, .slice none 0 0] 31)).setRow (os1 := [_, _]) (cs' := #[.slice r3 N2 q3])).at_ 0 rfl) pk_size rfl (pk_one _ _ _ _ _ _ _ _ _ _ _ _ _) ?_))
    have h10 := ((h9.alloc (.cells #[.string ⟨#[]⟩, .bool false, .int .i64 0, .string ⟨#[]⟩, .int .i64 0, .int .i64 0, .int .i64 0, .string ⟨#[]⟩, .string ⟨#[]⟩, .int .i64 0, .slice none 0 0] 31)).setRow (os1 := [_, _]) (cs' := #[.slice r3 N2 q3])).setRow (os1 := []) (cs' := #[.string b1, .bool b2, .int .i64 b3, .string g1, .int .i64 g2, .int .i64 g3, .int .i64 g4, .string g5, .string g6, .int .i64 g7, .slice ua k pa])
    clear h9
    generalize World.setRow _ _ _ = W10 at h10 ⊢
    generalize w9.heap.size = p12 at h10 ⊢
    have c0 := (h10.is 3 rfl : IsCells _ _ _).c1
    go_wp2_with fail
    refine (refDeliver_s h10 n (h10.get 5 rfl) HN.out hle RD.out L2.out HKK.out).mono ?_
    rintro e w11 ⟨r4, q4, ub, pb, rfl, h11⟩
    clear h10 c0
    simp only [Pk.val, Pk.cellsA] at h11 ⊢
    go_upto_region 12 with (first
      | (refine wpList_store_row rfl 24 (.tmp 10) (.tmp 56) rfl p10 #[.slice r4 N2 q4] rfl rfl 24 _ ((h11.alloc (.cells #[.string ⟨#[]⟩, .bool false, .int .i64 0, .string ⟨#[]⟩, .int .i64 0, .int .i64 0, .int .i64 0, .string ⟨#[]⟩, .string ⟨#[]⟩, .int .i64 0, .slice none 0 0] 31)).at_ 2 rfl) ch_info rfl (ch_one _ _ _) ?_)
      | (refine wpList_store_row rfl 31 (.tmp 13) (.tmp 57) rfl w11.heap.size #[.string b1, .bool b2, .int .i64 b3, .string g1, .int .i64 g2, .int .i64 g3, .int .i64 g4, .string g5, .string g6, .int .i64 g7, .slice ub k pb] rfl rfl 31 _ (((h11.alloc (.cells #[.string ⟨#[]⟩, .bool false, .int .i64 0, .string ⟨#[]⟩, .int .i64 0, .int .i64 0, .int .i64 0, .string ⟨#[]⟩, .string ⟨#[]⟩, .int .i64 0, .slice none 0 0] 31)).setRow (os1 := [_, _]) (cs' := #[.slice r4 N2 q4])).at_ 0 rfl) pk_size rfl (pk_one _ _ _ _ _ _ _ _ _ _ _ _ _) ?_))
    have h12 := ((h11.alloc (.cells #[.string ⟨#[]⟩, .bool false, .int .i64 0, .string ⟨#[]⟩, .int .i64 0, .int .i64 0, .int .i64 0, .string ⟨#[]⟩, .string ⟨#[]⟩, .int .i64 0, .slice none 0 0] 31)).setRow (os1 := [_, _]) (cs' := #[.slice r4 N2 q4])).setRow (os1 := []) (cs' := #[.string b1, .bool b2, .int .i64 b3, .string g1, .int .i64 g2, .int .i64 g3, .int .i64 g4, .string g5, .string g6, .int .i64 g7, .slice ub k pb])
    clear h11
    generalize World.setRow _ _ _ = W12 at h12 ⊢
    generalize w11.heap.size = p13 at h12 ⊢
    have d8 := cell_at (h12.at_ 3 rfl)
    have d10 := cell_at (h12.at_ 2 rfl)
    go_wp2_with fail
    refine (sameCh_s h12 (h12.is 3 rfl) L2.out (h12.is 1 rfl) L2.out (decide_eq_true rfl)).mono ?_
    rintro e w13 ⟨rfl, h13⟩
    clear h12 d8 d10
    obtain ⟨k0, k1, k2, k3, k4, k5, k6, k7, k8, k9, k10⟩ := (isCells_of (h13.at_ 1 rfl)).c11
    obtain ⟨y0, y1, y2, y3, y4, y5, y6, y7, y8, y9, y10⟩ := (isCells_of (h13.at_ 0 rfl)).c11
    go_wp2_with fail
    refine (samePk_s h13 (⟨b1, b2, b3, ⟨g1, g2, g3, g4, g5, g6, g7, g8⟩⟩ : Pk) (⟨b1, b2, b3, ⟨g1, g2, g3, g4, g5, g6, g7, g8⟩⟩ : Pk) (h13.is 2 rfl) HKK.out (h13.is 0 rfl) HKK.out (decide_eq_true rfl)).mono ?_
    rintro e w14 ⟨rfl, h14⟩
    clear h13 k0 k1 k2 k3 k4 k5 k6 k7 k8 k9 k10 y0 y1 y2 y3 y4 y5 y6 y7 y8 y9 y10
    replace h14 := h14.facts (fs' := [IsCells (w.heap.size + 1) #[.string a1, .bool a2, .int .i64 a3, .string f1, .int .i64 f2, .int .i64 f3, .int .i64 f4, .string f5, .string f6, .int .i64 f7, .slice vb m vq], IsCells w.heap.size #[.slice lb N lq], (IsVals · (.slice vb m vq) f8), (IsPks · (.slice lb N lq) l), HasMax]) (fun P hP => by simp only [List.mem_cons, List.not_mem_nil, or_false] at hP ⊢; rcases hP with rfl | rfl | rfl | rfl | rfl <;> simp)
    have c0 := (h14.is 1 rfl : IsCells _ _ _).c1
    go_wp2_with fail
    refine (drop_s h14 n (h14.get 3 rfl) HN.out hle RR.out L3.out).mono ?_
    rintro e w15 ⟨r5, q5, rfl, h15⟩
    clear h14 c0
    go_upto_region 15 with (refine wpList_store_row rfl 24 (.tmp 8) (.tmp 78) rfl p8 #[.slice r5 N3 q5] rfl rfl 24 _ (h15.at_ 3 rfl) ch_info rfl (ch_one _ _ _) ?_)
    have h16 := h15.setRow (os1 := [_, _, _]) (cs' := #[.slice r5 N3 q5])
    clear h15
    generalize World.setRow _ _ _ = W16 at h16 ⊢
    have c0 := (h16.is 2 rfl : IsCells _ _ _).c1
    go_wp2_with fail
    refine (refDrop_s h16 n (h16.get 4 rfl) HN.out hle RR.out L3.out).mono ?_
    rintro e w17 ⟨r6, q6, rfl, h17⟩
    clear h16 c0
    go_upto_region 16 with (refine wpList_store_row rfl 24 (.tmp 10) (.tmp 84) rfl p10 #[.slice r6 N3 q6] rfl rfl 24 _ (h17.at_ 2 rfl) ch_info rfl (ch_one _ _ _) ?_)
    have h18 := h17.setRow (os1 := [_, _]) (cs' := #[.slice r6 N3 q6])
    clear h17
    generalize World.setRow _ _ _ = W18 at h18 ⊢
    have d8 := cell_at (h18.at_ 3 rfl)
    have d10 := cell_at (h18.at_ 2 rfl)
    go_wp2_with fail
    refine (sameCh_s h18 (h18.is 1 rfl) L3.out (h18.is 0 rfl) L3.out (decide_eq_true rfl)).mono ?_
    rintro e w19 ⟨rfl, h19⟩
    clear h18 d8 d10
    replace h19 := h19.facts (fs' := [IsCells (w.heap.size + 1) #[.string a1, .bool a2, .int .i64 a3, .string f1, .int .i64 f2, .int .i64 f3, .int .i64 f4, .string f5, .string f6, .int .i64 f7, .slice vb m vq], IsCells w.heap.size #[.slice lb N lq], (IsVals · (.slice vb m vq) f8), (IsPks · (.slice lb N lq) l), HasMax]) (fun P hP => by simp only [List.mem_cons, List.not_mem_nil, or_false] at hP ⊢; rcases hP with rfl | rfl | rfl | rfl | rfl <;> simp)
    have c0 := (h19.is 1 rfl : IsCells _ _ _).c1
    go_wp2_with fail
    refine (copy_s h19 (h19.is 4 rfl) n (h19.get 3 rfl) HN.out hle RC.out L4.out).mono ?_
    rintro e w20 ⟨r7, q7, rfl, h20⟩
    clear h19 c0
    go_upto_region 19 with (refine wpList_store_row rfl 24 (.tmp 8) (.tmp 99) rfl p8 #[.slice r7 N4 q7] rfl rfl 24 _ (h20.at_ 3 rfl) ch_info rfl (ch_one _ _ _) ?_)
    have h21 := h20.setRow (os1 := [_, _, _]) (cs' := #[.slice r7 N4 q7])
    clear h20
    generalize World.setRow _ _ _ = W21 at h21 ⊢
    have c0 := (h21.is 2 rfl : IsCells _ _ _).c1
    go_wp2_with fail
    refine (refCopy_s h21 n (h21.get 4 rfl) HN.out hle RC.out L4.out).mono ?_
    rintro e w22 ⟨r8, q8, rfl, h22⟩
    clear h21 c0
    go_upto_region 20 with (refine wpList_store_row rfl 24 (.tmp 10) (.tmp 105) rfl p10 #[.slice r8 N4 q8] rfl rfl 24 _ (h22.at_ 2 rfl) ch_info rfl (ch_one _ _ _) ?_)
    have h23 := h22.setRow (os1 := [_, _]) (cs' := #[.slice r8 N4 q8])
    clear h22
    generalize World.setRow _ _ _ = W23 at h23 ⊢
    have d8 := cell_at (h23.at_ 3 rfl)
    have d10 := cell_at (h23.at_ 2 rfl)
    go_wp2_with fail
    refine (sameCh_s h23 (h23.is 1 rfl) L4.out (h23.is 0 rfl) L4.out (decide_eq_true rfl)).mono ?_
    rintro e w24 ⟨rfl, h24⟩
    clear h23 d8 d10
    go_wp2_with fail
    go_ret
    exact ⟨rfl, h24.below⟩
end Go.Proofs.Ytihohhjaomoemaa
