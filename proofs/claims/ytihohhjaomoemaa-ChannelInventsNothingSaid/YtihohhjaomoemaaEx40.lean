/- The example of chapter 40. -/
import Derived.Test.YtihohhjaomoemaaLc40
set_option linter.unusedVariables false
set_option linter.unusedSimpArgs false
namespace Go.Proofs.Ytihohhjaomoemaa
open Go Go.RowKit

theorem ch_zero_var : (Try.prog.info? 24).bind (·.zero) = some (.agg #[.slice none 0 0]) := by kernel_rfl
theorem xr1 : sendR [] (pkx 1) = ([pkx 1], 0) := by decide +kernel
theorem xr2 : sendR [pkx 1] (pkx 2) = ([pkx 1, pkx 2], 0) := by decide +kernel
theorem xr3 : delR [pkx 1, pkx 2] 1 = ([pkx 1], pkx 2, 0) := by decide +kernel
theorem xr4 : copyR [pkx 1] 0 = ([pkx 1, pkx 1], 0) := by decide +kernel
theorem xr5 : dropR [pkx 1, pkx 1] 0 = ([pkx 1], 0) := by decide +kernel
theorem xr6 : delR [pkx 1] 0 = ([], pkx 1, 0) := by decide +kernel
theorem xr7 : delR [] 0 = ([], Pk.zero, 4) := by decide +kernel
def pkAck : Pk := ⟨⟨#[97, 112, 112]⟩, true, 0, Fc.zero⟩
theorem xr8 : sendR [] pkAck = ([], 1) := by decide +kernel

set_option maxRecDepth 8000 in
set_option maxHeartbeats 8000000 in
theorem example_any (w : World) (hm : HasMax w) : Calls Try.prog 9 #[] w fun e w' => e = .returned (.bool true) ∧ Below w.heap.size w w' := by
  have h0 := (St.start w).putOld hasMax_mono hm
  go_enter Try.func9, Try.ntmps9
  go_wp2_with fail
  refine (Calls.sV h0 (packet_any _ 1)).mono ?_
  rintro e w1 ⟨rfl, h1⟩
  clear h0
  go_wp2_with fail
  refine (send_c h1 (h1.is 0 rfl) (pkx 1) (lb := none) (lq := 0) (vb := none) (vq := 0) (IsSeq.nil _ _ _) rfl (IsSeq.nil _ _ _) rfl xr1 rfl).mono ?_
  rintro e w2 ⟨b1, q1, rfl, h2⟩
  clear h1
  go_upto_region 2 with fail
  have h3 := h2.boxC #[.slice b1 1 q1] 24
  clear h2
  generalize World.alloc _ _ = W3 at h3 ⊢
  generalize w2.heap.size = g1 at h3 ⊢
  refine wp_region_st [pVal (.agg #[.slice b1 1 q1]), pVal ((pkx 2).val (.slice none 0 0)), pChT noS ([pkx 1, pkx 2], (0 : Int)), pChT noS ([pkx 1, pkx 2], (0 : Int)), pCh noS [pkx 1, pkx 2], pVal (.int .i64 0), pPtr, pAny, pVal ?c2_8] (osN 6 7 4 24 (.cells #[.slice none 0 0] 24 (0, 0)) []) 126 [0, 0, 3, 7, 15, 15, 0, 95, 255] [[], [], [(1, 29), (0, 28)], [(2, 30)], [(3, 27)], [(3, 27)], [], [(4, 31), (6, 3)], [(5, 32)]] [(0, 28), (1, 29), (2, 30), (3, 27), (4, 31), (5, 32), (6, 3), (8, 4)] (by kernel_rfl) (by kernel_rfl) rfl rfl h3 osN0 (osN1 (by decide) (by decide)) ?ob ?en
  case ob =>
    refine ⟨?_, ?_, ?_, ?_, ?_, ?_, ?_, ?_, ?_, trivial⟩
    · -- 0: t28 := Op.load 24 (t1)
      intro zx1 zx2 zx3 zx4 L V W hL hd hw hst 
      have hz := mask_is _ _ _ _ ((hst.base 0 rfl : IsCells _ _ _) 0 _ rfl)
      refine ob_c rfl ?_ hst rfl
      go_simp
      try with_reducible rfl
    · -- 1: t29 := Op.call { callee := value (func 24), args := #[const (int IntKind.i64 2)], argTypes := #[3] }
      intro zx1 zx2 zx3 zx4 L V W hL hd hw hst 
      refine ob_call rfl ?_ (Calls.pV hst (packet_any _ 2))
      go_simp
    · -- 2: t30 := Op.call { callee := value (func 11), args := #[t28, t29], argTypes := #[24, 31] }
      intro zx1 zx2 zx3 zx4 L V W hL hd hw hst u0 e0 p0 u1 e1 p1
      obtain rfl : u0 = _ := p0
      obtain rfl : u1 = _ := p1
      refine ob_call rfl ?_ (Calls.pChT hst (xr2 ▸ send_any _ (hasMax_sub (hst.base 2 rfl) (mask_is _ _)) (orS noS (inL (keys _))) (hst.orLt (noS_lt _)) b1 q1 [pkx 1] (pkx 2) none 0 (((hst.base 1 rfl : IsPks (sm _ _) _ _).sub rdPk_up (mask_no _)).sub rdPk_up mask_or1) (IsSeq.nil _ _ _)))
      go_simp
      try rfl
    · -- 3: t27 := Op.move (t30)
      intro zx1 zx2 zx3 zx4 L V W hL hd hw hst u2 e2 p2
      refine ob_v u2 rfl ?_ hst rfl p2
      go_simp
    · -- 4: t31 := Op.extract (t27) 0
      intro zx1 zx2 zx3 zx4 L V W hL hd hw hst u3 e3 p3
      obtain ⟨b3, q3, rfl, hk3⟩ := p3
      refine ob_v (.agg #[.slice b3 2 q3]) rfl ?_ hst (osN_keep (hw 7 rfl (by decide)) (by decide) (by decide)) ⟨b3, q3, rfl, hk3⟩
      go_simp
    · -- 5: t32 := Op.extract (t27) 1
      intro zx1 zx2 zx3 zx4 L V W hL hd hw hst u3 e3 p3
      obtain ⟨b3, q3, rfl, hk3⟩ := p3
      refine ob_c rfl ?_ hst rfl
      go_simp
      try with_reducible rfl
    · -- 6: t3 := Op.alloc 24
      intro zx1 zx2 zx3 zx4 L V W hL hd hw hst 
      exact ob_new _ rfl rfl ch_zero_var rfl (by decide) hL (hw 7 rfl (by decide)) rfl hst
    · -- 7: tNone := Op.store 24 (t3) (t31)
      intro zx1 zx2 zx3 zx4 L V W hL hd hw hst u6 e6 p6 u4 e4 p4
      obtain ⟨g6, rfl⟩ := p6
      obtain ⟨b4, q4, rfl, hk4⟩ := p4
      exact ob_put (ia := 6) (k := 4) (z := .agg #[.slice none 0 0]) rfl rfl rfl rfl e6 e4 rfl (by decide) (by decide) (hd 6 rfl) hL rfl ch_info (ch_one _ _ _) hst
    · -- 8: t4 := Op.assign (t32)
      intro zx1 zx2 zx3 zx4 L V W hL hd hw hst u5 e5 p5
      obtain rfl : u5 = _ := p5
      refine ob_c rfl ?_ hst rfl
      go_simp
      try with_reducible rfl
  case en =>
    intro V W hst u0 e0 p0 u1 e1 p1 u2 e2 p2 u3 e3 p3 u4 e4 p4 u5 e5 p5 u6 e6 p6 u8 e8 p8
    obtain rfl : u0 = _ := p0
    obtain rfl : u1 = _ := p1
    obtain ⟨b2, q2, rfl, hk2⟩ := p2
    obtain ⟨b3, q3, rfl, hk3⟩ := p3
    obtain ⟨b4, q4, rfl, hk4⟩ := p4
    obtain rfl : u5 = _ := p5
    obtain ⟨g6, rfl⟩ := p6
    obtain rfl : u8 = _ := p8
    simp only [EndAll, Act.put, List.getElem_toArray, List.getElem_cons_succ, List.getElem_cons_zero, List.setIfInBounds_toArray, List.set_cons_zero, List.set_cons_succ]
    have h4 := hst.put (Mono.seq rdPk_up _ _) (hk4.sub rdPk_up (mask_is _ _))
    rw [osN_end e6 e4] at h4
    have x4 := isCells_of (h4.at_ 0 rfl)
    have h5 := (h4.loose (os1 := [])).keep (Mono.cells _ _) x4
    clear hst hk2 hk3 hk4 e0 e1 e2 e3 e4 e5 e6 e8 h3 h4 x4
    have c0 := (h5.is 0 rfl : IsCells _ _ _).c1
    go_wp2_with fail
    refine (deliver_c h5 1 (l := [pkx 1, pkx 2]) (h5.is 1 rfl) rfl (by decide) xr3 rfl rfl).mono ?_
    rintro e w3 ⟨b5, q5, vb, vq, rfl, h6⟩
    clear h5 c0
    rw [show (pkx 2).val (.slice vb (pkx 2).fact.fields.length vq) = .agg #[.string ⟨#[97, 112, 112]⟩, .bool false, .int .i64 0, .string ⟨#[97, 112, 112]⟩, .int .i64 2, .int .i64 1, .int .i64 0, .string ⟨#[116]⟩, .string ⟨#[107]⟩, .int .i64 0, .slice vb 0 vq] from rfl]
    go_upto_region 4 with fail
    have h7 := (h6.boxC #[.slice b5 1 q5] 24).boxC #[.string ⟨#[97, 112, 112]⟩, .bool false, .int .i64 0, .string ⟨#[97, 112, 112]⟩, .int .i64 2, .int .i64 1, .int .i64 0, .string ⟨#[116]⟩, .string ⟨#[107]⟩, .int .i64 0, .slice vb 0 vq] 31
    simp only [al_size] at h7
    clear h6
    generalize World.alloc (World.alloc _ _) _ = W4 at h7 ⊢
    have c0 := (h7.is 1 rfl : IsCells _ _ _).c1
    go_wp2_with fail
    refine (copy_c h7 (h7.is 8 rfl) 0 (l := [pkx 1]) (h7.is 3 rfl) rfl (by decide) xr4 rfl).mono ?_
    rintro e w5 ⟨b6, q6, rfl, h8⟩
    clear h7 c0
    go_upto_region 5 with fail
    have h9 := h8.boxC #[.slice b6 2 q6] 24
    clear h8
    generalize World.alloc _ _ = W5 at h9 ⊢
    have c0 := (h9.is 0 rfl : IsCells _ _ _).c1
    go_wp2_with fail
    refine (drop_c h9 0 (l := [pkx 1, pkx 1]) (h9.is 1 rfl) rfl (by decide) xr5 rfl).mono ?_
    rintro e w6 ⟨b7, q7, rfl, h10⟩
    clear h9 c0
    go_upto_region 6 with fail
    have h11 := h10.boxC #[.slice b7 1 q7] 24
    clear h10
    generalize World.alloc _ _ = W6 at h11 ⊢
    have c0 := (h11.is 0 rfl : IsCells _ _ _).c1
    go_wp2_with fail
    refine (deliver_c h11 0 (l := [pkx 1]) (h11.is 1 rfl) rfl (by decide) xr6 rfl rfl).mono ?_
    rintro e w7 ⟨b8, q8, vb2, vq2, rfl, h12⟩
    clear h11 c0
    rw [show (pkx 1).val (.slice vb2 (pkx 1).fact.fields.length vq2) = .agg #[.string ⟨#[97, 112, 112]⟩, .bool false, .int .i64 0, .string ⟨#[97, 112, 112]⟩, .int .i64 1, .int .i64 1, .int .i64 0, .string ⟨#[116]⟩, .string ⟨#[107]⟩, .int .i64 0, .slice vb2 0 vq2] from rfl]
    go_upto_region 7 with fail
    have h13 := (h12.boxC #[.slice b8 0 q8] 24).boxC #[.string ⟨#[97, 112, 112]⟩, .bool false, .int .i64 0, .string ⟨#[97, 112, 112]⟩, .int .i64 1, .int .i64 1, .int .i64 0, .string ⟨#[116]⟩, .string ⟨#[107]⟩, .int .i64 0, .slice vb2 0 vq2] 31
    simp only [al_size] at h13
    clear h12
    generalize World.alloc (World.alloc _ _) _ = W7 at h13 ⊢
    have c0 := (h13.is 1 rfl : IsCells _ _ _).c1
    go_wp2_with fail
    refine (deliver_c h13 0 (l := []) (h13.is 3 rfl) rfl (by decide) xr7 rfl rfl).mono ?_
    rintro e w8 ⟨b9, q9, vb3, vq3, rfl, h14⟩
    clear h13 c0
    rw [show (Pk.zero).val (.slice vb3 (Pk.zero).fact.fields.length vq3) = .agg #[.string ⟨#[]⟩, .bool false, .int .i64 0, .string ⟨#[]⟩, .int .i64 0, .int .i64 0, .int .i64 0, .string ⟨#[]⟩, .string ⟨#[]⟩, .int .i64 0, .slice vb3 0 vq3] from rfl]
    go_upto_region 8 with fail
    have h15 := (h14.boxC #[.slice b9 0 q9] 24).boxC #[.string ⟨#[]⟩, .bool false, .int .i64 0, .string ⟨#[]⟩, .int .i64 0, .int .i64 0, .int .i64 0, .string ⟨#[]⟩, .string ⟨#[]⟩, .int .i64 0, .slice vb3 0 vq3] 31
    simp only [al_size] at h15
    clear h14
    generalize World.alloc (World.alloc _ _) _ = W8 at h15 ⊢
    have c0 := (h15.is 5 rfl : IsCells _ _ _).c1
    go_wp2_with fail
    refine (send_c h15 (h15.is 20 rfl) pkAck (l := []) (vb := none) (vq := 0) (h15.is 7 rfl) rfl (IsSeq.nil _ _ _) rfl xr8 rfl).mono ?_
    rintro e w9 ⟨b10, q10, rfl, h16⟩
    clear h15 c0
    go_upto_region 10 with fail
    have h17 := h16.boxC #[.slice b10 0 q10] 24
    clear h16
    generalize World.alloc _ _ = W9 at h17 ⊢
    refine wp_region_st [pVal ?c10_0, pVal ?c10_1, pVal (.agg #[.string ⟨#[97, 112, 112]⟩, .bool false, .int .i64 0, .string ⟨#[97, 112, 112]⟩, .int .i64 2, .int .i64 1, .int .i64 0, .string ⟨#[116]⟩, .string ⟨#[107]⟩, .int .i64 0, .slice vb 0 vq]), pVal ((pkx 2).val (.slice none 0 0)), pVal (.bool true), pVal ?c10_5, pVal ?c10_6, pVal ?c10_7, pVal (.slice b5 1 q5), pVal ?c10_9, pVal ?c10_10, pVal ?c10_11, pVal ?c10_12, pVal ?c10_13, pVal (.slice b6 2 q6), pVal ?c10_15, pVal ?c10_16, pVal ?c10_17, pVal ?c10_18, pVal (.agg #[.string ⟨#[97, 112, 112]⟩, .bool false, .int .i64 0, .string ⟨#[97, 112, 112]⟩, .int .i64 1, .int .i64 1, .int .i64 0, .string ⟨#[116]⟩, .string ⟨#[107]⟩, .int .i64 0, .slice vb2 0 vq2]), pVal ((pkx 1).val (.slice none 0 0)), pVal (.bool true), pVal ?c10_22, pVal ?c10_23, pVal ?c10_24, pVal (.slice b8 0 q8), pVal ?c10_26, pVal ?c10_27, pVal ?c10_28, pVal ?c10_29] (osC []) 126 [0, 1, 3, 3, 15, 31, 63, 127, 255, 511, 1023, 2047, 4095, 8191, 16383, 32767, 65535, 131071, 262143, 524287, 524287, 2097151, 4194303, 8388607, 16777215, 33554431, 67108863, 134217727, 268435455, 536870911] [[], [(0, 97)], [(1, 98)], [(1, 98)], [(1, 98), (3, 100), (2, 99)], [(4, 101), (1, 98)], [(5, 102)], [(6, 103)], [(6, 103), (7, 104)], [(6, 103), (8, 105)], [(6, 103), (9, 106)], [(10, 107), (6, 103)], [(11, 108)], [(12, 109)], [(12, 109), (13, 110)], [(12, 109), (14, 111)], [(12, 109), (15, 112)], [(16, 113), (12, 109)], [(17, 114)], [(18, 115)], [(18, 115)], [(18, 115), (20, 117), (19, 116)], [(21, 118), (18, 115)], [(22, 119)], [(23, 120)], [(23, 120), (24, 121)], [(23, 120), (25, 122)], [(23, 120), (26, 123)], [(27, 124), (23, 120)], [(28, 125)]] [(0, 97), (1, 98), (2, 99), (3, 100), (4, 101), (5, 102), (6, 103), (7, 104), (8, 105), (9, 106), (10, 107), (11, 108), (12, 109), (13, 110), (14, 111), (15, 112), (16, 113), (17, 114), (18, 115), (19, 116), (20, 117), (21, 118), (22, 119), (23, 120), (24, 121), (25, 122), (26, 123), (27, 124), (28, 125), (29, 0)] (by kernel_rfl) (by kernel_rfl) rfl rfl h17 osC0 osC1 ?ob ?en
    case ob =>
      refine ⟨?_, ?_, ?_, ?_, ?_, ?_, ?_, ?_, ?_, ?_, ?_, ?_, ?_, ?_, ?_, ?_, ?_, ?_, ?_, ?_, ?_, ?_, ?_, ?_, ?_, ?_, ?_, ?_, ?_, ?_, trivial⟩
      · -- 0: t97 := Op.move (t20)
        intro zx1 zx2 zx3 zx4 L V W hL hd hw hst 
        refine ob_c rfl ?_ hst rfl
        go_simp
        try with_reducible rfl
      · -- 1: t98 := Op.move (t97)
        intro zx1 zx2 zx3 zx4 L V W hL hd hw hst u0 e0 p0
        obtain rfl : u0 = _ := p0
        refine ob_c rfl ?_ hst rfl
        go_simp
        try with_reducible rfl
      · -- 2: t99 := Op.load 31 (t6)
        intro zx1 zx2 zx3 zx4 L V W hL hd hw hst u1 e1 p1
        obtain rfl : u1 = _ := p1
        exact ob_c (by first | rfl | (simp [wantE, dstOf, zx1]; done)) (run_load_mid rfl rfl ((hst.base 14 rfl : IsCells _ _ _) |> Mono.cells _ _ _ _ (mask_is _ _) |>.range) Try.underlying31 rfl rfl) hst rfl
      · -- 3: t100 := Op.call { callee := value (func 24), args := #[const (int IntKind.i64 2)], argTypes := #[3] }
        intro zx1 zx2 zx3 zx4 L V W hL hd hw hst u1 e1 p1
        obtain rfl : u1 = _ := p1
        refine ob_call (by first | rfl | (simp [wantE, dstOf, zx1]; done)) ?_ (Calls.pV hst (packet_any _ 2))
        go_simp
      · -- 4: t101 := Op.call { callee := value (func 13), args := #[t99, t100], argTypes := #[31, 31] }
        intro zx1 zx2 zx3 zx4 L V W hL hd hw hst u2 e2 p2 u3 e3 p3 u1 e1 p1
        obtain rfl : u2 = _ := p2
        obtain rfl : u3 = _ := p3
        obtain rfl : u1 = _ := p1
        refine ob_call (by first | rfl | (simp [wantE, dstOf, zx1]; done)) ?_ (Calls.pV hst ((show decide (pkx 2 = pkx 2) = true from decide_eq_true rfl) ▸ samePk_any _ (pkx 2) (pkx 2) vb none vq 0 ((hst.base 16 rfl : IsVals _ _ _).sub rdVal_up (mask_is _ _)) (IsSeq.nil _ _ _)))
        go_simp
        all_goals simp [pkx]
      · -- 5: t102 := Op.pick (t98) (t101) (const (bool false))
        intro zx1 zx2 zx3 zx4 L V W hL hd hw hst u1 e1 p1 u4 e4 p4
        obtain rfl : u1 = _ := p1
        obtain rfl : u4 = _ := p4
        refine ob_c rfl ?_ hst rfl
        go_simp
        try with_reducible rfl
      · -- 6: t103 := Op.move (t102)
        intro zx1 zx2 zx3 zx4 L V W hL hd hw hst u5 e5 p5
        obtain rfl : u5 = _ := p5
        refine ob_c rfl ?_ hst rfl
        go_simp
        try with_reducible rfl
      · -- 7: t104 := Op.fieldAddr 24 (t5) 0
        intro zx1 zx2 zx3 zx4 L V W hL hd hw hst u6 e6 p6
        obtain rfl : u6 = _ := p6
        refine ob_c (by first | rfl | (simp [wantE, dstOf, zx1]; done)) ?_ hst rfl
        go_simp
        try with_reducible rfl
      · -- 8: t105 := Op.load 22 (t104)
        intro zx1 zx2 zx3 zx4 L V W hL hd hw hst u7 e7 p7 u6 e6 p6
        obtain rfl : u7 = _ := p7
        obtain rfl : u6 = _ := p6
        have hz := mask_is _ _ _ _ ((hst.base 15 rfl : IsCells _ _ _) 0 _ rfl)
        refine ob_c (by first | rfl | (simp [wantE, dstOf, zx1]; done)) ?_ hst rfl
        go_simp
        try with_reducible rfl
      · -- 9: t106 := Op.call { callee := builtin Builtin.len, args := #[t105], argTypes := #[22] }
        intro zx1 zx2 zx3 zx4 L V W hL hd hw hst u8 e8 p8 u6 e6 p6
        obtain rfl : u8 = _ := p8
        obtain rfl : u6 = _ := p6
        refine ob_c (by first | rfl | (simp [wantE, dstOf, zx1]; done)) ?_ hst rfl
        go_simp
        try with_reducible rfl
      · -- 10: t107 := Op.binOp BinOp.eql 3 (t106) (const (int IntKind.i64 1)) 3
        intro zx1 zx2 zx3 zx4 L V W hL hd hw hst u9 e9 p9 u6 e6 p6
        obtain rfl : u9 = _ := p9
        obtain rfl : u6 = _ := p6
        refine ob_c (by first | rfl | (simp [wantE, dstOf, zx1]; done)) ?_ hst rfl
        go_simp
        try with_reducible rfl
      · -- 11: t108 := Op.pick (t103) (t107) (const (bool false))
        intro zx1 zx2 zx3 zx4 L V W hL hd hw hst u6 e6 p6 u10 e10 p10
        obtain rfl : u6 = _ := p6
        obtain rfl : u10 = _ := p10
        refine ob_c rfl ?_ hst rfl
        go_simp
        try with_reducible rfl
      · -- 12: t109 := Op.move (t108)
        intro zx1 zx2 zx3 zx4 L V W hL hd hw hst u11 e11 p11
        obtain rfl : u11 = _ := p11
        refine ob_c rfl ?_ hst rfl
        go_simp
        try with_reducible rfl
      · -- 13: t110 := Op.fieldAddr 24 (t8) 0
        intro zx1 zx2 zx3 zx4 L V W hL hd hw hst u12 e12 p12
        obtain rfl : u12 = _ := p12
        refine ob_c (by first | rfl | (simp [wantE, dstOf, zx1]; done)) ?_ hst rfl
        go_simp
        try with_reducible rfl
      · -- 14: t111 := Op.load 22 (t110)
        intro zx1 zx2 zx3 zx4 L V W hL hd hw hst u13 e13 p13 u12 e12 p12
        obtain rfl : u13 = _ := p13
        obtain rfl : u12 = _ := p12
        have hz := mask_is _ _ _ _ ((hst.base 12 rfl : IsCells _ _ _) 0 _ rfl)
        refine ob_c (by first | rfl | (simp [wantE, dstOf, zx1]; done)) ?_ hst rfl
        go_simp
        try with_reducible rfl
      · -- 15: t112 := Op.call { callee := builtin Builtin.len, args := #[t111], argTypes := #[22] }
        intro zx1 zx2 zx3 zx4 L V W hL hd hw hst u14 e14 p14 u12 e12 p12
        obtain rfl : u14 = _ := p14
        obtain rfl : u12 = _ := p12
        refine ob_c (by first | rfl | (simp [wantE, dstOf, zx1]; done)) ?_ hst rfl
        go_simp
        try with_reducible rfl
      · -- 16: t113 := Op.binOp BinOp.eql 3 (t112) (const (int IntKind.i64 2)) 3
        intro zx1 zx2 zx3 zx4 L V W hL hd hw hst u15 e15 p15 u12 e12 p12
        obtain rfl : u15 = _ := p15
        obtain rfl : u12 = _ := p12
        refine ob_c (by first | rfl | (simp [wantE, dstOf, zx1]; done)) ?_ hst rfl
        go_simp
        try with_reducible rfl
      · -- 17: t114 := Op.pick (t109) (t113) (const (bool false))
        intro zx1 zx2 zx3 zx4 L V W hL hd hw hst u12 e12 p12 u16 e16 p16
        obtain rfl : u12 = _ := p12
        obtain rfl : u16 = _ := p16
        refine ob_c rfl ?_ hst rfl
        go_simp
        try with_reducible rfl
      · -- 18: t115 := Op.move (t114)
        intro zx1 zx2 zx3 zx4 L V W hL hd hw hst u17 e17 p17
        obtain rfl : u17 = _ := p17
        refine ob_c rfl ?_ hst rfl
        go_simp
        try with_reducible rfl
      · -- 19: t116 := Op.load 31 (t13)
        intro zx1 zx2 zx3 zx4 L V W hL hd hw hst u18 e18 p18
        obtain rfl : u18 = _ := p18
        exact ob_c (by first | rfl | (simp [wantE, dstOf, zx1]; done)) (run_load_mid rfl rfl ((hst.base 6 rfl : IsCells _ _ _) |> Mono.cells _ _ _ _ (mask_is _ _) |>.range) Try.underlying31 rfl rfl) hst rfl
      · -- 20: t117 := Op.call { callee := value (func 24), args := #[const (int IntKind.i64 1)], argTypes := #[3] }
        intro zx1 zx2 zx3 zx4 L V W hL hd hw hst u18 e18 p18
        obtain rfl : u18 = _ := p18
        refine ob_call (by first | rfl | (simp [wantE, dstOf, zx1]; done)) ?_ (Calls.pV hst (packet_any _ 1))
        go_simp
      · -- 21: t118 := Op.call { callee := value (func 13), args := #[t116, t117], argTypes := #[31, 31] }
        intro zx1 zx2 zx3 zx4 L V W hL hd hw hst u19 e19 p19 u20 e20 p20 u18 e18 p18
        obtain rfl : u19 = _ := p19
        obtain rfl : u20 = _ := p20
        obtain rfl : u18 = _ := p18
        refine ob_call (by first | rfl | (simp [wantE, dstOf, zx1]; done)) ?_ (Calls.pV hst ((show decide (pkx 1 = pkx 1) = true from decide_eq_true rfl) ▸ samePk_any _ (pkx 1) (pkx 1) vb2 none vq2 0 ((hst.base 8 rfl : IsVals _ _ _).sub rdVal_up (mask_is _ _)) (IsSeq.nil _ _ _)))
        go_simp
        all_goals simp [pkx]
      · -- 22: t119 := Op.pick (t115) (t118) (const (bool false))
        intro zx1 zx2 zx3 zx4 L V W hL hd hw hst u18 e18 p18 u21 e21 p21
        obtain rfl : u18 = _ := p18
        obtain rfl : u21 = _ := p21
        refine ob_c rfl ?_ hst rfl
        go_simp
        try with_reducible rfl
      · -- 23: t120 := Op.move (t119)
        intro zx1 zx2 zx3 zx4 L V W hL hd hw hst u22 e22 p22
        obtain rfl : u22 = _ := p22
        refine ob_c rfl ?_ hst rfl
        go_simp
        try with_reducible rfl
      · -- 24: t121 := Op.fieldAddr 24 (t12) 0
        intro zx1 zx2 zx3 zx4 L V W hL hd hw hst u23 e23 p23
        obtain rfl : u23 = _ := p23
        refine ob_c (by first | rfl | (simp [wantE, dstOf, zx1]; done)) ?_ hst rfl
        go_simp
        try with_reducible rfl
      · -- 25: t122 := Op.load 22 (t121)
        intro zx1 zx2 zx3 zx4 L V W hL hd hw hst u24 e24 p24 u23 e23 p23
        obtain rfl : u24 = _ := p24
        obtain rfl : u23 = _ := p23
        have hz := mask_is _ _ _ _ ((hst.base 7 rfl : IsCells _ _ _) 0 _ rfl)
        refine ob_c (by first | rfl | (simp [wantE, dstOf, zx1]; done)) ?_ hst rfl
        go_simp
        try with_reducible rfl
      · -- 26: t123 := Op.call { callee := builtin Builtin.len, args := #[t122], argTypes := #[22] }
        intro zx1 zx2 zx3 zx4 L V W hL hd hw hst u25 e25 p25 u23 e23 p23
        obtain rfl : u25 = _ := p25
        obtain rfl : u23 = _ := p23
        refine ob_c (by first | rfl | (simp [wantE, dstOf, zx1]; done)) ?_ hst rfl
        go_simp
        try with_reducible rfl
      · -- 27: t124 := Op.binOp BinOp.eql 3 (t123) (const (int IntKind.i64 0)) 3
        intro zx1 zx2 zx3 zx4 L V W hL hd hw hst u26 e26 p26 u23 e23 p23
        obtain rfl : u26 = _ := p26
        obtain rfl : u23 = _ := p23
        refine ob_c (by first | rfl | (simp [wantE, dstOf, zx1]; done)) ?_ hst rfl
        go_simp
        try with_reducible rfl
      · -- 28: t125 := Op.pick (t120) (t124) (const (bool false))
        intro zx1 zx2 zx3 zx4 L V W hL hd hw hst u23 e23 p23 u27 e27 p27
        obtain rfl : u23 = _ := p23
        obtain rfl : u27 = _ := p27
        refine ob_c rfl ?_ hst rfl
        go_simp
        try with_reducible rfl
      · -- 29: t0 := Op.assign (t125)
        intro zx1 zx2 zx3 zx4 L V W hL hd hw hst u28 e28 p28
        obtain rfl : u28 = _ := p28
        refine ob_c rfl ?_ hst rfl
        go_simp
        try with_reducible rfl
    case en =>
      intro V W hst u0 e0 p0 u1 e1 p1 u2 e2 p2 u3 e3 p3 u4 e4 p4 u5 e5 p5 u6 e6 p6 u7 e7 p7 u8 e8 p8 u9 e9 p9 u10 e10 p10 u11 e11 p11 u12 e12 p12 u13 e13 p13 u14 e14 p14 u15 e15 p15 u16 e16 p16 u17 e17 p17 u18 e18 p18 u19 e19 p19 u20 e20 p20 u21 e21 p21 u22 e22 p22 u23 e23 p23 u24 e24 p24 u25 e25 p25 u26 e26 p26 u27 e27 p27 u28 e28 p28 u29 e29 p29
      obtain rfl : u0 = _ := p0
      obtain rfl : u1 = _ := p1
      obtain rfl : u2 = _ := p2
      obtain rfl : u3 = _ := p3
      obtain rfl : u4 = _ := p4
      obtain rfl : u5 = _ := p5
      obtain rfl : u6 = _ := p6
      obtain rfl : u7 = _ := p7
      obtain rfl : u8 = _ := p8
      obtain rfl : u9 = _ := p9
      obtain rfl : u10 = _ := p10
      obtain rfl : u11 = _ := p11
      obtain rfl : u12 = _ := p12
      obtain rfl : u13 = _ := p13
      obtain rfl : u14 = _ := p14
      obtain rfl : u15 = _ := p15
      obtain rfl : u16 = _ := p16
      obtain rfl : u17 = _ := p17
      obtain rfl : u18 = _ := p18
      obtain rfl : u19 = _ := p19
      obtain rfl : u20 = _ := p20
      obtain rfl : u21 = _ := p21
      obtain rfl : u22 = _ := p22
      obtain rfl : u23 = _ := p23
      obtain rfl : u24 = _ := p24
      obtain rfl : u25 = _ := p25
      obtain rfl : u26 = _ := p26
      obtain rfl : u27 = _ := p27
      obtain rfl : u28 = _ := p28
      obtain rfl : u29 = _ := p29
      simp only [EndAll, Act.put, List.getElem_toArray, List.getElem_cons_succ, List.getElem_cons_zero, List.setIfInBounds_toArray, List.set_cons_zero, List.set_cons_succ]
      go_wp2_with fail
      go_ret
      exact ⟨rfl, hst.below⟩
end Go.Proofs.Ytihohhjaomoemaa
