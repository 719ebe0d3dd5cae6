/- The example of chapter 31. -/
import Derived.Test.YtnfgapdpnihicaaZGH
set_option linter.unusedVariables false
set_option linter.unusedSimpArgs false
namespace Go.Proofs.Ytnfgapdpnihicaa
open Go Go.RowKit

set_option maxRecDepth 8000 in
set_option maxHeartbeats 8000000 in
theorem example_any (w : World) : Calls Try.prog 12 #[] w fun e w' => e = .returned (.bool true) ∧ Below w.heap.size w w' := by
  obtain ⟨D1, T, Y, T2, Y2, x0, x1, x2, x3, x4, x5, x6, x7, x8, x9⟩ := ex_plain
  obtain ⟨D0, hD0⟩ : ∃ D, Dk.made 6 = D := ⟨_, rfl⟩
  obtain ⟨Z, hZ⟩ : ∃ D, Dk.zero = D := ⟨_, rfl⟩
  obtain ⟨YR, hYR⟩ : ∃ D, Y.restart = D := ⟨_, rfl⟩
  obtain ⟨Y2R, hY2R⟩ : ∃ D, Y2.restart = D := ⟨_, rfl⟩
  rw [hD0] at x0 x1
  rw [hZ] at x3
  rw [hYR] at x6
  rw [hY2R] at x9
  have XD := Lib.hid hD0
  have XR := Lib.hid hYR
  have XR2 := Lib.hid hY2R
  have X0 := Lib.hid x0
  have X1 := Lib.hid x1
  have X2 := Lib.hid x2
  have X3 := Lib.hid x3
  have X4 := Lib.hid x4
  have X5 := Lib.hid x5
  have X6 := Lib.hid x6
  have X7 := Lib.hid x7
  have X8 := Lib.hid x8
  have X9 := Lib.hid x9
  clear x0 x1 x2 x3 x4 x5 x6 x7 x8 x9 hD0 hZ hYR hY2R
  have h0 := St.start w
  go_enter Try.func12, Try.ntmps12
  go_upto_region 1 with fail
  refine wp_region_st0 [pVal (.int .i64 1), pVal ?c1_1, pVal ?c1_2, pMd 120 (List.replicate 120 0), pLs [List.replicate 120 0], pVal (.int .i64 1), pVal ?c1_6, pVal ?c1_7, pVal ?c1_8, pMd 121 (List.replicate 121 0), pLs [List.replicate 121 0], pVal (.int .i64 2), pVal ?c1_12, pVal ?c1_13, pVal ?c1_14] (osC []) 177 [0, 1, 3, 7, 15, 31, 63, 127, 255, 511, 1023, 2047, 4095, 8191, 16383] [[], [(0, 27)], [(1, 28)], [(2, 29)], [(2, 29), (3, 30)], [(2, 29), (4, 31)], [(2, 29), (5, 32)], [(6, 33), (2, 29)], [(7, 34)], [(8, 35)], [(8, 35), (9, 36)], [(8, 35), (10, 37)], [(8, 35), (11, 38)], [(12, 39), (8, 35)], [(13, 40)]] [(0, 27), (1, 28), (2, 29), (3, 30), (4, 31), (5, 32), (6, 33), (7, 34), (8, 35), (9, 36), (10, 37), (11, 38), (12, 39), (13, 40), (14, 1)] (by kernel_rfl) rfl rfl h0 osC0 osC1 ?ob ?en
  case ob =>
    refine ⟨?_, ?_, ?_, ?_, ?_, ?_, ?_, ?_, ?_, ?_, ?_, ?_, ?_, ?_, ?_, trivial⟩
    · -- 0: t27 := Op.call { callee := value (func 24), args := #[const (slice none 0 0)], argTypes := #[22] }
      intro zx1 zx2 zx3 zx4 L V W hL hd hw hst 
      refine ob_call (by first | rfl | (simp [wantE, dstOf, zx1]; done)) ?_ (sectors_p hst (n := 1) (by rw [size_nil]; rfl) (lists_nil _) (by simp) (by simp))
      go_simp
      try rfl
    · -- 1: t28 := Op.binOp BinOp.eql 3 (t27) (const (int IntKind.i64 1)) 3
      intro zx1 zx2 zx3 zx4 L V W hL hd hw hst u0 e0 p0
      obtain rfl : u0 = _ := p0
      refine ob_c rfl ?_ hst rfl
      go_simp
      try with_reducible rfl
    · -- 2: t29 := Op.move (t28)
      intro zx1 zx2 zx3 zx4 L V W hL hd hw hst u1 e1 p1
      obtain rfl : u1 = _ := p1
      refine ob_c rfl ?_ hst rfl
      go_simp
      try with_reducible rfl
    · -- 3: t30 := Op.makeSlice 42 (const (int IntKind.i64 120)) (const (int IntKind.i64 120))
      intro zx1 zx2 zx3 zx4 L V W hL hd hw hst u2 e2 p2
      obtain rfl : u2 = _ := p2
      exact ob_run (by first | rfl | (simp [wantE, dstOf, zx1]; done)) (run_mk_op (n := 120) rfl rfl rfl (by omega)) (St.newB hst List.length_replicate (by unfold maxLen; omega) _)
    · -- 4: t31 := Op.buildSlice 22 1 #[(0, t30)]
      intro zx1 zx2 zx3 zx4 L V W hL hd hw hst u3 e3 p3 u2 e2 p2
      obtain ⟨gm, rfl, km⟩ := p3
      obtain rfl : u2 = _ := p2
      refine ob_run (n := .value (.slice (some ⟨W.heap.size, 0, none⟩) 1 1)) (W' := W.alloc (.cells #[.slice (some ⟨gm, 0, none⟩) 120 120] 42)) (by first | rfl | (simp [wantE, dstOf, zx1]; done)) ?_ ?_
      · go_simp
        try rfl
      · exact St.newOne hst km _
    · -- 5: t32 := Op.call { callee := value (func 24), args := #[t31], argTypes := #[22] }
      intro zx1 zx2 zx3 zx4 L V W hL hd hw hst u4 e4 p4 u2 e2 p2
      obtain ⟨bl, ql, rfl, kl⟩ := p4
      obtain rfl : u2 = _ := p2
      refine ob_call (by first | rfl | (simp [wantE, dstOf, zx1]; done)) ?_ (sectors_p hst (n := 1) (by rw [size_120]; rfl) (kl.sub (mask_is _ _)) (by simp) (by simp))
      go_simp
      try rfl
    · -- 6: t33 := Op.binOp BinOp.eql 3 (t32) (const (int IntKind.i64 1)) 3
      intro zx1 zx2 zx3 zx4 L V W hL hd hw hst u5 e5 p5 u2 e2 p2
      obtain rfl : u5 = _ := p5
      obtain rfl : u2 = _ := p2
      refine ob_c (by first | rfl | (simp [wantE, dstOf, zx1]; done)) ?_ hst rfl
      go_simp
      try with_reducible rfl
    · -- 7: t34 := Op.pick (t29) (t33) (const (bool false))
      intro zx1 zx2 zx3 zx4 L V W hL hd hw hst u2 e2 p2 u6 e6 p6
      obtain rfl : u2 = _ := p2
      obtain rfl : u6 = _ := p6
      refine ob_c rfl ?_ hst rfl
      go_simp
      try with_reducible rfl
    · -- 8: t35 := Op.move (t34)
      intro zx1 zx2 zx3 zx4 L V W hL hd hw hst u7 e7 p7
      obtain rfl : u7 = _ := p7
      refine ob_c rfl ?_ hst rfl
      go_simp
      try with_reducible rfl
    · -- 9: t36 := Op.makeSlice 42 (const (int IntKind.i64 121)) (const (int IntKind.i64 121))
      intro zx1 zx2 zx3 zx4 L V W hL hd hw hst u8 e8 p8
      obtain rfl : u8 = _ := p8
      exact ob_run (by first | rfl | (simp [wantE, dstOf, zx1]; done)) (run_mk_op (n := 121) rfl rfl rfl (by omega)) (St.newB hst List.length_replicate (by unfold maxLen; omega) _)
    · -- 10: t37 := Op.buildSlice 22 1 #[(0, t36)]
      intro zx1 zx2 zx3 zx4 L V W hL hd hw hst u9 e9 p9 u8 e8 p8
      obtain ⟨gm, rfl, km⟩ := p9
      obtain rfl : u8 = _ := p8
      refine ob_run (n := .value (.slice (some ⟨W.heap.size, 0, none⟩) 1 1)) (W' := W.alloc (.cells #[.slice (some ⟨gm, 0, none⟩) 121 121] 42)) (by first | rfl | (simp [wantE, dstOf, zx1]; done)) ?_ ?_
      · go_simp
        try rfl
      · exact St.newOne hst km _
    · -- 11: t38 := Op.call { callee := value (func 24), args := #[t37], argTypes := #[22] }
      intro zx1 zx2 zx3 zx4 L V W hL hd hw hst u10 e10 p10 u8 e8 p8
      obtain ⟨bl, ql, rfl, kl⟩ := p10
      obtain rfl : u8 = _ := p8
      refine ob_call (by first | rfl | (simp [wantE, dstOf, zx1]; done)) ?_ (sectors_p hst (n := 2) (by rw [size_121]; rfl) (kl.sub (mask_is _ _)) (by simp) (by simp))
      go_simp
      try rfl
    · -- 12: t39 := Op.binOp BinOp.eql 3 (t38) (const (int IntKind.i64 2)) 3
      intro zx1 zx2 zx3 zx4 L V W hL hd hw hst u11 e11 p11 u8 e8 p8
      obtain rfl : u11 = _ := p11
      obtain rfl : u8 = _ := p8
      refine ob_c (by first | rfl | (simp [wantE, dstOf, zx1]; done)) ?_ hst rfl
      go_simp
      try with_reducible rfl
    · -- 13: t40 := Op.pick (t35) (t39) (const (bool false))
      intro zx1 zx2 zx3 zx4 L V W hL hd hw hst u8 e8 p8 u12 e12 p12
      obtain rfl : u8 = _ := p8
      obtain rfl : u12 = _ := p12
      refine ob_c rfl ?_ hst rfl
      go_simp
      try with_reducible rfl
    · -- 14: t1 := Op.assign (t40)
      intro zx1 zx2 zx3 zx4 L V W hL hd hw hst u13 e13 p13
      obtain rfl : u13 = _ := p13
      refine ob_c rfl ?_ hst rfl
      go_simp
      try with_reducible rfl
  case en =>
    intro V W hst u0 e0 p0 u1 e1 p1 u2 e2 p2 u3 e3 p3 u4 e4 p4 u5 e5 p5 u6 e6 p6 u7 e7 p7 u8 e8 p8 u9 e9 p9 u10 e10 p10 u11 e11 p11 u12 e12 p12 u13 e13 p13 u14 e14 p14
    obtain rfl : u0 = _ := p0
    obtain rfl : u1 = _ := p1
    obtain rfl : u2 = _ := p2
    obtain ⟨gm, rfl, km⟩ := p3
    obtain ⟨bl, ql, rfl, kl⟩ := p4
    obtain rfl : u5 = _ := p5
    obtain rfl : u6 = _ := p6
    obtain rfl : u7 = _ := p7
    obtain rfl : u8 = _ := p8
    obtain ⟨gm, rfl, km⟩ := p9
    obtain ⟨bl, ql, rfl, kl⟩ := p10
    obtain rfl : u11 = _ := p11
    obtain rfl : u12 = _ := p12
    obtain rfl : u13 = _ := p13
    obtain rfl : u14 = _ := p14
    simp only [EndAll, Act.put, List.getElem_toArray, List.getElem_cons_succ, List.getElem_cons_zero, List.setIfInBounds_toArray, List.set_cons_zero, List.set_cons_succ]
    have h1 := hst
    clear hst h0
    go_wp2_with fail
    refine (empty_s h1 6 2 4 (by omega) (by omega) (by omega) (by omega) XD.out).mono ?_
    rintro e w2 ⟨b2, q2, rfl, h2⟩
    clear h1
    go_upto_region 3 with (refine wpList_store_row rfl 24 (.tmp 2) (.tmp 43) rfl w2.heap.size (dkA b2 q2 D0) rfl rfl 24 _ (heap_alloc_new _ _) disk_info rfl (one4 rfl _ _ _) ?_)
    have h3 := (h2.newVar #[.slice none 0 0, .int .i64 0, .int .i64 0, .bool false] (dkA b2 q2 D0) 24).shut
    clear h2
    generalize World.setRow _ _ _ = W3 at h3 ⊢
    generalize w2.heap.size = g2 at h3 ⊢
    go_wp2_with (refine wpList_load_mid rfl 24 (.tmp 2) rfl g2 0 rfl [.slice b2 D0.sec.length q2, .int .i64 D0.left, .int .i64 D0.tear, .bool D0.stopped] _ (h3.is 0 rfl : IsCells _ _ _).range Try.underlying24 rfl rfl ?_)
    refine (room_s h3 (d := D0) (f := 2) (m := 4) X0.out (R := 4) (by decide) (by omega) (by omega) (h3.is 1 rfl)).mono ?_
    rintro e w4 ⟨rfl, h4⟩
    clear h3
    go_upto_region 4 with fail
    refine wp_region_st [pVal (dkS b2 q2 D0), pRow 2 [Value.string ⟨#[97]⟩, Value.string ⟨#[98, 99]⟩], pLs [[97], [98, 99]], pDkT D1 0, pDkT D1 0, pDk D1, pVal (.int .i64 0), pPtr, pAny, pVal ?c4_9] (osN 7 8 5 24 (.cells #[.slice none 0 0, .int .i64 0, .int .i64 0, .bool false] 24 (0, 0)) []) 177 [0, 0, 2, 7, 15, 31, 31, 0, 191, 511] [[], [], [(1, 52)], [(2, 53), (0, 51)], [(3, 54)], [(4, 50)], [(4, 50)], [], [(5, 55), (7, 6)], [(6, 56)]] [(0, 51), (1, 52), (2, 53), (3, 54), (4, 50), (5, 55), (6, 56), (7, 6), (9, 7)] (by kernel_rfl) (by kernel_rfl) rfl rfl h4 osN0 (osN1 (by decide) (by decide)) ?ob ?en
    case ob =>
      refine ⟨?_, ?_, ?_, ?_, ?_, ?_, ?_, ?_, ?_, ?_, trivial⟩
      · -- 0: t51 := Op.load 24 (t2)
        intro zx1 zx2 zx3 zx4 L V W hL hd hw hst 
        exact ob_c (by first | rfl | (simp [wantE, dstOf, zx1]; done)) (run_load_mid rfl rfl ((hst.base 0 rfl : IsCells _ _ _) |> Mono.cells _ _ _ _ (mask_is _ _) |>.range) Try.underlying24 rfl rfl) hst rfl
      · -- 1: t52 := Op.buildSlice 96 2 #[(0, const (string { data := #[97] })), (1, const (string { data := #[98, 99] }))]
        intro zx1 zx2 zx3 zx4 L V W hL hd hw hst 
        refine ob_run (n := .value (.slice (some ⟨W.heap.size, 0, none⟩) 2 2)) (W' := W.alloc (.cells ([Value.string ⟨#[97]⟩, Value.string ⟨#[98, 99]⟩] : List Value).toArray 9)) (by first | rfl | (simp [wantE, dstOf, zx1]; done)) ?_ ?_
        · go_simp
          try rfl
        · exact St.newRow hst 2 [Value.string ⟨#[97]⟩, Value.string ⟨#[98, 99]⟩] _ rfl (by unfold maxLen; omega)
      · -- 2: t53 := Op.call { callee := value (func 39), args := #[t52], argTypes := #[96] }
        intro zx1 zx2 zx3 zx4 L V W hL hd hw hst u1 e1 p1
        obtain ⟨gr, rfl, kr⟩ := p1
        refine ob_call (by first | rfl | (simp [wantE, dstOf, zx1]; done)) ?_ (texts_p hst [⟨#[97]⟩, ⟨#[98, 99]⟩] (l := [[97], [98, 99]]) (n := 2) rfl rfl (kr.sub (mask_is _ _)) (by omega) (by decide))
        go_simp
        try rfl
      · -- 3: t54 := Op.call { callee := value (func 21), args := #[t51, const (int IntKind.i64 2), const (int IntKind.i64 4), t53], argTypes := #[24, 3, 3, 22] }
        intro zx1 zx2 zx3 zx4 L V W hL hd hw hst u0 e0 p0 u2 e2 p2
        obtain rfl : u0 = _ := p0
        obtain ⟨bl, ql, rfl, kl⟩ := p2
        refine ob_call (by first | rfl | (simp [wantE, dstOf, zx1]; done)) ?_ (app_p hst (d := D0) (f := 2) (m := 4) X1.out (by omega) (by omega) (hst.base 1 rfl) (kl.sub (mask_is _ _)) (by simp) (by simp))
        go_simp
        try rfl
      · -- 4: t50 := Op.move (t54)
        intro zx1 zx2 zx3 zx4 L V W hL hd hw hst u3 e3 p3
        refine ob_v u3 rfl ?_ hst rfl p3
        go_simp
      · -- 5: t55 := Op.extract (t50) 0
        intro zx1 zx2 zx3 zx4 L V W hL hd hw hst u4 e4 p4
        obtain ⟨bm, qm, rfl, kmm⟩ := p4
        refine ob_v (dkS bm qm D1) rfl ?_ hst (osN_keep (hw 8 rfl (by decide)) (by decide) (by decide)) ⟨bm, qm, rfl, kmm⟩
        go_simp
      · -- 6: t56 := Op.extract (t50) 1
        intro zx1 zx2 zx3 zx4 L V W hL hd hw hst u4 e4 p4
        obtain ⟨bm, qm, rfl, kmm⟩ := p4
        refine ob_c rfl ?_ hst rfl
        go_simp
        try with_reducible rfl
      · -- 7: t6 := Op.alloc 24
        intro zx1 zx2 zx3 zx4 L V W hL hd hw hst 
        exact ob_new _ rfl rfl dk_zero_var rfl (by decide) hL (hw 8 rfl (by decide)) rfl hst
      · -- 8: tNone := Op.store 24 (t6) (t55)
        intro zx1 zx2 zx3 zx4 L V W hL hd hw hst u7 e7 p7 u5 e5 p5
        obtain ⟨g7, rfl⟩ := p7
        obtain ⟨bx4, qx4, rfl, kx⟩ := p5
        exact ob_put (ia := 7) (k := 5) (z := .agg #[.slice none 0 0, .int .i64 0, .int .i64 0, .bool false]) rfl rfl rfl rfl e7 e5 rfl (by decide) (by decide) (hd 7 rfl) hL rfl disk_info (one4 rfl _ _ _) hst
      · -- 9: t7 := Op.assign (t56)
        intro zx1 zx2 zx3 zx4 L V W hL hd hw hst u6 e6 p6
        obtain rfl : u6 = _ := p6
        refine ob_c rfl ?_ hst rfl
        go_simp
        try with_reducible rfl
    case en =>
      intro V W hst u0 e0 p0 u1 e1 p1 u2 e2 p2 u3 e3 p3 u4 e4 p4 u5 e5 p5 u6 e6 p6 u7 e7 p7 u9 e9 p9
      obtain rfl : u0 = _ := p0
      obtain ⟨gr, rfl, kr⟩ := p1
      obtain ⟨bl, ql, rfl, kl⟩ := p2
      obtain ⟨ba, qa, rfl, ka⟩ := p3
      obtain ⟨bm, qm, rfl, kmm⟩ := p4
      obtain ⟨bx4, qx4, rfl, kx⟩ := p5
      obtain rfl : u6 = _ := p6
      obtain ⟨g7, rfl⟩ := p7
      obtain rfl : u9 = _ := p9
      simp only [EndAll, Act.put, List.getElem_toArray, List.getElem_cons_succ, List.getElem_cons_zero, List.setIfInBounds_toArray, List.set_cons_zero, List.set_cons_succ]
      have h5 := hst.put (Mono.dk _ _) kx
      rw [osN_end e7 e5] at h5
      replace h5 := h5.shut
      clear hst kx kmm ka kl
      generalize g7 = gd1 at h5 ⊢
      generalize bx4 = bd1 at h5 ⊢
      generalize qx4 = qd1 at h5 ⊢
      go_wp2_with (refine wpList_load_mid rfl 24 (.tmp 6) rfl gd1 0 rfl [.slice bd1 D1.sec.length qd1, .int .i64 D1.left, .int .i64 D1.tear, .bool D1.stopped] _ (h5.is 0 rfl : IsCells _ _ _).range Try.underlying24 rfl rfl ?_)
      refine (read_s h5 (d := D1) (f := 2) (m := 4) X2.out (by omega) (by omega) (h5.is 1 rfl)).mono ?_
      rintro e w6 ⟨b6, q6, rfl, h6⟩
      clear h5
      go_wp2_with (refine wpList_load_mid rfl 24 (.tmp 6) rfl gd1 0 rfl [.slice bd1 D1.sec.length qd1, .int .i64 D1.left, .int .i64 D1.tear, .bool D1.stopped] _ (h6.is 1 rfl : IsCells _ _ _).range Try.underlying24 rfl rfl ?_)
      refine (room_s h6 (d := D1) (f := 2) (m := 4) X2.out (R := 3) (by decide) (by omega) (by omega) (h6.is 2 rfl)).mono ?_
      rintro e w7 ⟨rfl, h7⟩
      clear h6
      go_upto_region 7 with fail
      refine wp_region_st [pVal (dkS bd1 qd1 D1), pMd 400 (List.replicate 400 0), pLs [List.replicate 400 0], pDkT Z 310, pDkT Z 310, pDk Z, pVal (.int .i64 310), pPtr, pAny, pVal ?c7_9] (osN 7 8 5 24 (.cells #[.slice none 0 0, .int .i64 0, .int .i64 0, .bool false] 24 (0, 0)) []) 177 [0, 0, 2, 7, 15, 31, 31, 0, 191, 511] [[], [], [(1, 69)], [(2, 70), (0, 68)], [(3, 71)], [(4, 67)], [(4, 67)], [], [(5, 72), (7, 12)], [(6, 73)]] [(0, 68), (1, 69), (2, 70), (3, 71), (4, 67), (5, 72), (6, 73), (7, 12), (9, 13)] (by kernel_rfl) (by kernel_rfl) rfl rfl h7 osN0 (osN1 (by decide) (by decide)) ?ob ?en
      case ob =>
        refine ⟨?_, ?_, ?_, ?_, ?_, ?_, ?_, ?_, ?_, ?_, trivial⟩
        · -- 0: t68 := Op.load 24 (t6)
          intro zx1 zx2 zx3 zx4 L V W hL hd hw hst 
          exact ob_c (by first | rfl | (simp [wantE, dstOf, zx1]; done)) (run_load_mid rfl rfl ((hst.base 1 rfl : IsCells _ _ _) |> Mono.cells _ _ _ _ (mask_is _ _) |>.range) Try.underlying24 rfl rfl) hst rfl
        · -- 1: t69 := Op.makeSlice 42 (const (int IntKind.i64 400)) (const (int IntKind.i64 400))
          intro zx1 zx2 zx3 zx4 L V W hL hd hw hst 
          exact ob_run (by first | rfl | (simp [wantE, dstOf, zx1]; done)) (run_mk_op (n := 400) rfl rfl rfl (by omega)) (St.newB hst List.length_replicate (by unfold maxLen; omega) _)
        · -- 2: t70 := Op.buildSlice 22 1 #[(0, t69)]
          intro zx1 zx2 zx3 zx4 L V W hL hd hw hst u1 e1 p1
          obtain ⟨gm, rfl, km⟩ := p1
          refine ob_run (n := .value (.slice (some ⟨W.heap.size, 0, none⟩) 1 1)) (W' := W.alloc (.cells #[.slice (some ⟨gm, 0, none⟩) 400 400] 42)) (by first | rfl | (simp [wantE, dstOf, zx1]; done)) ?_ ?_
          · go_simp
            try rfl
          · exact St.newOne hst km _
        · -- 3: t71 := Op.call { callee := value (func 21), args := #[t68, const (int IntKind.i64 2), const (int IntKind.i64 4), t70], argTypes := #[24, 3, 3, 22] }
          intro zx1 zx2 zx3 zx4 L V W hL hd hw hst u0 e0 p0 u2 e2 p2
          obtain rfl : u0 = _ := p0
          obtain ⟨bl, ql, rfl, kl⟩ := p2
          refine ob_call (by first | rfl | (simp [wantE, dstOf, zx1]; done)) ?_ (app_p hst (d := D1) (f := 2) (m := 4) X3.out (by omega) (by omega) (hst.base 2 rfl) (kl.sub (mask_is _ _)) (by simp) (by simp))
          go_simp
          try rfl
        · -- 4: t67 := Op.move (t71)
          intro zx1 zx2 zx3 zx4 L V W hL hd hw hst u3 e3 p3
          refine ob_v u3 rfl ?_ hst rfl p3
          go_simp
        · -- 5: t72 := Op.extract (t67) 0
          intro zx1 zx2 zx3 zx4 L V W hL hd hw hst u4 e4 p4
          obtain ⟨bm, qm, rfl, kmm⟩ := p4
          refine ob_v (dkS bm qm Z) rfl ?_ hst (osN_keep (hw 8 rfl (by decide)) (by decide) (by decide)) ⟨bm, qm, rfl, kmm⟩
          go_simp
        · -- 6: t73 := Op.extract (t67) 1
          intro zx1 zx2 zx3 zx4 L V W hL hd hw hst u4 e4 p4
          obtain ⟨bm, qm, rfl, kmm⟩ := p4
          refine ob_c rfl ?_ hst rfl
          go_simp
          try with_reducible rfl
        · -- 7: t12 := Op.alloc 24
          intro zx1 zx2 zx3 zx4 L V W hL hd hw hst 
          exact ob_new _ rfl rfl dk_zero_var rfl (by decide) hL (hw 8 rfl (by decide)) rfl hst
        · -- 8: tNone := Op.store 24 (t12) (t72)
          intro zx1 zx2 zx3 zx4 L V W hL hd hw hst u7 e7 p7 u5 e5 p5
          obtain ⟨g7, rfl⟩ := p7
          obtain ⟨bx7, qx7, rfl, kx⟩ := p5
          exact ob_put (ia := 7) (k := 5) (z := .agg #[.slice none 0 0, .int .i64 0, .int .i64 0, .bool false]) rfl rfl rfl rfl e7 e5 rfl (by decide) (by decide) (hd 7 rfl) hL rfl disk_info (one4 rfl _ _ _) hst
        · -- 9: t13 := Op.assign (t73)
          intro zx1 zx2 zx3 zx4 L V W hL hd hw hst u6 e6 p6
          obtain rfl : u6 = _ := p6
          refine ob_c rfl ?_ hst rfl
          go_simp
          try with_reducible rfl
      case en =>
        intro V W hst u0 e0 p0 u1 e1 p1 u2 e2 p2 u3 e3 p3 u4 e4 p4 u5 e5 p5 u6 e6 p6 u7 e7 p7 u9 e9 p9
        obtain rfl : u0 = _ := p0
        obtain ⟨gm, rfl, km⟩ := p1
        obtain ⟨bl, ql, rfl, kl⟩ := p2
        obtain ⟨ba, qa, rfl, ka⟩ := p3
        obtain ⟨bm, qm, rfl, kmm⟩ := p4
        obtain ⟨bx7, qx7, rfl, kx⟩ := p5
        obtain rfl : u6 = _ := p6
        obtain ⟨g7, rfl⟩ := p7
        obtain rfl : u9 = _ := p9
        simp only [EndAll, Act.put, List.getElem_toArray, List.getElem_cons_succ, List.getElem_cons_zero, List.setIfInBounds_toArray, List.set_cons_zero, List.set_cons_succ]
        have h8 := hst.put (Mono.dk _ _) kx
        rw [osN_end e7 e5] at h8
        replace h8 := h8.shut
        clear hst kx kmm ka kl
        go_upto_region 8 with fail
        refine wp_region_st0 [pVal ?c8_0, pVal ?c8_1, pVal ?c8_2, pVal ?c8_3, pVal ?c8_4, pVal ?c8_5, pVal ?c8_6, pVal ?c8_7, pVal ?c8_8, pVal ?c8_9, pVal ?c8_10, pVal ?c8_11, pVal ?c8_12, pVal ?c8_13, pVal ?c8_14, pRow 2 [Value.string ⟨#[97]⟩, Value.string ⟨#[98, 99]⟩], pLs [[97], [98, 99]], pVal (.bool true), pVal ?c8_18, pVal ?c8_19, pVal ?c8_20, pVal ?c8_21, pVal ?c8_22, pVal ?c8_23, pVal ?c8_24, pVal ?c8_25, pVal ?c8_26, pVal ?c8_27, pVal ?c8_28, pVal ?c8_29, pVal ?c8_30, pVal ?c8_31, pVal ?c8_32, pVal ?c8_33, pVal ?c8_34, pVal ?c8_35] (osC []) 177 [0, 1, 3, 7, 15, 31, 63, 127, 255, 511, 1023, 2047, 4095, 8191, 16383, 16383, 49151, 131071, 262143, 524287, 1048575, 2097151, 4194303, 8388607, 16777215, 33554431, 67108863, 134217727, 268435455, 536870911, 1073741823, 2147483647, 4294967295, 8589934591, 17179869183, 34359738367] [[], [(0, 74)], [(1, 75)], [(1, 75), (2, 76)], [(3, 77), (1, 75)], [(4, 78)], [(5, 79)], [(5, 79), (6, 80)], [(7, 81), (5, 79)], [(8, 82)], [(9, 83)], [(9, 83), (10, 84)], [(11, 85), (9, 83)], [(12, 86)], [(13, 87)], [(13, 87)], [(13, 87), (15, 89)], [(13, 87), (16, 90), (14, 88)], [(17, 91), (13, 87)], [(18, 92)], [(19, 93)], [(19, 93), (20, 94)], [(21, 95), (19, 93)], [(22, 96)], [(23, 97)], [(23, 97), (24, 98)], [(25, 99), (23, 97)], [(26, 100)], [(27, 101)], [(27, 101), (28, 102)], [(29, 103), (27, 101)], [(30, 104)], [(31, 105)], [(31, 105), (32, 106)], [(33, 107), (31, 105)], [(34, 108)]] [(0, 74), (1, 75), (2, 76), (3, 77), (4, 78), (5, 79), (6, 80), (7, 81), (8, 82), (9, 83), (10, 84), (11, 85), (12, 86), (13, 87), (14, 88), (15, 89), (16, 90), (17, 91), (18, 92), (19, 93), (20, 94), (21, 95), (22, 96), (23, 97), (24, 98), (25, 99), (26, 100), (27, 101), (28, 102), (29, 103), (30, 104), (31, 105), (32, 106), (33, 107), (34, 108), (35, 14)] (by kernel_rfl) rfl rfl h8 osC0 osC1 ?ob ?en
        case ob =>
          refine ⟨?_, ?_, ?_, ?_, ?_, ?_, ?_, ?_, ?_, ?_, ?_, ?_, ?_, ?_, ?_, ?_, ?_, ?_, ?_, ?_, ?_, ?_, ?_, ?_, ?_, ?_, ?_, ?_, ?_, ?_, ?_, ?_, ?_, ?_, ?_, ?_, trivial⟩
          · -- 0: t74 := Op.move (t3)
            intro zx1 zx2 zx3 zx4 L V W hL hd hw hst 
            refine ob_c rfl ?_ hst rfl
            go_simp
            try with_reducible rfl
          · -- 1: t75 := Op.move (t74)
            intro zx1 zx2 zx3 zx4 L V W hL hd hw hst u0 e0 p0
            obtain rfl : u0 = _ := p0
            refine ob_c rfl ?_ hst rfl
            go_simp
            try with_reducible rfl
          · -- 2: t76 := Op.move (t4)
            intro zx1 zx2 zx3 zx4 L V W hL hd hw hst u1 e1 p1
            obtain rfl : u1 = _ := p1
            refine ob_c (by first | rfl | (simp [wantE, dstOf, zx1]; done)) ?_ hst rfl
            go_simp
            try with_reducible rfl
          · -- 3: t77 := Op.binOp BinOp.eql 3 (t76) (const (int IntKind.i64 4)) 3
            intro zx1 zx2 zx3 zx4 L V W hL hd hw hst u2 e2 p2 u1 e1 p1
            obtain rfl : u2 = _ := p2
            obtain rfl : u1 = _ := p1
            refine ob_c (by first | rfl | (simp [wantE, dstOf, zx1]; done)) ?_ hst rfl
            go_simp
            try with_reducible rfl
          · -- 4: t78 := Op.pick (t75) (t77) (const (bool false))
            intro zx1 zx2 zx3 zx4 L V W hL hd hw hst u1 e1 p1 u3 e3 p3
            obtain rfl : u1 = _ := p1
            obtain rfl : u3 = _ := p3
            refine ob_c rfl ?_ hst rfl
            go_simp
            try with_reducible rfl
          · -- 5: t79 := Op.move (t78)
            intro zx1 zx2 zx3 zx4 L V W hL hd hw hst u4 e4 p4
            obtain rfl : u4 = _ := p4
            refine ob_c rfl ?_ hst rfl
            go_simp
            try with_reducible rfl
          · -- 6: t80 := Op.move (t5)
            intro zx1 zx2 zx3 zx4 L V W hL hd hw hst u5 e5 p5
            obtain rfl : u5 = _ := p5
            refine ob_c (by first | rfl | (simp [wantE, dstOf, zx1]; done)) ?_ hst rfl
            go_simp
            try with_reducible rfl
          · -- 7: t81 := Op.binOp BinOp.eql 27 (t80) (const (int IntKind.i64 0)) 27
            intro zx1 zx2 zx3 zx4 L V W hL hd hw hst u6 e6 p6 u5 e5 p5
            obtain rfl : u6 = _ := p6
            obtain rfl : u5 = _ := p5
            refine ob_c (by first | rfl | (simp [wantE, dstOf, zx1]; done)) ?_ hst rfl
            go_simp
            try with_reducible rfl
          · -- 8: t82 := Op.pick (t79) (t81) (const (bool false))
            intro zx1 zx2 zx3 zx4 L V W hL hd hw hst u5 e5 p5 u7 e7 p7
            obtain rfl : u5 = _ := p5
            obtain rfl : u7 = _ := p7
            refine ob_c rfl ?_ hst rfl
            go_simp
            try with_reducible rfl
          · -- 9: t83 := Op.move (t82)
            intro zx1 zx2 zx3 zx4 L V W hL hd hw hst u8 e8 p8
            obtain rfl : u8 = _ := p8
            refine ob_c rfl ?_ hst rfl
            go_simp
            try with_reducible rfl
          · -- 10: t84 := Op.move (t7)
            intro zx1 zx2 zx3 zx4 L V W hL hd hw hst u9 e9 p9
            obtain rfl : u9 = _ := p9
            refine ob_c (by first | rfl | (simp [wantE, dstOf, zx1]; done)) ?_ hst rfl
            go_simp
            try with_reducible rfl
          · -- 11: t85 := Op.binOp BinOp.eql 27 (t84) (const (int IntKind.i64 0)) 27
            intro zx1 zx2 zx3 zx4 L V W hL hd hw hst u10 e10 p10 u9 e9 p9
            obtain rfl : u10 = _ := p10
            obtain rfl : u9 = _ := p9
            refine ob_c (by first | rfl | (simp [wantE, dstOf, zx1]; done)) ?_ hst rfl
            go_simp
            try with_reducible rfl
          · -- 12: t86 := Op.pick (t83) (t85) (const (bool false))
            intro zx1 zx2 zx3 zx4 L V W hL hd hw hst u9 e9 p9 u11 e11 p11
            obtain rfl : u9 = _ := p9
            obtain rfl : u11 = _ := p11
            refine ob_c rfl ?_ hst rfl
            go_simp
            try with_reducible rfl
          · -- 13: t87 := Op.move (t86)
            intro zx1 zx2 zx3 zx4 L V W hL hd hw hst u12 e12 p12
            obtain rfl : u12 = _ := p12
            refine ob_c rfl ?_ hst rfl
            go_simp
            try with_reducible rfl
          · -- 14: t88 := Op.move (t8)
            intro zx1 zx2 zx3 zx4 L V W hL hd hw hst u13 e13 p13
            obtain rfl : u13 = _ := p13
            refine ob_c (by first | rfl | (simp [wantE, dstOf, zx1]; done)) ?_ hst rfl
            go_simp
            try with_reducible rfl
          · -- 15: t89 := Op.buildSlice 96 2 #[(0, const (string { data := #[97] })), (1, const (string { data := #[98, 99] }))]
            intro zx1 zx2 zx3 zx4 L V W hL hd hw hst u13 e13 p13
            obtain rfl : u13 = _ := p13
            refine ob_run (n := .value (.slice (some ⟨W.heap.size, 0, none⟩) 2 2)) (W' := W.alloc (.cells ([Value.string ⟨#[97]⟩, Value.string ⟨#[98, 99]⟩] : List Value).toArray 9)) (by first | rfl | (simp [wantE, dstOf, zx1]; done)) ?_ ?_
            · go_simp
              try rfl
            · exact St.newRow hst 2 [Value.string ⟨#[97]⟩, Value.string ⟨#[98, 99]⟩] _ rfl (by unfold maxLen; omega)
          · -- 16: t90 := Op.call { callee := value (func 39), args := #[t89], argTypes := #[96] }
            intro zx1 zx2 zx3 zx4 L V W hL hd hw hst u15 e15 p15 u13 e13 p13
            obtain ⟨gr, rfl, kr⟩ := p15
            obtain rfl : u13 = _ := p13
            refine ob_call (by first | rfl | (simp [wantE, dstOf, zx1]; done)) ?_ (texts_p hst [⟨#[97]⟩, ⟨#[98, 99]⟩] (l := [[97], [98, 99]]) (n := 2) rfl rfl (kr.sub (mask_is _ _)) (by omega) (by decide))
            go_simp
            try rfl
          · -- 17: t91 := Op.call { callee := value (func 18), args := #[t88, t90], argTypes := #[22, 22] }
            intro zx1 zx2 zx3 zx4 L V W hL hd hw hst u14 e14 p14 u16 e16 p16 u13 e13 p13
            obtain rfl : u14 = _ := p14
            obtain ⟨bl, ql, rfl, kl⟩ := p16
            obtain rfl : u13 = _ := p13
            refine ob_call (by first | rfl | (simp [wantE, dstOf, zx1]; done)) ?_ (same_p hst (a := [[97], [98, 99]]) (b := [[97], [98, 99]]) (decide_eq_true rfl) ((hst.base 2 rfl : IsLists _ _ _).sub (mask_is _ _)) (kl.sub (mask_is _ _)))
            go_simp
            try rfl
          · -- 18: t92 := Op.pick (t87) (t91) (const (bool false))
            intro zx1 zx2 zx3 zx4 L V W hL hd hw hst u13 e13 p13 u17 e17 p17
            obtain rfl : u13 = _ := p13
            obtain rfl : u17 = _ := p17
            refine ob_c rfl ?_ hst rfl
            go_simp
            try with_reducible rfl
          · -- 19: t93 := Op.move (t92)
            intro zx1 zx2 zx3 zx4 L V W hL hd hw hst u18 e18 p18
            obtain rfl : u18 = _ := p18
            refine ob_c rfl ?_ hst rfl
            go_simp
            try with_reducible rfl
          · -- 20: t94 := Op.move (t9)
            intro zx1 zx2 zx3 zx4 L V W hL hd hw hst u19 e19 p19
            obtain rfl : u19 = _ := p19
            refine ob_c (by first | rfl | (simp [wantE, dstOf, zx1]; done)) ?_ hst rfl
            go_simp
            try with_reducible rfl
          · -- 21: t95 := Op.binOp BinOp.eql 27 (t94) (const (int IntKind.i64 0)) 27
            intro zx1 zx2 zx3 zx4 L V W hL hd hw hst u20 e20 p20 u19 e19 p19
            obtain rfl : u20 = _ := p20
            obtain rfl : u19 = _ := p19
            refine ob_c (by first | rfl | (simp [wantE, dstOf, zx1]; done)) ?_ hst rfl
            go_simp
            try with_reducible rfl
          · -- 22: t96 := Op.pick (t93) (t95) (const (bool false))
            intro zx1 zx2 zx3 zx4 L V W hL hd hw hst u19 e19 p19 u21 e21 p21
            obtain rfl : u19 = _ := p19
            obtain rfl : u21 = _ := p21
            refine ob_c rfl ?_ hst rfl
            go_simp
            try with_reducible rfl
          · -- 23: t97 := Op.move (t96)
            intro zx1 zx2 zx3 zx4 L V W hL hd hw hst u22 e22 p22
            obtain rfl : u22 = _ := p22
            refine ob_c rfl ?_ hst rfl
            go_simp
            try with_reducible rfl
          · -- 24: t98 := Op.move (t10)
            intro zx1 zx2 zx3 zx4 L V W hL hd hw hst u23 e23 p23
            obtain rfl : u23 = _ := p23
            refine ob_c (by first | rfl | (simp [wantE, dstOf, zx1]; done)) ?_ hst rfl
            go_simp
            try with_reducible rfl
          · -- 25: t99 := Op.binOp BinOp.eql 3 (t98) (const (int IntKind.i64 3)) 3
            intro zx1 zx2 zx3 zx4 L V W hL hd hw hst u24 e24 p24 u23 e23 p23
            obtain rfl : u24 = _ := p24
            obtain rfl : u23 = _ := p23
            refine ob_c (by first | rfl | (simp [wantE, dstOf, zx1]; done)) ?_ hst rfl
            go_simp
            try with_reducible rfl
          · -- 26: t100 := Op.pick (t97) (t99) (const (bool false))
            intro zx1 zx2 zx3 zx4 L V W hL hd hw hst u23 e23 p23 u25 e25 p25
            obtain rfl : u23 = _ := p23
            obtain rfl : u25 = _ := p25
            refine ob_c rfl ?_ hst rfl
            go_simp
            try with_reducible rfl
          · -- 27: t101 := Op.move (t100)
            intro zx1 zx2 zx3 zx4 L V W hL hd hw hst u26 e26 p26
            obtain rfl : u26 = _ := p26
            refine ob_c rfl ?_ hst rfl
            go_simp
            try with_reducible rfl
          · -- 28: t102 := Op.move (t11)
            intro zx1 zx2 zx3 zx4 L V W hL hd hw hst u27 e27 p27
            obtain rfl : u27 = _ := p27
            refine ob_c (by first | rfl | (simp [wantE, dstOf, zx1]; done)) ?_ hst rfl
            go_simp
            try with_reducible rfl
          · -- 29: t103 := Op.binOp BinOp.eql 27 (t102) (const (int IntKind.i64 0)) 27
            intro zx1 zx2 zx3 zx4 L V W hL hd hw hst u28 e28 p28 u27 e27 p27
            obtain rfl : u28 = _ := p28
            obtain rfl : u27 = _ := p27
            refine ob_c (by first | rfl | (simp [wantE, dstOf, zx1]; done)) ?_ hst rfl
            go_simp
            try with_reducible rfl
          · -- 30: t104 := Op.pick (t101) (t103) (const (bool false))
            intro zx1 zx2 zx3 zx4 L V W hL hd hw hst u27 e27 p27 u29 e29 p29
            obtain rfl : u27 = _ := p27
            obtain rfl : u29 = _ := p29
            refine ob_c rfl ?_ hst rfl
            go_simp
            try with_reducible rfl
          · -- 31: t105 := Op.move (t104)
            intro zx1 zx2 zx3 zx4 L V W hL hd hw hst u30 e30 p30
            obtain rfl : u30 = _ := p30
            refine ob_c rfl ?_ hst rfl
            go_simp
            try with_reducible rfl
          · -- 32: t106 := Op.move (t13)
            intro zx1 zx2 zx3 zx4 L V W hL hd hw hst u31 e31 p31
            obtain rfl : u31 = _ := p31
            refine ob_c (by first | rfl | (simp [wantE, dstOf, zx1]; done)) ?_ hst rfl
            go_simp
            try with_reducible rfl
          · -- 33: t107 := Op.binOp BinOp.eql 27 (t106) (const (int IntKind.i64 310)) 27
            intro zx1 zx2 zx3 zx4 L V W hL hd hw hst u32 e32 p32 u31 e31 p31
            obtain rfl : u32 = _ := p32
            obtain rfl : u31 = _ := p31
            refine ob_c (by first | rfl | (simp [wantE, dstOf, zx1]; done)) ?_ hst rfl
            go_simp
            try with_reducible rfl
          · -- 34: t108 := Op.pick (t105) (t107) (const (bool false))
            intro zx1 zx2 zx3 zx4 L V W hL hd hw hst u31 e31 p31 u33 e33 p33
            obtain rfl : u31 = _ := p31
            obtain rfl : u33 = _ := p33
            refine ob_c rfl ?_ hst rfl
            go_simp
            try with_reducible rfl
          · -- 35: t14 := Op.assign (t108)
            intro zx1 zx2 zx3 zx4 L V W hL hd hw hst u34 e34 p34
            obtain rfl : u34 = _ := p34
            refine ob_c rfl ?_ hst rfl
            go_simp
            try with_reducible rfl
        case en =>
          intro V W hst u0 e0 p0 u1 e1 p1 u2 e2 p2 u3 e3 p3 u4 e4 p4 u5 e5 p5 u6 e6 p6 u7 e7 p7 u8 e8 p8 u9 e9 p9 u10 e10 p10 u11 e11 p11 u12 e12 p12 u13 e13 p13 u14 e14 p14 u15 e15 p15 u16 e16 p16 u17 e17 p17 u18 e18 p18 u19 e19 p19 u20 e20 p20 u21 e21 p21 u22 e22 p22 u23 e23 p23 u24 e24 p24 u25 e25 p25 u26 e26 p26 u27 e27 p27 u28 e28 p28 u29 e29 p29 u30 e30 p30 u31 e31 p31 u32 e32 p32 u33 e33 p33 u34 e34 p34 u35 e35 p35
          obtain rfl : u0 = _ := p0
          obtain rfl : u1 = _ := p1
          obtain rfl : u2 = _ := p2
          obtain rfl : u3 = _ := p3
          obtain rfl : u4 = _ := p4
          obtain rfl : u5 = _ := p5
          obtain rfl : u6 = _ := p6
          obtain rfl : u7 = _ := p7
          obtain rfl : u8 = _ := p8
          obtain rfl : u9 = _ := p9
          obtain rfl : u10 = _ := p10
          obtain rfl : u11 = _ := p11
          obtain rfl : u12 = _ := p12
          obtain rfl : u13 = _ := p13
          obtain rfl : u14 = _ := p14
          obtain ⟨gr, rfl, kr⟩ := p15
          obtain ⟨bl, ql, rfl, kl⟩ := p16
          obtain rfl : u17 = _ := p17
          obtain rfl : u18 = _ := p18
          obtain rfl : u19 = _ := p19
          obtain rfl : u20 = _ := p20
          obtain rfl : u21 = _ := p21
          obtain rfl : u22 = _ := p22
          obtain rfl : u23 = _ := p23
          obtain rfl : u24 = _ := p24
          obtain rfl : u25 = _ := p25
          obtain rfl : u26 = _ := p26
          obtain rfl : u27 = _ := p27
          obtain rfl : u28 = _ := p28
          obtain rfl : u29 = _ := p29
          obtain rfl : u30 = _ := p30
          obtain rfl : u31 = _ := p31
          obtain rfl : u32 = _ := p32
          obtain rfl : u33 = _ := p33
          obtain rfl : u34 = _ := p34
          obtain rfl : u35 = _ := p35
          simp only [EndAll, Act.put, List.getElem_toArray, List.getElem_cons_succ, List.getElem_cons_zero, List.setIfInBounds_toArray, List.set_cons_zero, List.set_cons_succ]
          have h9 := hst
          clear hst h8
          go_wp2_with (refine wpList_load_mid rfl 24 (.tmp 6) rfl gd1 0 rfl [.slice bd1 D1.sec.length qd1, .int .i64 D1.left, .int .i64 D1.tear, .bool D1.stopped] _ (h9.is 3 rfl : IsCells _ _ _).range Try.underlying24 rfl rfl ?_)
          refine (fail_s h9 (d := D1) X4.out (h9.get 4 rfl)).mono ?_
          rintro e w10 ⟨b10, q10, rfl, h10⟩
          go_upto_region 10 with (refine wpList_store_row rfl 24 (.tmp 15) (.tmp 112) rfl w10.heap.size (dkA b10 q10 T) rfl rfl 24 _ (heap_alloc_new _ _) disk_info rfl (one4 rfl _ _ _) ?_)
          have h11 := (h10.newVar #[.slice none 0 0, .int .i64 0, .int .i64 0, .bool false] (dkA b10 q10 T) 24).shut
          clear h10
          generalize World.setRow _ _ _ = W11 at h11 ⊢
          generalize w10.heap.size = g15 at h11 ⊢
          refine wp_region_st [pVal (dkS b10 q10 T), pRow 1 [Value.string ⟨#[100]⟩], pLs [[100]], pDkT Y 300, pDkT Y 300, pDk Y, pVal (.int .i64 300), pPtr, pAny, pVal ?c10_9] (osN 7 8 5 24 (.cells #[.slice none 0 0, .int .i64 0, .int .i64 0, .bool false] 24 (0, 0)) []) 177 [0, 0, 2, 7, 15, 31, 31, 0, 191, 511] [[], [], [(1, 116)], [(2, 117), (0, 115)], [(3, 118)], [(4, 114)], [(4, 114)], [], [(5, 119), (7, 17)], [(6, 120)]] [(0, 115), (1, 116), (2, 117), (3, 118), (4, 114), (5, 119), (6, 120), (7, 17), (9, 18)] (by kernel_rfl) (by kernel_rfl) rfl rfl h11 osN0 (osN1 (by decide) (by decide)) ?ob ?en
          case ob =>
            refine ⟨?_, ?_, ?_, ?_, ?_, ?_, ?_, ?_, ?_, ?_, trivial⟩
            · -- 0: t115 := Op.load 24 (t15)
              intro zx1 zx2 zx3 zx4 L V W hL hd hw hst 
              exact ob_c (by first | rfl | (simp [wantE, dstOf, zx1]; done)) (run_load_mid rfl rfl ((hst.base 0 rfl : IsCells _ _ _) |> Mono.cells _ _ _ _ (mask_is _ _) |>.range) Try.underlying24 rfl rfl) hst rfl
            · -- 1: t116 := Op.buildSlice 96 1 #[(0, const (string { data := #[100] }))]
              intro zx1 zx2 zx3 zx4 L V W hL hd hw hst 
              refine ob_run (n := .value (.slice (some ⟨W.heap.size, 0, none⟩) 1 1)) (W' := W.alloc (.cells ([Value.string ⟨#[100]⟩] : List Value).toArray 9)) (by first | rfl | (simp [wantE, dstOf, zx1]; done)) ?_ ?_
              · go_simp
                try rfl
              · exact St.newRow hst 1 [Value.string ⟨#[100]⟩] _ rfl (by unfold maxLen; omega)
            · -- 2: t117 := Op.call { callee := value (func 39), args := #[t116], argTypes := #[96] }
              intro zx1 zx2 zx3 zx4 L V W hL hd hw hst u1 e1 p1
              obtain ⟨gr, rfl, kr⟩ := p1
              refine ob_call (by first | rfl | (simp [wantE, dstOf, zx1]; done)) ?_ (texts_p hst [⟨#[100]⟩] (l := [[100]]) (n := 1) rfl rfl (kr.sub (mask_is _ _)) (by omega) (by decide))
              go_simp
              try rfl
            · -- 3: t118 := Op.call { callee := value (func 21), args := #[t115, const (int IntKind.i64 2), const (int IntKind.i64 4), t117], argTypes := #[24, 3, 3, 22] }
              intro zx1 zx2 zx3 zx4 L V W hL hd hw hst u0 e0 p0 u2 e2 p2
              obtain rfl : u0 = _ := p0
              obtain ⟨bl, ql, rfl, kl⟩ := p2
              refine ob_call (by first | rfl | (simp [wantE, dstOf, zx1]; done)) ?_ (app_p hst (d := T) (f := 2) (m := 4) X5.out (by omega) (by omega) (hst.base 1 rfl) (kl.sub (mask_is _ _)) (by simp) (by simp))
              go_simp
              try rfl
            · -- 4: t114 := Op.move (t118)
              intro zx1 zx2 zx3 zx4 L V W hL hd hw hst u3 e3 p3
              refine ob_v u3 rfl ?_ hst rfl p3
              go_simp
            · -- 5: t119 := Op.extract (t114) 0
              intro zx1 zx2 zx3 zx4 L V W hL hd hw hst u4 e4 p4
              obtain ⟨bm, qm, rfl, kmm⟩ := p4
              refine ob_v (dkS bm qm Y) rfl ?_ hst (osN_keep (hw 8 rfl (by decide)) (by decide) (by decide)) ⟨bm, qm, rfl, kmm⟩
              go_simp
            · -- 6: t120 := Op.extract (t114) 1
              intro zx1 zx2 zx3 zx4 L V W hL hd hw hst u4 e4 p4
              obtain ⟨bm, qm, rfl, kmm⟩ := p4
              refine ob_c rfl ?_ hst rfl
              go_simp
              try with_reducible rfl
            · -- 7: t17 := Op.alloc 24
              intro zx1 zx2 zx3 zx4 L V W hL hd hw hst 
              exact ob_new _ rfl rfl dk_zero_var rfl (by decide) hL (hw 8 rfl (by decide)) rfl hst
            · -- 8: tNone := Op.store 24 (t17) (t119)
              intro zx1 zx2 zx3 zx4 L V W hL hd hw hst u7 e7 p7 u5 e5 p5
              obtain ⟨g7, rfl⟩ := p7
              obtain ⟨bx10, qx10, rfl, kx⟩ := p5
              exact ob_put (ia := 7) (k := 5) (z := .agg #[.slice none 0 0, .int .i64 0, .int .i64 0, .bool false]) rfl rfl rfl rfl e7 e5 rfl (by decide) (by decide) (hd 7 rfl) hL rfl disk_info (one4 rfl _ _ _) hst
            · -- 9: t18 := Op.assign (t120)
              intro zx1 zx2 zx3 zx4 L V W hL hd hw hst u6 e6 p6
              obtain rfl : u6 = _ := p6
              refine ob_c rfl ?_ hst rfl
              go_simp
              try with_reducible rfl
          case en =>
            intro V W hst u0 e0 p0 u1 e1 p1 u2 e2 p2 u3 e3 p3 u4 e4 p4 u5 e5 p5 u6 e6 p6 u7 e7 p7 u9 e9 p9
            obtain rfl : u0 = _ := p0
            obtain ⟨gr, rfl, kr⟩ := p1
            obtain ⟨bl, ql, rfl, kl⟩ := p2
            obtain ⟨ba, qa, rfl, ka⟩ := p3
            obtain ⟨bm, qm, rfl, kmm⟩ := p4
            obtain ⟨bx10, qx10, rfl, kx⟩ := p5
            obtain rfl : u6 = _ := p6
            obtain ⟨g7, rfl⟩ := p7
            obtain rfl : u9 = _ := p9
            simp only [EndAll, Act.put, List.getElem_toArray, List.getElem_cons_succ, List.getElem_cons_zero, List.setIfInBounds_toArray, List.set_cons_zero, List.set_cons_succ]
            have h12 := hst.put (Mono.dk _ _) kx
            rw [osN_end e7 e5] at h12
            replace h12 := h12.shut
            clear hst kx kmm ka kl
            go_wp2_with (refine wpList_load_mid rfl 24 (.tmp 17) rfl g7 0 rfl [.slice bx10 Y.sec.length qx10, .int .i64 Y.left, .int .i64 Y.tear, .bool Y.stopped] _ (h12.is 0 rfl : IsCells _ _ _).range Try.underlying24 rfl rfl ?_)
            refine (restart_s h12 (d := Y) XR.out (h12.get 1 rfl)).mono ?_
            rintro e w13 ⟨b13, q13, rfl, h13⟩
            go_wp2_with fail
            refine (read_s h13 (d := YR) (f := 2) (m := 4) X6.out (by omega) (by omega) (h13.is 0 rfl)).mono ?_
            rintro e w14 ⟨b14, q14, rfl, h14⟩
            clear h13 h12
            go_wp2_with (refine wpList_load_mid rfl 24 (.tmp 6) rfl gd1 0 rfl [.slice bd1 D1.sec.length qd1, .int .i64 D1.left, .int .i64 D1.tear, .bool D1.stopped] _ (h14.is 9 rfl : IsCells _ _ _).range Try.underlying24 rfl rfl ?_)
            refine (fail_s h14 (d := D1) X7.out (h14.get 10 rfl)).mono ?_
            rintro e w15 ⟨b15, q15, rfl, h15⟩
            go_upto_region 13 with (refine wpList_store_row rfl 24 (.tmp 21) (.tmp 130) rfl w15.heap.size (dkA b15 q15 T2) rfl rfl 24 _ (heap_alloc_new _ _) disk_info rfl (one4 rfl _ _ _) ?_)
            have h16 := (h15.newVar #[.slice none 0 0, .int .i64 0, .int .i64 0, .bool false] (dkA b15 q15 T2) 24).shut
            clear h15
            generalize World.setRow _ _ _ = W16 at h16 ⊢
            generalize w15.heap.size = g21 at h16 ⊢
            refine wp_region_st [pVal (dkS b15 q15 T2), pRow 1 [Value.string ⟨#[100]⟩], pLs [[100]], pDkT Y2 300, pDkT Y2 300, pDk Y2, pVal (.int .i64 300), pPtr, pAny, pVal ?c13_9] (osN 7 8 5 24 (.cells #[.slice none 0 0, .int .i64 0, .int .i64 0, .bool false] 24 (0, 0)) []) 177 [0, 0, 2, 7, 15, 31, 31, 0, 191, 511] [[], [], [(1, 134)], [(2, 135), (0, 133)], [(3, 136)], [(4, 132)], [(4, 132)], [], [(5, 137), (7, 23)], [(6, 138)]] [(0, 133), (1, 134), (2, 135), (3, 136), (4, 132), (5, 137), (6, 138), (7, 23), (9, 24)] (by kernel_rfl) (by kernel_rfl) rfl rfl h16 osN0 (osN1 (by decide) (by decide)) ?ob ?en
            case ob =>
              refine ⟨?_, ?_, ?_, ?_, ?_, ?_, ?_, ?_, ?_, ?_, trivial⟩
              · -- 0: t133 := Op.load 24 (t21)
                intro zx1 zx2 zx3 zx4 L V W hL hd hw hst 
                exact ob_c (by first | rfl | (simp [wantE, dstOf, zx1]; done)) (run_load_mid rfl rfl ((hst.base 0 rfl : IsCells _ _ _) |> Mono.cells _ _ _ _ (mask_is _ _) |>.range) Try.underlying24 rfl rfl) hst rfl
              · -- 1: t134 := Op.buildSlice 96 1 #[(0, const (string { data := #[100] }))]
                intro zx1 zx2 zx3 zx4 L V W hL hd hw hst 
                refine ob_run (n := .value (.slice (some ⟨W.heap.size, 0, none⟩) 1 1)) (W' := W.alloc (.cells ([Value.string ⟨#[100]⟩] : List Value).toArray 9)) (by first | rfl | (simp [wantE, dstOf, zx1]; done)) ?_ ?_
                · go_simp
                  try rfl
                · exact St.newRow hst 1 [Value.string ⟨#[100]⟩] _ rfl (by unfold maxLen; omega)
              · -- 2: t135 := Op.call { callee := value (func 39), args := #[t134], argTypes := #[96] }
                intro zx1 zx2 zx3 zx4 L V W hL hd hw hst u1 e1 p1
                obtain ⟨gr, rfl, kr⟩ := p1
                refine ob_call (by first | rfl | (simp [wantE, dstOf, zx1]; done)) ?_ (texts_p hst [⟨#[100]⟩] (l := [[100]]) (n := 1) rfl rfl (kr.sub (mask_is _ _)) (by omega) (by decide))
                go_simp
                try rfl
              · -- 3: t136 := Op.call { callee := value (func 21), args := #[t133, const (int IntKind.i64 2), const (int IntKind.i64 4), t135], argTypes := #[24, 3, 3, 22] }
                intro zx1 zx2 zx3 zx4 L V W hL hd hw hst u0 e0 p0 u2 e2 p2
                obtain rfl : u0 = _ := p0
                obtain ⟨bl, ql, rfl, kl⟩ := p2
                refine ob_call (by first | rfl | (simp [wantE, dstOf, zx1]; done)) ?_ (app_p hst (d := T2) (f := 2) (m := 4) X8.out (by omega) (by omega) (hst.base 1 rfl) (kl.sub (mask_is _ _)) (by simp) (by simp))
                go_simp
                try rfl
              · -- 4: t132 := Op.move (t136)
                intro zx1 zx2 zx3 zx4 L V W hL hd hw hst u3 e3 p3
                refine ob_v u3 rfl ?_ hst rfl p3
                go_simp
              · -- 5: t137 := Op.extract (t132) 0
                intro zx1 zx2 zx3 zx4 L V W hL hd hw hst u4 e4 p4
                obtain ⟨bm, qm, rfl, kmm⟩ := p4
                refine ob_v (dkS bm qm Y2) rfl ?_ hst (osN_keep (hw 8 rfl (by decide)) (by decide) (by decide)) ⟨bm, qm, rfl, kmm⟩
                go_simp
              · -- 6: t138 := Op.extract (t132) 1
                intro zx1 zx2 zx3 zx4 L V W hL hd hw hst u4 e4 p4
                obtain ⟨bm, qm, rfl, kmm⟩ := p4
                refine ob_c rfl ?_ hst rfl
                go_simp
                try with_reducible rfl
              · -- 7: t23 := Op.alloc 24
                intro zx1 zx2 zx3 zx4 L V W hL hd hw hst 
                exact ob_new _ rfl rfl dk_zero_var rfl (by decide) hL (hw 8 rfl (by decide)) rfl hst
              · -- 8: tNone := Op.store 24 (t23) (t137)
                intro zx1 zx2 zx3 zx4 L V W hL hd hw hst u7 e7 p7 u5 e5 p5
                obtain ⟨g7, rfl⟩ := p7
                obtain ⟨bx13, qx13, rfl, kx⟩ := p5
                exact ob_put (ia := 7) (k := 5) (z := .agg #[.slice none 0 0, .int .i64 0, .int .i64 0, .bool false]) rfl rfl rfl rfl e7 e5 rfl (by decide) (by decide) (hd 7 rfl) hL rfl disk_info (one4 rfl _ _ _) hst
              · -- 9: t24 := Op.assign (t138)
                intro zx1 zx2 zx3 zx4 L V W hL hd hw hst u6 e6 p6
                obtain rfl : u6 = _ := p6
                refine ob_c rfl ?_ hst rfl
                go_simp
                try with_reducible rfl
            case en =>
              intro V W hst u0 e0 p0 u1 e1 p1 u2 e2 p2 u3 e3 p3 u4 e4 p4 u5 e5 p5 u6 e6 p6 u7 e7 p7 u9 e9 p9
              obtain rfl : u0 = _ := p0
              obtain ⟨gr, rfl, kr⟩ := p1
              obtain ⟨bl, ql, rfl, kl⟩ := p2
              obtain ⟨ba, qa, rfl, ka⟩ := p3
              obtain ⟨bm, qm, rfl, kmm⟩ := p4
              obtain ⟨bx13, qx13, rfl, kx⟩ := p5
              obtain rfl : u6 = _ := p6
              obtain ⟨g7, rfl⟩ := p7
              obtain rfl : u9 = _ := p9
              simp only [EndAll, Act.put, List.getElem_toArray, List.getElem_cons_succ, List.getElem_cons_zero, List.setIfInBounds_toArray, List.set_cons_zero, List.set_cons_succ]
              have h17 := hst.put (Mono.dk _ _) kx
              rw [osN_end e7 e5] at h17
              replace h17 := h17.shut
              clear hst kx kmm ka kl
              go_wp2_with (refine wpList_load_mid rfl 24 (.tmp 23) rfl g7 0 rfl [.slice bx13 Y2.sec.length qx13, .int .i64 Y2.left, .int .i64 Y2.tear, .bool Y2.stopped] _ (h17.is 0 rfl : IsCells _ _ _).range Try.underlying24 rfl rfl ?_)
              refine (restart_s h17 (d := Y2) XR2.out (h17.get 1 rfl)).mono ?_
              rintro e w18 ⟨b18, q18, rfl, h18⟩
              go_wp2_with fail
              refine (read_s h18 (d := Y2R) (f := 2) (m := 4) X9.out (by omega) (by omega) (h18.is 0 rfl)).mono ?_
              rintro e w19 ⟨b19, q19, rfl, h19⟩
              clear h18 h17
              go_upto_region 15 with fail
              refine wp_region_st0 [pVal ?c15_0, pVal ?c15_1, pVal ?c15_2, pVal ?c15_3, pVal ?c15_4, pVal ?c15_5, pVal ?c15_6, pVal ?c15_7, pVal ?c15_8, pVal ?c15_9, pVal ?c15_10, pVal ?c15_11, pVal ?c15_12, pVal ?c15_13, pRow 2 [Value.string ⟨#[97]⟩, Value.string ⟨#[98, 99]⟩], pLs [[97], [98, 99]], pVal (.bool true), pVal ?c15_17, pVal ?c15_18, pVal ?c15_19, pVal ?c15_20, pVal ?c15_21, pVal ?c15_22, pVal ?c15_23, pVal ?c15_24, pVal ?c15_25, pVal ?c15_26, pVal ?c15_27, pRow 3 [Value.string ⟨#[97]⟩, Value.string ⟨#[98, 99]⟩, Value.string ⟨#[100]⟩], pLs [[97], [98, 99], [100]], pVal (.bool true), pVal ?c15_31, pVal ?c15_32] (osC []) 177 [0, 1, 3, 7, 15, 31, 63, 127, 255, 511, 1023, 2047, 4095, 8191, 8191, 24575, 65535, 131071, 262143, 524287, 1048575, 2097151, 4194303, 8388607, 16777215, 33554431, 67108863, 134217727, 134217727, 402653183, 1073741823, 2147483647, 4294967295] [[], [(0, 145)], [(1, 146)], [(2, 147), (1, 146)], [(3, 148)], [(4, 149)], [(4, 149), (5, 150)], [(6, 151), (4, 149)], [(7, 152)], [(8, 153)], [(8, 153), (9, 154)], [(10, 155), (8, 153)], [(11, 156)], [(12, 157)], [(12, 157)], [(12, 157), (14, 159)], [(12, 157), (15, 160), (13, 158)], [(16, 161), (12, 157)], [(17, 162)], [(18, 163)], [(18, 163), (19, 164)], [(20, 165), (18, 163)], [(21, 166)], [(22, 167)], [(22, 167), (23, 168)], [(24, 169), (22, 167)], [(25, 170)], [(26, 171)], [(26, 171)], [(26, 171), (28, 173)], [(26, 171), (29, 174), (27, 172)], [(30, 175), (26, 171)], [(31, 176)]] [(0, 145), (1, 146), (2, 147), (3, 148), (4, 149), (5, 150), (6, 151), (7, 152), (8, 153), (9, 154), (10, 155), (11, 156), (12, 157), (13, 158), (14, 159), (15, 160), (16, 161), (17, 162), (18, 163), (19, 164), (20, 165), (21, 166), (22, 167), (23, 168), (24, 169), (25, 170), (26, 171), (27, 172), (28, 173), (29, 174), (30, 175), (31, 176), (32, 0)] (by kernel_rfl) rfl rfl h19 osC0 osC1 ?ob ?en
              case ob =>
                refine ⟨?_, ?_, ?_, ?_, ?_, ?_, ?_, ?_, ?_, ?_, ?_, ?_, ?_, ?_, ?_, ?_, ?_, ?_, ?_, ?_, ?_, ?_, ?_, ?_, ?_, ?_, ?_, ?_, ?_, ?_, ?_, ?_, ?_, trivial⟩
                · -- 0: t145 := Op.move (t1)
                  intro zx1 zx2 zx3 zx4 L V W hL hd hw hst 
                  refine ob_c rfl ?_ hst rfl
                  go_simp
                  try with_reducible rfl
                · -- 1: t146 := Op.move (t145)
                  intro zx1 zx2 zx3 zx4 L V W hL hd hw hst u0 e0 p0
                  obtain rfl : u0 = _ := p0
                  refine ob_c rfl ?_ hst rfl
                  go_simp
                  try with_reducible rfl
                · -- 2: t147 := Op.move (t14)
                  intro zx1 zx2 zx3 zx4 L V W hL hd hw hst u1 e1 p1
                  obtain rfl : u1 = _ := p1
                  refine ob_c (by first | rfl | (simp [wantE, dstOf, zx1]; done)) ?_ hst rfl
                  go_simp
                  try with_reducible rfl
                · -- 3: t148 := Op.pick (t146) (t147) (const (bool false))
                  intro zx1 zx2 zx3 zx4 L V W hL hd hw hst u1 e1 p1 u2 e2 p2
                  obtain rfl : u1 = _ := p1
                  obtain rfl : u2 = _ := p2
                  refine ob_c rfl ?_ hst rfl
                  go_simp
                  try with_reducible rfl
                · -- 4: t149 := Op.move (t148)
                  intro zx1 zx2 zx3 zx4 L V W hL hd hw hst u3 e3 p3
                  obtain rfl : u3 = _ := p3
                  refine ob_c rfl ?_ hst rfl
                  go_simp
                  try with_reducible rfl
                · -- 5: t150 := Op.move (t16)
                  intro zx1 zx2 zx3 zx4 L V W hL hd hw hst u4 e4 p4
                  obtain rfl : u4 = _ := p4
                  refine ob_c (by first | rfl | (simp [wantE, dstOf, zx1]; done)) ?_ hst rfl
                  go_simp
                  try with_reducible rfl
                · -- 6: t151 := Op.binOp BinOp.eql 27 (t150) (const (int IntKind.i64 0)) 27
                  intro zx1 zx2 zx3 zx4 L V W hL hd hw hst u5 e5 p5 u4 e4 p4
                  obtain rfl : u5 = _ := p5
                  obtain rfl : u4 = _ := p4
                  refine ob_c (by first | rfl | (simp [wantE, dstOf, zx1]; done)) ?_ hst rfl
                  go_simp
                  try with_reducible rfl
                · -- 7: t152 := Op.pick (t149) (t151) (const (bool false))
                  intro zx1 zx2 zx3 zx4 L V W hL hd hw hst u4 e4 p4 u6 e6 p6
                  obtain rfl : u4 = _ := p4
                  obtain rfl : u6 = _ := p6
                  refine ob_c rfl ?_ hst rfl
                  go_simp
                  try with_reducible rfl
                · -- 8: t153 := Op.move (t152)
                  intro zx1 zx2 zx3 zx4 L V W hL hd hw hst u7 e7 p7
                  obtain rfl : u7 = _ := p7
                  refine ob_c rfl ?_ hst rfl
                  go_simp
                  try with_reducible rfl
                · -- 9: t154 := Op.move (t18)
                  intro zx1 zx2 zx3 zx4 L V W hL hd hw hst u8 e8 p8
                  obtain rfl : u8 = _ := p8
                  refine ob_c (by first | rfl | (simp [wantE, dstOf, zx1]; done)) ?_ hst rfl
                  go_simp
                  try with_reducible rfl
                · -- 10: t155 := Op.binOp BinOp.eql 27 (t154) (const (int IntKind.i64 300)) 27
                  intro zx1 zx2 zx3 zx4 L V W hL hd hw hst u9 e9 p9 u8 e8 p8
                  obtain rfl : u9 = _ := p9
                  obtain rfl : u8 = _ := p8
                  refine ob_c (by first | rfl | (simp [wantE, dstOf, zx1]; done)) ?_ hst rfl
                  go_simp
                  try with_reducible rfl
                · -- 11: t156 := Op.pick (t153) (t155) (const (bool false))
                  intro zx1 zx2 zx3 zx4 L V W hL hd hw hst u8 e8 p8 u10 e10 p10
                  obtain rfl : u8 = _ := p8
                  obtain rfl : u10 = _ := p10
                  refine ob_c rfl ?_ hst rfl
                  go_simp
                  try with_reducible rfl
                · -- 12: t157 := Op.move (t156)
                  intro zx1 zx2 zx3 zx4 L V W hL hd hw hst u11 e11 p11
                  obtain rfl : u11 = _ := p11
                  refine ob_c rfl ?_ hst rfl
                  go_simp
                  try with_reducible rfl
                · -- 13: t158 := Op.move (t19)
                  intro zx1 zx2 zx3 zx4 L V W hL hd hw hst u12 e12 p12
                  obtain rfl : u12 = _ := p12
                  refine ob_c (by first | rfl | (simp [wantE, dstOf, zx1]; done)) ?_ hst rfl
                  go_simp
                  try with_reducible rfl
                · -- 14: t159 := Op.buildSlice 96 2 #[(0, const (string { data := #[97] })), (1, const (string { data := #[98, 99] }))]
                  intro zx1 zx2 zx3 zx4 L V W hL hd hw hst u12 e12 p12
                  obtain rfl : u12 = _ := p12
                  refine ob_run (n := .value (.slice (some ⟨W.heap.size, 0, none⟩) 2 2)) (W' := W.alloc (.cells ([Value.string ⟨#[97]⟩, Value.string ⟨#[98, 99]⟩] : List Value).toArray 9)) (by first | rfl | (simp [wantE, dstOf, zx1]; done)) ?_ ?_
                  · go_simp
                    try rfl
                  · exact St.newRow hst 2 [Value.string ⟨#[97]⟩, Value.string ⟨#[98, 99]⟩] _ rfl (by unfold maxLen; omega)
                · -- 15: t160 := Op.call { callee := value (func 39), args := #[t159], argTypes := #[96] }
                  intro zx1 zx2 zx3 zx4 L V W hL hd hw hst u14 e14 p14 u12 e12 p12
                  obtain ⟨gr, rfl, kr⟩ := p14
                  obtain rfl : u12 = _ := p12
                  refine ob_call (by first | rfl | (simp [wantE, dstOf, zx1]; done)) ?_ (texts_p hst [⟨#[97]⟩, ⟨#[98, 99]⟩] (l := [[97], [98, 99]]) (n := 2) rfl rfl (kr.sub (mask_is _ _)) (by omega) (by decide))
                  go_simp
                  try rfl
                · -- 16: t161 := Op.call { callee := value (func 18), args := #[t158, t160], argTypes := #[22, 22] }
                  intro zx1 zx2 zx3 zx4 L V W hL hd hw hst u13 e13 p13 u15 e15 p15 u12 e12 p12
                  obtain rfl : u13 = _ := p13
                  obtain ⟨bl, ql, rfl, kl⟩ := p15
                  obtain rfl : u12 = _ := p12
                  refine ob_call (by first | rfl | (simp [wantE, dstOf, zx1]; done)) ?_ (same_p hst (a := [[97], [98, 99]]) (b := [[97], [98, 99]]) (decide_eq_true rfl) ((hst.base 6 rfl : IsLists _ _ _).sub (mask_is _ _)) (kl.sub (mask_is _ _)))
                  go_simp
                  try rfl
                · -- 17: t162 := Op.pick (t157) (t161) (const (bool false))
                  intro zx1 zx2 zx3 zx4 L V W hL hd hw hst u12 e12 p12 u16 e16 p16
                  obtain rfl : u12 = _ := p12
                  obtain rfl : u16 = _ := p16
                  refine ob_c rfl ?_ hst rfl
                  go_simp
                  try with_reducible rfl
                · -- 18: t163 := Op.move (t162)
                  intro zx1 zx2 zx3 zx4 L V W hL hd hw hst u17 e17 p17
                  obtain rfl : u17 = _ := p17
                  refine ob_c rfl ?_ hst rfl
                  go_simp
                  try with_reducible rfl
                · -- 19: t164 := Op.move (t22)
                  intro zx1 zx2 zx3 zx4 L V W hL hd hw hst u18 e18 p18
                  obtain rfl : u18 = _ := p18
                  refine ob_c (by first | rfl | (simp [wantE, dstOf, zx1]; done)) ?_ hst rfl
                  go_simp
                  try with_reducible rfl
                · -- 20: t165 := Op.binOp BinOp.eql 27 (t164) (const (int IntKind.i64 0)) 27
                  intro zx1 zx2 zx3 zx4 L V W hL hd hw hst u19 e19 p19 u18 e18 p18
                  obtain rfl : u19 = _ := p19
                  obtain rfl : u18 = _ := p18
                  refine ob_c (by first | rfl | (simp [wantE, dstOf, zx1]; done)) ?_ hst rfl
                  go_simp
                  try with_reducible rfl
                · -- 21: t166 := Op.pick (t163) (t165) (const (bool false))
                  intro zx1 zx2 zx3 zx4 L V W hL hd hw hst u18 e18 p18 u20 e20 p20
                  obtain rfl : u18 = _ := p18
                  obtain rfl : u20 = _ := p20
                  refine ob_c rfl ?_ hst rfl
                  go_simp
                  try with_reducible rfl
                · -- 22: t167 := Op.move (t166)
                  intro zx1 zx2 zx3 zx4 L V W hL hd hw hst u21 e21 p21
                  obtain rfl : u21 = _ := p21
                  refine ob_c rfl ?_ hst rfl
                  go_simp
                  try with_reducible rfl
                · -- 23: t168 := Op.move (t24)
                  intro zx1 zx2 zx3 zx4 L V W hL hd hw hst u22 e22 p22
                  obtain rfl : u22 = _ := p22
                  refine ob_c (by first | rfl | (simp [wantE, dstOf, zx1]; done)) ?_ hst rfl
                  go_simp
                  try with_reducible rfl
                · -- 24: t169 := Op.binOp BinOp.eql 27 (t168) (const (int IntKind.i64 300)) 27
                  intro zx1 zx2 zx3 zx4 L V W hL hd hw hst u23 e23 p23 u22 e22 p22
                  obtain rfl : u23 = _ := p23
                  obtain rfl : u22 = _ := p22
                  refine ob_c (by first | rfl | (simp [wantE, dstOf, zx1]; done)) ?_ hst rfl
                  go_simp
                  try with_reducible rfl
                · -- 25: t170 := Op.pick (t167) (t169) (const (bool false))
                  intro zx1 zx2 zx3 zx4 L V W hL hd hw hst u22 e22 p22 u24 e24 p24
                  obtain rfl : u22 = _ := p22
                  obtain rfl : u24 = _ := p24
                  refine ob_c rfl ?_ hst rfl
                  go_simp
                  try with_reducible rfl
                · -- 26: t171 := Op.move (t170)
                  intro zx1 zx2 zx3 zx4 L V W hL hd hw hst u25 e25 p25
                  obtain rfl : u25 = _ := p25
                  refine ob_c rfl ?_ hst rfl
                  go_simp
                  try with_reducible rfl
                · -- 27: t172 := Op.move (t25)
                  intro zx1 zx2 zx3 zx4 L V W hL hd hw hst u26 e26 p26
                  obtain rfl : u26 = _ := p26
                  refine ob_c (by first | rfl | (simp [wantE, dstOf, zx1]; done)) ?_ hst rfl
                  go_simp
                  try with_reducible rfl
                · -- 28: t173 := Op.buildSlice 96 3 #[(0, const (string { data := #[97] })), (1, const (string { data := #[98, 99] })), (2, const (string { data := #[100] }))]
                  intro zx1 zx2 zx3 zx4 L V W hL hd hw hst u26 e26 p26
                  obtain rfl : u26 = _ := p26
                  refine ob_run (n := .value (.slice (some ⟨W.heap.size, 0, none⟩) 3 3)) (W' := W.alloc (.cells ([Value.string ⟨#[97]⟩, Value.string ⟨#[98, 99]⟩, Value.string ⟨#[100]⟩] : List Value).toArray 9)) (by first | rfl | (simp [wantE, dstOf, zx1]; done)) ?_ ?_
                  · go_simp
                    try rfl
                  · exact St.newRow hst 3 [Value.string ⟨#[97]⟩, Value.string ⟨#[98, 99]⟩, Value.string ⟨#[100]⟩] _ rfl (by unfold maxLen; omega)
                · -- 29: t174 := Op.call { callee := value (func 39), args := #[t173], argTypes := #[96] }
                  intro zx1 zx2 zx3 zx4 L V W hL hd hw hst u28 e28 p28 u26 e26 p26
                  obtain ⟨gr, rfl, kr⟩ := p28
                  obtain rfl : u26 = _ := p26
                  refine ob_call (by first | rfl | (simp [wantE, dstOf, zx1]; done)) ?_ (texts_p hst [⟨#[97]⟩, ⟨#[98, 99]⟩, ⟨#[100]⟩] (l := [[97], [98, 99], [100]]) (n := 3) rfl rfl (kr.sub (mask_is _ _)) (by omega) (by decide))
                  go_simp
                  try rfl
                · -- 30: t175 := Op.call { callee := value (func 18), args := #[t172, t174], argTypes := #[22, 22] }
                  intro zx1 zx2 zx3 zx4 L V W hL hd hw hst u27 e27 p27 u29 e29 p29 u26 e26 p26
                  obtain rfl : u27 = _ := p27
                  obtain ⟨bl, ql, rfl, kl⟩ := p29
                  obtain rfl : u26 = _ := p26
                  refine ob_call (by first | rfl | (simp [wantE, dstOf, zx1]; done)) ?_ (same_p hst (a := [[97], [98, 99], [100]]) (b := [[97], [98, 99], [100]]) (decide_eq_true rfl) ((hst.base 0 rfl : IsLists _ _ _).sub (mask_is _ _)) (kl.sub (mask_is _ _)))
                  go_simp
                  try rfl
                · -- 31: t176 := Op.pick (t171) (t175) (const (bool false))
                  intro zx1 zx2 zx3 zx4 L V W hL hd hw hst u26 e26 p26 u30 e30 p30
                  obtain rfl : u26 = _ := p26
                  obtain rfl : u30 = _ := p30
                  refine ob_c rfl ?_ hst rfl
                  go_simp
                  try with_reducible rfl
                · -- 32: t0 := Op.assign (t176)
                  intro zx1 zx2 zx3 zx4 L V W hL hd hw hst u31 e31 p31
                  obtain rfl : u31 = _ := p31
                  refine ob_c rfl ?_ hst rfl
                  go_simp
                  try with_reducible rfl
              case en =>
                intro V W hst u0 e0 p0 u1 e1 p1 u2 e2 p2 u3 e3 p3 u4 e4 p4 u5 e5 p5 u6 e6 p6 u7 e7 p7 u8 e8 p8 u9 e9 p9 u10 e10 p10 u11 e11 p11 u12 e12 p12 u13 e13 p13 u14 e14 p14 u15 e15 p15 u16 e16 p16 u17 e17 p17 u18 e18 p18 u19 e19 p19 u20 e20 p20 u21 e21 p21 u22 e22 p22 u23 e23 p23 u24 e24 p24 u25 e25 p25 u26 e26 p26 u27 e27 p27 u28 e28 p28 u29 e29 p29 u30 e30 p30 u31 e31 p31 u32 e32 p32
                obtain rfl : u0 = _ := p0
                obtain rfl : u1 = _ := p1
                obtain rfl : u2 = _ := p2
                obtain rfl : u3 = _ := p3
                obtain rfl : u4 = _ := p4
                obtain rfl : u5 = _ := p5
                obtain rfl : u6 = _ := p6
                obtain rfl : u7 = _ := p7
                obtain rfl : u8 = _ := p8
                obtain rfl : u9 = _ := p9
                obtain rfl : u10 = _ := p10
                obtain rfl : u11 = _ := p11
                obtain rfl : u12 = _ := p12
                obtain rfl : u13 = _ := p13
                obtain ⟨gr, rfl, kr⟩ := p14
                obtain ⟨bl, ql, rfl, kl⟩ := p15
                obtain rfl : u16 = _ := p16
                obtain rfl : u17 = _ := p17
                obtain rfl : u18 = _ := p18
                obtain rfl : u19 = _ := p19
                obtain rfl : u20 = _ := p20
                obtain rfl : u21 = _ := p21
                obtain rfl : u22 = _ := p22
                obtain rfl : u23 = _ := p23
                obtain rfl : u24 = _ := p24
                obtain rfl : u25 = _ := p25
                obtain rfl : u26 = _ := p26
                obtain rfl : u27 = _ := p27
                obtain ⟨gr, rfl, kr⟩ := p28
                obtain ⟨bl, ql, rfl, kl⟩ := p29
                obtain rfl : u30 = _ := p30
                obtain rfl : u31 = _ := p31
                obtain rfl : u32 = _ := p32
                simp only [EndAll, Act.put, List.getElem_toArray, List.getElem_cons_succ, List.getElem_cons_zero, List.setIfInBounds_toArray, List.set_cons_zero, List.set_cons_succ]
                go_wp2_with fail
                go_ret
                exact ⟨rfl, hst.below⟩
end Go.Proofs.Ytnfgapdpnihicaa
