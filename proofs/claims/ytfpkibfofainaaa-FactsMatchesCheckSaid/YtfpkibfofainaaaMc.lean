/- The walk over FactsMatchesCheck. -/
import Derived.Test.YtfpkibfofainaaaEx13
import Derived.Test.YtfpkibfofainaaaRck
import Derived.Test.YtfpkibfofainaaaRsm
set_option linter.unusedVariables false
set_option linter.unusedSimpArgs false
namespace Go.Proofs.Ytfpkibfofainaaa
open Go.RowKit

theorem catalog_info : (Try.prog.info? 45).map (·.size) = some 4 := by kernel_rfl
theorem hasMax_sub {a b : World} (h : HasMax a) (k : Sub a b) : HasMax b := let ⟨m, hm⟩ := h; ⟨m, k _ _ hm⟩
theorem hasMax_mono : Mono HasMax := fun _ _ k h => hasMax_sub h k

set_option maxRecDepth 8000 in
set_option maxHeartbeats 4000000 in
theorem matchesCheck_walk (w : World) (hm : HasMax w) (tl : List Tb) (b : Option Addr) (q : Nat) (b1 b2 b3 : Option Addr) (n1 n2 n3 q1 q2 q3 : Nat) (ht : IsTbs w (.slice b tl.length q) tl)
    (f : Fc) (fb : Option Addr) (fc : Nat) (hf : IsVals w (.slice fb f.fields.length fc) f.fields) (g : Fc) (gb : Option Addr) (gc : Nat) (hg : IsVals w (.slice gb g.fields.length gc) g.fields) :
    Calls Try.prog 8 #[.agg #[.slice b tl.length q, .slice b1 n1 q1, .slice b2 n2 q2, .slice b3 n3 q3], f.val (.slice fb f.fields.length fc), g.val (.slice gb g.fields.length gc)] w fun e w' => e = .returned (.bool true) ∧ Below w.heap.size w w' := by
  have hc1 := fun w hm ht hf => check_any w b q tl (.slice b1 n1 q1) (.slice b2 n2 q2) (.slice b3 n3 q3) f fb fc hm ht hf
  have hc2 := fun w ht hf => refFactCheck_any w b q tl (.slice b1 n1 q1) (.slice b2 n2 q2) (.slice b3 n3 q3) f fb fc ht hf
  have hb1 := fun w => base_any w f (.slice fb f.fields.length fc)
  have hb2 := fun w => refBase_any w f (.slice fb f.fields.length fc)
  have hs1 := fun w hf hg => same_any w f g fb gb fc gc hf hg
  have hs2 := fun w hf hg => refSame_any w f g fb gb fc gc hf hg
  obtain ⟨ce, hce⟩ : ∃ e, chk tl f = e := ⟨_, rfl⟩
  obtain ⟨sv, hsv⟩ : ∃ e, decide (f = g) = e := ⟨_, rfl⟩
  rw [hce] at hc1 hc2
  rw [hsv] at hs1 hs2
  clear hce hsv
  obtain ⟨fs, fq, fk, fr, ft, fy, fe, fl⟩ := f
  obtain ⟨gs, gq, gk, gr, gt, gy, ge, gl⟩ := g
  simp only [Fc.val, Fc.cellsA, Fc.base] at *
  obtain ⟨bs, hbs⟩ : ∃ x, (if fk = 1 then fq else fr) = x := ⟨_, rfl⟩
  rw [hbs] at hb1 hb2
  obtain ⟨fn, hfn⟩ : ∃ n, fl.length = n := ⟨_, rfl⟩
  obtain ⟨gn, hgn⟩ : ∃ n, gl.length = n := ⟨_, rfl⟩
  obtain ⟨tn, htn⟩ : ∃ n, tl.length = n := ⟨_, rfl⟩
  rw [hfn] at hf hc1 hc2 hb1 hb2 hs1 hs2 ⊢
  rw [hgn] at hg hs1 hs2 ⊢
  rw [htn] at ht hc1 hc2 ⊢
  have h0 := (((((((St.start w).putOld hasMax_mono hm).putOld (P := (IsVals · (.slice gb gn gc) gl)) (Mono.seq rdVal_up _ _) hg).putOld (P := (IsVals · (.slice fb fn fc) fl)) (Mono.seq rdVal_up _ _) hf).putOld (P := (IsTbs · (.slice b tn q) tl)) (Mono.seq rdTb_up _ _) ht).alloc
    (.cells #[.slice b tn q, .slice b1 n1 q1, .slice b2 n2 q2, .slice b3 n3 q3] 45)).alloc (.cells #[.string fs, .int .i64 fq, .int .i64 fk, .int .i64 fr, .string ft, .string fy, .int .i64 fe, .slice fb fn fc] 27)).alloc (.cells #[.string gs, .int .i64 gq, .int .i64 gk, .int .i64 gr, .string gt, .string gy, .int .i64 ge, .slice gb gn gc] 27)
  simp only [al_size] at h0
  have HC1 := Lib.hid hc1
  have HC2 := Lib.hid hc2
  have HB1 := Lib.hid hb1
  have HB2 := Lib.hid hb2
  have HS1 := Lib.hid hs1
  have HS2 := Lib.hid hs2
  clear ht hf hg hc1 hc2 hb1 hb2 hs1 hs2 hbs hfn hgn htn
  go_enter Try.func8, Try.ntmps8
  go_wp2_with fail
  refine (Calls.sV h0 (example_any _ (hm.below h0.below rfl))).mono ?_
  rintro e w1 ⟨rfl, h1⟩
  clear h0
  go_upto_region 2 with fail
  refine wp_region_st [pVal ?c2_0, pVal ?c2_1, pVal (.agg #[.slice b tn q, .slice b1 n1 q1, .slice b2 n2 q2, .slice b3 n3 q3]), pVal (.agg #[.string fs, .int .i64 fq, .int .i64 fk, .int .i64 fr, .string ft, .string fy, .int .i64 fe, .slice fb fn fc]), pVal (.int .i64 ce), pVal (.agg #[.slice b tn q, .slice b1 n1 q1, .slice b2 n2 q2, .slice b3 n3 q3]), pVal (.agg #[.string fs, .int .i64 fq, .int .i64 fk, .int .i64 fr, .string ft, .string fy, .int .i64 fe, .slice fb fn fc]), pVal (.int .i64 ce), pVal ?c2_8, pVal ?c2_9, pVal ?c2_10, pVal (.agg #[.string fs, .int .i64 fq, .int .i64 fk, .int .i64 fr, .string ft, .string fy, .int .i64 fe, .slice fb fn fc]), pVal (.agg #[.string fs, .int .i64 bs]), pVal (.agg #[.string fs, .int .i64 fq, .int .i64 fk, .int .i64 fr, .string ft, .string fy, .int .i64 fe, .slice fb fn fc]), pVal (.agg #[.string fs, .int .i64 bs]), pVal ?c2_15, pVal ?c2_16, pVal ?c2_17, pVal (.agg #[.string fs, .int .i64 fq, .int .i64 fk, .int .i64 fr, .string ft, .string fy, .int .i64 fe, .slice fb fn fc]), pVal (.agg #[.string gs, .int .i64 gq, .int .i64 gk, .int .i64 gr, .string gt, .string gy, .int .i64 ge, .slice gb gn gc]), pVal (.bool sv), pVal (.agg #[.string fs, .int .i64 fq, .int .i64 fk, .int .i64 fr, .string ft, .string fy, .int .i64 fe, .slice fb fn fc]), pVal (.agg #[.string gs, .int .i64 gq, .int .i64 gk, .int .i64 gr, .string gt, .string gy, .int .i64 ge, .slice gb gn gc]), pVal (.bool sv), pVal (.bool true), pVal ?c2_25, pVal ?c2_26] (osC [((w.heap.size + 2), .cells #[.string gs, .int .i64 gq, .int .i64 gk, .int .i64 gr, .string gt, .string gy, .int .i64 ge, .slice gb gn gc] 27 (0, 0)), ((w.heap.size + 1), .cells #[.string fs, .int .i64 fq, .int .i64 fk, .int .i64 fr, .string ft, .string fy, .int .i64 fe, .slice fb fn fc] 27 (0, 0)), (w.heap.size, .cells #[.slice b tn q, .slice b1 n1 q1, .slice b2 n2 q2, .slice b3 n3 q3] 45 (0, 0))]) 35 [0, 1, 3, 3, 15, 3, 3, 127, 255, 511, 1023, 2047, 4095, 2047, 16383, 32767, 65535, 131071, 262143, 262143, 1048575, 262143, 262143, 8388607, 16777215, 33554431, 67108863] [[], [(0, 9)], [(1, 10)], [(1, 10)], [(1, 10), (3, 12), (2, 11)], [(1, 10)], [(1, 10)], [(1, 10), (6, 15), (5, 14)], [(1, 10), (7, 16), (4, 13)], [(8, 17), (1, 10)], [(9, 18)], [(10, 19)], [(10, 19), (11, 20)], [(10, 19)], [(10, 19), (13, 22)], [(10, 19), (14, 23), (12, 21)], [(15, 24), (10, 19)], [(16, 25)], [(17, 26)], [(17, 26)], [(17, 26), (19, 28), (18, 27)], [(17, 26)], [(17, 26)], [(17, 26), (22, 31), (21, 30)], [(17, 26), (23, 32), (20, 29)], [(24, 33), (17, 26)], [(25, 34)]] [(0, 9), (1, 10), (2, 11), (3, 12), (4, 13), (5, 14), (6, 15), (7, 16), (8, 17), (9, 18), (10, 19), (11, 20), (12, 21), (13, 22), (14, 23), (15, 24), (16, 25), (17, 26), (18, 27), (19, 28), (20, 29), (21, 30), (22, 31), (23, 32), (24, 33), (25, 34), (26, 6)] (by kernel_rfl) (by kernel_rfl) rfl rfl h1 osC0 osC1 ?ob ?en
  case ob =>
    refine ⟨?_, ?_, ?_, ?_, ?_, ?_, ?_, ?_, ?_, ?_, ?_, ?_, ?_, ?_, ?_, ?_, ?_, ?_, ?_, ?_, ?_, ?_, ?_, ?_, ?_, ?_, ?_, trivial⟩
    · -- 0: t9 := Op.move (t7)
      intro zx1 zx2 zx3 zx4 L V W hL hd hw hst 
      refine ob_c rfl ?_ hst rfl
      go_simp
      try with_reducible rfl
    · -- 1: t10 := Op.move (t9)
      intro zx1 zx2 zx3 zx4 L V W hL hd hw hst u0 e0 p0
      obtain rfl : u0 = _ := p0
      refine ob_c rfl ?_ hst rfl
      go_simp
      try with_reducible rfl
    · -- 2: t11 := Op.load 45 (t3)
      intro zx1 zx2 zx3 zx4 L V W hL hd hw hst u1 e1 p1
      obtain rfl : u1 = _ := p1
      exact ob_v _ (by first | rfl | (simp [wantE, dstOf, zx1]; done)) (run_load_own rfl rfl (hst.find (g := w.heap.size) (o := .cells #[.slice b tn q, .slice b1 n1 q1, .slice b2 n2 q2, .slice b3 n3 q3] 45 (0, 0)) (by simp [osC])) Try.underlying45 rfl catalog_info) hst rfl rfl
    · -- 3: t12 := Op.load 27 (t4)
      intro zx1 zx2 zx3 zx4 L V W hL hd hw hst u1 e1 p1
      obtain rfl : u1 = _ := p1
      exact ob_v _ (by first | rfl | (simp [wantE, dstOf, zx1]; done)) (run_load_own rfl rfl (hst.find (g := (w.heap.size + 1)) (o := .cells #[.string fs, .int .i64 fq, .int .i64 fk, .int .i64 fr, .string ft, .string fy, .int .i64 fe, .slice fb fn fc] 27 (0, 0)) (by simp [osC])) Try.underlying27 rfl fact_info) hst rfl rfl
    · -- 4: t13 := Op.call { callee := value (func 21), args := #[t11, t12], argTypes := #[45, 27] }
      intro zx1 zx2 zx3 zx4 L V W hL hd hw hst u2 e2 p2 u3 e3 p3 u1 e1 p1
      obtain rfl : u2 = _ := p2
      obtain rfl : u3 = _ := p3
      obtain rfl : u1 = _ := p1
      refine ob_call (by first | rfl | (simp [wantE, dstOf, zx1]; done)) ?_ (Calls.pV hst (HC1.out _ (hasMax_sub (hst.base 3 rfl) (mask_is _ _)) ((hst.base 0 rfl : IsTbs _ _ _).sub rdTb_up (mask_is _ _)) ((hst.base 1 rfl : IsVals _ _ _).sub rdVal_up (mask_is _ _))))
      go_simp
      try rfl
    · -- 5: t14 := Op.load 45 (t3)
      intro zx1 zx2 zx3 zx4 L V W hL hd hw hst u1 e1 p1
      obtain rfl : u1 = _ := p1
      exact ob_v _ (by first | rfl | (simp [wantE, dstOf, zx1]; done)) (run_load_own rfl rfl (hst.find (g := w.heap.size) (o := .cells #[.slice b tn q, .slice b1 n1 q1, .slice b2 n2 q2, .slice b3 n3 q3] 45 (0, 0)) (by simp [osC])) Try.underlying45 rfl catalog_info) hst rfl rfl
    · -- 6: t15 := Op.load 27 (t4)
      intro zx1 zx2 zx3 zx4 L V W hL hd hw hst u1 e1 p1
      obtain rfl : u1 = _ := p1
      exact ob_v _ (by first | rfl | (simp [wantE, dstOf, zx1]; done)) (run_load_own rfl rfl (hst.find (g := (w.heap.size + 1)) (o := .cells #[.string fs, .int .i64 fq, .int .i64 fk, .int .i64 fr, .string ft, .string fy, .int .i64 fe, .slice fb fn fc] 27 (0, 0)) (by simp [osC])) Try.underlying27 rfl fact_info) hst rfl rfl
    · -- 7: t16 := Op.call { callee := value (func 25), args := #[t14, t15], argTypes := #[45, 27] }
      intro zx1 zx2 zx3 zx4 L V W hL hd hw hst u5 e5 p5 u6 e6 p6 u1 e1 p1
      obtain rfl : u5 = _ := p5
      obtain rfl : u6 = _ := p6
      obtain rfl : u1 = _ := p1
      refine ob_call (by first | rfl | (simp [wantE, dstOf, zx1]; done)) ?_ (Calls.pV hst (HC2.out _ ((hst.base 0 rfl : IsTbs _ _ _).sub rdTb_up (mask_is _ _)) ((hst.base 1 rfl : IsVals _ _ _).sub rdVal_up (mask_is _ _))))
      go_simp
      try rfl
    · -- 8: t17 := Op.binOp BinOp.eql 31 (t13) (t16) 31
      intro zx1 zx2 zx3 zx4 L V W hL hd hw hst u4 e4 p4 u7 e7 p7 u1 e1 p1
      obtain rfl : u4 = _ := p4
      obtain rfl : u7 = _ := p7
      obtain rfl : u1 = _ := p1
      refine ob_c (by first | rfl | (simp [wantE, dstOf, zx1]; done)) ?_ hst rfl
      go_simp
      try with_reducible rfl
    · -- 9: t18 := Op.pick (t10) (t17) (const (bool false))
      intro zx1 zx2 zx3 zx4 L V W hL hd hw hst u1 e1 p1 u8 e8 p8
      obtain rfl : u1 = _ := p1
      obtain rfl : u8 = _ := p8
      refine ob_c rfl ?_ hst rfl
      go_simp
      try with_reducible rfl
    · -- 10: t19 := Op.move (t18)
      intro zx1 zx2 zx3 zx4 L V W hL hd hw hst u9 e9 p9
      obtain rfl : u9 = _ := p9
      refine ob_c rfl ?_ hst rfl
      go_simp
      try with_reducible rfl
    · -- 11: t20 := Op.load 27 (t4)
      intro zx1 zx2 zx3 zx4 L V W hL hd hw hst u10 e10 p10
      obtain rfl : u10 = _ := p10
      exact ob_v _ (by first | rfl | (simp [wantE, dstOf, zx1]; done)) (run_load_own rfl rfl (hst.find (g := (w.heap.size + 1)) (o := .cells #[.string fs, .int .i64 fq, .int .i64 fk, .int .i64 fr, .string ft, .string fy, .int .i64 fe, .slice fb fn fc] 27 (0, 0)) (by simp [osC])) Try.underlying27 rfl fact_info) hst rfl rfl
    · -- 12: t21 := Op.call { callee := value (func 20), args := #[t20], argTypes := #[27] }
      intro zx1 zx2 zx3 zx4 L V W hL hd hw hst u11 e11 p11 u10 e10 p10
      obtain rfl : u11 = _ := p11
      obtain rfl : u10 = _ := p10
      refine ob_call (by first | rfl | (simp [wantE, dstOf, zx1]; done)) ?_ (Calls.pV hst (HB1.out _))
      go_simp
      try rfl
    · -- 13: t22 := Op.load 27 (t4)
      intro zx1 zx2 zx3 zx4 L V W hL hd hw hst u10 e10 p10
      obtain rfl : u10 = _ := p10
      exact ob_v _ (by first | rfl | (simp [wantE, dstOf, zx1]; done)) (run_load_own rfl rfl (hst.find (g := (w.heap.size + 1)) (o := .cells #[.string fs, .int .i64 fq, .int .i64 fk, .int .i64 fr, .string ft, .string fy, .int .i64 fe, .slice fb fn fc] 27 (0, 0)) (by simp [osC])) Try.underlying27 rfl fact_info) hst rfl rfl
    · -- 14: t23 := Op.call { callee := value (func 26), args := #[t22], argTypes := #[27] }
      intro zx1 zx2 zx3 zx4 L V W hL hd hw hst u13 e13 p13 u10 e10 p10
      obtain rfl : u13 = _ := p13
      obtain rfl : u10 = _ := p10
      refine ob_call (by first | rfl | (simp [wantE, dstOf, zx1]; done)) ?_ (Calls.pV hst (HB2.out _))
      go_simp
      try rfl
    · -- 15: t24 := Op.binOp BinOp.eql 24 (t21) (t23) 24
      intro zx1 zx2 zx3 zx4 L V W hL hd hw hst u12 e12 p12 u14 e14 p14 u10 e10 p10
      obtain rfl : u12 = _ := p12
      obtain rfl : u14 = _ := p14
      obtain rfl : u10 = _ := p10
      refine ob_c (by first | rfl | (simp [wantE, dstOf, zx1]; done)) ?_ hst rfl
      go_simp
      try with_reducible rfl
    · -- 16: t25 := Op.pick (t19) (t24) (const (bool false))
      intro zx1 zx2 zx3 zx4 L V W hL hd hw hst u10 e10 p10 u15 e15 p15
      obtain rfl : u10 = _ := p10
      obtain rfl : u15 = _ := p15
      refine ob_c rfl ?_ hst rfl
      go_simp
      try with_reducible rfl
    · -- 17: t26 := Op.move (t25)
      intro zx1 zx2 zx3 zx4 L V W hL hd hw hst u16 e16 p16
      obtain rfl : u16 = _ := p16
      refine ob_c rfl ?_ hst rfl
      go_simp
      try with_reducible rfl
    · -- 18: t27 := Op.load 27 (t4)
      intro zx1 zx2 zx3 zx4 L V W hL hd hw hst u17 e17 p17
      obtain rfl : u17 = _ := p17
      exact ob_v _ (by first | rfl | (simp [wantE, dstOf, zx1]; done)) (run_load_own rfl rfl (hst.find (g := (w.heap.size + 1)) (o := .cells #[.string fs, .int .i64 fq, .int .i64 fk, .int .i64 fr, .string ft, .string fy, .int .i64 fe, .slice fb fn fc] 27 (0, 0)) (by simp [osC])) Try.underlying27 rfl fact_info) hst rfl rfl
    · -- 19: t28 := Op.load 27 (t5)
      intro zx1 zx2 zx3 zx4 L V W hL hd hw hst u17 e17 p17
      obtain rfl : u17 = _ := p17
      exact ob_v _ (by first | rfl | (simp [wantE, dstOf, zx1]; done)) (run_load_own rfl rfl (hst.find (g := (w.heap.size + 2)) (o := .cells #[.string gs, .int .i64 gq, .int .i64 gk, .int .i64 gr, .string gt, .string gy, .int .i64 ge, .slice gb gn gc] 27 (0, 0)) (by simp [osC])) Try.underlying27 rfl fact_info) hst rfl rfl
    · -- 20: t29 := Op.call { callee := value (func 17), args := #[t27, t28], argTypes := #[27, 27] }
      intro zx1 zx2 zx3 zx4 L V W hL hd hw hst u18 e18 p18 u19 e19 p19 u17 e17 p17
      obtain rfl : u18 = _ := p18
      obtain rfl : u19 = _ := p19
      obtain rfl : u17 = _ := p17
      refine ob_call (by first | rfl | (simp [wantE, dstOf, zx1]; done)) ?_ (Calls.pV hst (HS1.out _ ((hst.base 1 rfl : IsVals _ _ _).sub rdVal_up (mask_is _ _)) ((hst.base 2 rfl : IsVals _ _ _).sub rdVal_up (mask_is _ _))))
      go_simp
      try rfl
    · -- 21: t30 := Op.load 27 (t4)
      intro zx1 zx2 zx3 zx4 L V W hL hd hw hst u17 e17 p17
      obtain rfl : u17 = _ := p17
      exact ob_v _ (by first | rfl | (simp [wantE, dstOf, zx1]; done)) (run_load_own rfl rfl (hst.find (g := (w.heap.size + 1)) (o := .cells #[.string fs, .int .i64 fq, .int .i64 fk, .int .i64 fr, .string ft, .string fy, .int .i64 fe, .slice fb fn fc] 27 (0, 0)) (by simp [osC])) Try.underlying27 rfl fact_info) hst rfl rfl
    · -- 22: t31 := Op.load 27 (t5)
      intro zx1 zx2 zx3 zx4 L V W hL hd hw hst u17 e17 p17
      obtain rfl : u17 = _ := p17
      exact ob_v _ (by first | rfl | (simp [wantE, dstOf, zx1]; done)) (run_load_own rfl rfl (hst.find (g := (w.heap.size + 2)) (o := .cells #[.string gs, .int .i64 gq, .int .i64 gk, .int .i64 gr, .string gt, .string gy, .int .i64 ge, .slice gb gn gc] 27 (0, 0)) (by simp [osC])) Try.underlying27 rfl fact_info) hst rfl rfl
    · -- 23: t32 := Op.call { callee := value (func 27), args := #[t30, t31], argTypes := #[27, 27] }
      intro zx1 zx2 zx3 zx4 L V W hL hd hw hst u21 e21 p21 u22 e22 p22 u17 e17 p17
      obtain rfl : u21 = _ := p21
      obtain rfl : u22 = _ := p22
      obtain rfl : u17 = _ := p17
      refine ob_call (by first | rfl | (simp [wantE, dstOf, zx1]; done)) ?_ (Calls.pV hst (HS2.out _ ((hst.base 1 rfl : IsVals _ _ _).sub rdVal_up (mask_is _ _)) ((hst.base 2 rfl : IsVals _ _ _).sub rdVal_up (mask_is _ _))))
      go_simp
      try rfl
    · -- 24: t33 := Op.binOp BinOp.eql 4 (t29) (t32) 4
      intro zx1 zx2 zx3 zx4 L V W hL hd hw hst u20 e20 p20 u23 e23 p23 u17 e17 p17
      obtain rfl : u20 = _ := p20
      obtain rfl : u23 = _ := p23
      obtain rfl : u17 = _ := p17
      refine ob_c (by first | rfl | (simp [wantE, dstOf, zx1]; done)) ?_ hst rfl
      go_simp
    · -- 25: t34 := Op.pick (t26) (t33) (const (bool false))
      intro zx1 zx2 zx3 zx4 L V W hL hd hw hst u17 e17 p17 u24 e24 p24
      obtain rfl : u17 = _ := p17
      obtain rfl : u24 = _ := p24
      refine ob_c rfl ?_ hst rfl
      go_simp
      try with_reducible rfl
    · -- 26: t6 := Op.assign (t34)
      intro zx1 zx2 zx3 zx4 L V W hL hd hw hst u25 e25 p25
      obtain rfl : u25 = _ := p25
      refine ob_c rfl ?_ hst rfl
      go_simp
      try with_reducible rfl
  case en =>
    intro V W hst u0 e0 p0 u1 e1 p1 u2 e2 p2 u3 e3 p3 u4 e4 p4 u5 e5 p5 u6 e6 p6 u7 e7 p7 u8 e8 p8 u9 e9 p9 u10 e10 p10 u11 e11 p11 u12 e12 p12 u13 e13 p13 u14 e14 p14 u15 e15 p15 u16 e16 p16 u17 e17 p17 u18 e18 p18 u19 e19 p19 u20 e20 p20 u21 e21 p21 u22 e22 p22 u23 e23 p23 u24 e24 p24 u25 e25 p25 u26 e26 p26
    obtain rfl : u0 = _ := p0
    obtain rfl : u1 = _ := p1
    obtain rfl : u2 = _ := p2
    obtain rfl : u3 = _ := p3
    obtain rfl : u4 = _ := p4
    obtain rfl : u5 = _ := p5
    obtain rfl : u6 = _ := p6
    obtain rfl : u7 = _ := p7
    obtain rfl : u8 = _ := p8
    obtain rfl : u9 = _ := p9
    obtain rfl : u10 = _ := p10
    obtain rfl : u11 = _ := p11
    obtain rfl : u12 = _ := p12
    obtain rfl : u13 = _ := p13
    obtain rfl : u14 = _ := p14
    obtain rfl : u15 = _ := p15
    obtain rfl : u16 = _ := p16
    obtain rfl : u17 = _ := p17
    obtain rfl : u18 = _ := p18
    obtain rfl : u19 = _ := p19
    obtain rfl : u20 = _ := p20
    obtain rfl : u21 = _ := p21
    obtain rfl : u22 = _ := p22
    obtain rfl : u23 = _ := p23
    obtain rfl : u24 = _ := p24
    obtain rfl : u25 = _ := p25
    obtain rfl : u26 = _ := p26
    simp only [EndAll, Act.put, List.getElem_toArray, List.getElem_cons_succ, List.getElem_cons_zero, List.setIfInBounds_toArray, List.set_cons_zero, List.set_cons_succ]
    go_wp2_with fail
    go_ret
    exact ⟨rfl, hst.below⟩
end Go.Proofs.Ytfpkibfofainaaa
