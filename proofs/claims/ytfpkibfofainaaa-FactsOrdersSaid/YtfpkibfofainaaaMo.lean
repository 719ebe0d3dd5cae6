/- The references of the orders, and the walk over FactsMatchesOrder. -/
import Derived.Test.YtfpkibfofainaaaCid
import Derived.Test.YtfpkibfofainaaaEx13
set_option linter.unusedVariables false
set_option linter.unusedSimpArgs false
namespace Go.Proofs.Ytfpkibfofainaaa
open Go.RowKit

theorem row_info : (Try.prog.info? 64).map (·.size) = some 8 := by kernel_rfl
theorem refCompare_any (w : World) (a b : Int) : Calls Try.prog 59 #[.int .i64 a, .int .i64 b] w fun e w' => e = .returned (.int .i64 (cmpI a b)) ∧ w' = w := by
  obtain ⟨r, hr⟩ : ∃ r, cmpI a b = r := ⟨_, rfl⟩
  have HR := Lib.hid hr
  rw [hr]
  clear hr
  go_enter Try.func59, Try.ntmps59
  by_cases h1 : a < b
  · go_wp2_with fail
    go_ret
    exact ⟨by rw [← HR.out]; simp [cmpI, h1], rfl⟩
  · by_cases h2 : b < a
    · go_wp2_with fail
      go_ret
      exact ⟨by rw [← HR.out]; simp [cmpI, h1, h2], rfl⟩
    · have hr : r = 0 := by rw [← HR.out]; unfold cmpI; rw [if_neg h1, if_neg h2]
      subst hr
      go_wp2_with fail
      go_ret
      exact ⟨rfl, rfl⟩

set_option maxRecDepth 8000 in
set_option maxHeartbeats 1000000 in
theorem refCompareID_any (w : World) (sa : ByteArray) (qa : Int) (sb : ByteArray) (qb : Int) : Calls Try.prog 29 #[.agg #[.string sa, .int .i64 qa], .agg #[.string sb, .int .i64 qb]] w fun e w' => e = .returned (.int .i64 (cmpID sa qa sb qb)) ∧ Below w.heap.size w w' := by
  obtain ⟨r, hr⟩ : ∃ r, cmpID sa qa sb qb = r := ⟨_, rfl⟩
  rw [hr]
  have h0 := ((St.start w).alloc (.cells #[.string sa, .int .i64 qa] 24)).alloc (.cells #[.string sb, .int .i64 qb] 24)
  simp only [al_size] at h0
  go_enter Try.func29, Try.ntmps29
  cases h1 : Op.bytesLess sa.toList sb.toList with
  | true =>
    have hc : cmpS sa sb = -1 := by unfold cmpS cmpL; rw [if_pos h1]
    have hr2 : r = -1 := by rw [← hr]; unfold cmpID lexI; rw [hc]; rfl
    have HR2 := Lib.hid hr2
    clear hr hr2 hc
    go_wp2_with fail
    go_ret
    exact ⟨by rw [HR2.out]; rfl, h0.below⟩
  | false =>
    by_cases h2 : sa = sb
    · have hc : cmpS sa sb = 0 := by unfold cmpS cmpL; rw [h1, if_neg (by decide), if_pos (by rw [h2])]
      have h3 : (sa.toList == sb.toList) = true := by simp [h2]
      have hr2 : r = cmpI qa qb := by rw [← hr]; unfold cmpID lexI; rw [hc, if_pos rfl]
      have HR2 := Lib.hid hr2
      clear hr hr2 hc h2
      go_wp2_with fail
      refine (refCompare_any _ qa qb).mono ?_
      rintro e w1 ⟨rfl, rfl⟩
      rw [← HR2.out]
      go_wp2_with fail
      go_ret
      exact ⟨rfl, h0.below⟩
    · have hc : cmpS sa sb = 1 := by unfold cmpS cmpL; rw [h1, if_neg (by decide), if_neg (by rw [toList_inj]; exact h2)]
      have h3 : (sa.toList == sb.toList) = false := by simp [toList_inj, h2]
      have hr2 : r = 1 := by rw [← hr]; unfold cmpID lexI; rw [hc]; rfl
      have HR2 := Lib.hid hr2
      clear hr hr2 hc h2
      go_wp2_with fail
      go_ret
      exact ⟨by rw [HR2.out]; rfl, h0.below⟩

set_option maxRecDepth 8000 in
set_option maxHeartbeats 1000000 in
theorem refCompareRow_any (w : World) (sa : ByteArray) (qa : Int) (ta ka : ByteArray) (ea : Int) (ba : Option Addr) (na ca : Nat) (oa ia : Int) (sb : ByteArray) (qb : Int) (tb kb : ByteArray) (eb : Int) (bb : Option Addr) (nb cb : Nat) (ob ib : Int) :
    Calls Try.prog 31 #[.agg #[.string sa, .int .i64 qa, .string ta, .string ka, .int .i64 ea, .slice ba na ca, .int .i64 oa, .int .i64 ia], .agg #[.string sb, .int .i64 qb, .string tb, .string kb, .int .i64 eb, .slice bb nb cb, .int .i64 ob, .int .i64 ib]] w fun e w' => e = .returned (.int .i64 (lexI (cmpI ea eb) (cmpID sa qa sb qb))) ∧ Below w.heap.size w w' := by
  obtain ⟨r, hr⟩ : ∃ r, lexI (cmpI ea eb) (cmpID sa qa sb qb) = r := ⟨_, rfl⟩
  rw [hr]
  have HR := Lib.hid hr
  clear hr
  have h0 := ((St.start w).alloc (.cells #[.string sa, .int .i64 qa, .string ta, .string ka, .int .i64 ea, .slice ba na ca, .int .i64 oa, .int .i64 ia] 64)).alloc (.cells #[.string sb, .int .i64 qb, .string tb, .string kb, .int .i64 eb, .slice bb nb cb, .int .i64 ob, .int .i64 ib] 64)
  simp only [al_size] at h0
  go_enter Try.func31, Try.ntmps31
  go_wp2_with fail
  refine (refCompare_any _ ea eb).mono ?_
  rintro e w1 ⟨rfl, rfl⟩
  obtain ⟨c, hc⟩ : ∃ c, cmpI ea eb = c := ⟨_, rfl⟩
  rw [hc]
  by_cases hz : c = 0
  · subst hz
    have hr : r = cmpID sa qa sb qb := by rw [← HR.out, hc]; unfold lexI; rw [if_pos rfl]
    have HR2 := Lib.hid hr
    clear hr hc
    go_wp2_with fail
    refine (Calls.sV h0 (refCompareID_any _ sa qa sb qb)).mono ?_
    rintro e w1 ⟨rfl, h1⟩
    rw [← HR2.out]
    go_wp2_with fail
    go_ret
    exact ⟨rfl, h1.below⟩
  · have hr : r = c := by rw [← HR.out, hc]; unfold lexI; rw [if_neg hz]
    have hz' := bne_of hz
    clear hc
    subst hr
    go_wp2_with fail
    go_ret
    exact ⟨rfl, h0.below⟩

set_option maxRecDepth 8000 in
set_option maxHeartbeats 1000000 in
theorem matchesOrder_walk (w : World) (hm : HasMax w) (sa : ByteArray) (qa : Int) (ta ka : ByteArray) (ea : Int) (ba : Option Addr) (na ca : Nat) (oa ia : Int) (sb : ByteArray) (qb : Int) (tb kb : ByteArray) (eb : Int) (bb : Option Addr) (nb cb : Nat) (ob ib : Int) :
    Calls Try.prog 9 #[.agg #[.string sa, .int .i64 qa, .string ta, .string ka, .int .i64 ea, .slice ba na ca, .int .i64 oa, .int .i64 ia], .agg #[.string sb, .int .i64 qb, .string tb, .string kb, .int .i64 eb, .slice bb nb cb, .int .i64 ob, .int .i64 ib]] w fun e w' => e = .returned (.bool true) ∧ Below w.heap.size w w' := by
  obtain ⟨r1, hr1⟩ : ∃ r, cmpID sa qa sb qb = r := ⟨_, rfl⟩
  obtain ⟨r2, hr2⟩ : ∃ r, lexI (cmpI ea eb) (cmpID sa qa sb qb) = r := ⟨_, rfl⟩
  have HR1 := Lib.hid hr1
  have HR2 := Lib.hid hr2
  clear hr1 hr2
  have h0 := ((St.start w).alloc (.cells #[.string sa, .int .i64 qa, .string ta, .string ka, .int .i64 ea, .slice ba na ca, .int .i64 oa, .int .i64 ia] 64)).alloc (.cells #[.string sb, .int .i64 qb, .string tb, .string kb, .int .i64 eb, .slice bb nb cb, .int .i64 ob, .int .i64 ib] 64)
  simp only [al_size] at h0
  go_enter Try.func9, Try.ntmps9
  go_wp2_with fail
  refine (Calls.sV h0 (example_any _ (hm.below h0.below rfl))).mono ?_
  rintro e w1 ⟨rfl, h1⟩
  clear h0
  go_upto_region 2 with fail
  refine wp_region_st [pVal ?c9_0, pVal ?c9_1, pVal ?c9_2, pVal ?c9_3, pVal ?c9_4, pVal ?c9_5, pVal (.int .i64 r1), pVal ?c9_7, pVal ?c9_8, pVal ?c9_9, pVal ?c9_10, pVal (.int .i64 r1), pVal ?c9_12, pVal ?c9_13, pVal ?c9_14, pVal (.agg #[.string sa, .int .i64 qa, .string ta, .string ka, .int .i64 ea, .slice ba na ca, .int .i64 oa, .int .i64 ia]), pVal (.agg #[.string sb, .int .i64 qb, .string tb, .string kb, .int .i64 eb, .slice bb nb cb, .int .i64 ob, .int .i64 ib]), pVal (.int .i64 r2), pVal (.agg #[.string sa, .int .i64 qa, .string ta, .string ka, .int .i64 ea, .slice ba na ca, .int .i64 oa, .int .i64 ia]), pVal (.agg #[.string sb, .int .i64 qb, .string tb, .string kb, .int .i64 eb, .slice bb nb cb, .int .i64 ob, .int .i64 ib]), pVal (.int .i64 r2), pVal ?c9_21, pVal ?c9_22, pVal ?c9_23] (osC [(w.heap.size + 1, .cells #[.string sb, .int .i64 qb, .string tb, .string kb, .int .i64 eb, .slice bb nb cb, .int .i64 ob, .int .i64 ib] 64 (0, 0)), (w.heap.size, .cells #[.string sa, .int .i64 qa, .string ta, .string ka, .int .i64 ea, .slice ba na ca, .int .i64 oa, .int .i64 ia] 64 (0, 0))]) 30 [0, 1, 3, 7, 3, 19, 63, 3, 131, 3, 515, 2047, 4095, 8191, 16383, 32767, 32767, 131071, 32767, 32767, 1048575, 2097151, 4194303, 8388607] [[], [(0, 7)], [(1, 8)], [(1, 8), (2, 9)], [(1, 8)], [(1, 8), (4, 11)], [(1, 8), (5, 12), (3, 10)], [(1, 8)], [(1, 8), (7, 14)], [(1, 8)], [(1, 8), (9, 16)], [(1, 8), (10, 17), (8, 15)], [(1, 8), (11, 18), (6, 13)], [(12, 19), (1, 8)], [(13, 20)], [(14, 21)], [(14, 21)], [(14, 21), (16, 23), (15, 22)], [(14, 21)], [(14, 21)], [(14, 21), (19, 26), (18, 25)], [(14, 21), (20, 27), (17, 24)], [(21, 28), (14, 21)], [(22, 29)]] [(0, 7), (1, 8), (2, 9), (3, 10), (4, 11), (5, 12), (6, 13), (7, 14), (8, 15), (9, 16), (10, 17), (11, 18), (12, 19), (13, 20), (14, 21), (15, 22), (16, 23), (17, 24), (18, 25), (19, 26), (20, 27), (21, 28), (22, 29), (23, 4)] (by kernel_rfl) (by kernel_rfl) rfl rfl h1 osC0 osC1 ?ob ?en
  case ob =>
    refine ⟨?_, ?_, ?_, ?_, ?_, ?_, ?_, ?_, ?_, ?_, ?_, ?_, ?_, ?_, ?_, ?_, ?_, ?_, ?_, ?_, ?_, ?_, ?_, ?_, trivial⟩
    · -- 0: t7 := Op.move (t5)
      intro zx1 zx2 zx3 zx4 L V W hL hd hw hst 
      refine ob_c rfl ?_ hst rfl
      go_simp
      try with_reducible rfl
    · -- 1: t8 := Op.move (t7)
      intro zx1 zx2 zx3 zx4 L V W hL hd hw hst u0 e0 p0
      obtain rfl : u0 = _ := p0
      refine ob_c rfl ?_ hst rfl
      go_simp
      try with_reducible rfl
    · -- 2: t9 := Op.fieldAddr 64 (t2) 0
      intro zx1 zx2 zx3 zx4 L V W hL hd hw hst u1 e1 p1
      obtain rfl : u1 = _ := p1
      refine ob_c (by first | rfl | (simp [wantE, dstOf, zx1]; done)) ?_ hst rfl
      go_simp
      try with_reducible rfl
    · -- 3: t10 := Op.load 24 (t9)
      intro zx1 zx2 zx3 zx4 L V W hL hd hw hst u2 e2 p2 u1 e1 p1
      obtain rfl : u2 = _ := p2
      obtain rfl : u1 = _ := p1
      obtain ⟨y0, y1, y2, y3, y4, y5, y6, y7⟩ := cells8 (hst.find (g := w.heap.size) (o := .cells #[.string sa, .int .i64 qa, .string ta, .string ka, .int .i64 ea, .slice ba na ca, .int .i64 oa, .int .i64 ia] 64 (0, 0)) (by simp [osC]))
      refine ob_c (by first | rfl | (simp [wantE, dstOf, zx1]; done)) ?_ hst rfl
      go_simp
      try with_reducible rfl
    · -- 4: t11 := Op.fieldAddr 64 (t3) 0
      intro zx1 zx2 zx3 zx4 L V W hL hd hw hst u1 e1 p1
      obtain rfl : u1 = _ := p1
      refine ob_c (by first | rfl | (simp [wantE, dstOf, zx1]; done)) ?_ hst rfl
      go_simp
      try with_reducible rfl
    · -- 5: t12 := Op.load 24 (t11)
      intro zx1 zx2 zx3 zx4 L V W hL hd hw hst u4 e4 p4 u1 e1 p1
      obtain rfl : u4 = _ := p4
      obtain rfl : u1 = _ := p1
      obtain ⟨y0, y1, y2, y3, y4, y5, y6, y7⟩ := cells8 (hst.find (g := (w.heap.size + 1)) (o := .cells #[.string sb, .int .i64 qb, .string tb, .string kb, .int .i64 eb, .slice bb nb cb, .int .i64 ob, .int .i64 ib] 64 (0, 0)) (by simp [osC]))
      refine ob_c (by first | rfl | (simp [wantE, dstOf, zx1]; done)) ?_ hst rfl
      go_simp
      try with_reducible rfl
    · -- 6: t13 := Op.call { callee := value (func 28), args := #[t10, t12], argTypes := #[24, 24] }
      intro zx1 zx2 zx3 zx4 L V W hL hd hw hst u3 e3 p3 u5 e5 p5 u1 e1 p1
      obtain rfl : u3 = _ := p3
      obtain rfl : u5 = _ := p5
      obtain rfl : u1 = _ := p1
      refine ob_call (by first | rfl | (simp [wantE, dstOf, zx1]; done)) ?_ (Calls.pV hst (HR1.out ▸ compareID_any _ sa qa sb qb))
      go_simp
      try rfl
    · -- 7: t14 := Op.fieldAddr 64 (t2) 0
      intro zx1 zx2 zx3 zx4 L V W hL hd hw hst u1 e1 p1
      obtain rfl : u1 = _ := p1
      refine ob_c (by first | rfl | (simp [wantE, dstOf, zx1]; done)) ?_ hst rfl
      go_simp
      try with_reducible rfl
    · -- 8: t15 := Op.load 24 (t14)
      intro zx1 zx2 zx3 zx4 L V W hL hd hw hst u7 e7 p7 u1 e1 p1
      obtain rfl : u7 = _ := p7
      obtain rfl : u1 = _ := p1
      obtain ⟨y0, y1, y2, y3, y4, y5, y6, y7⟩ := cells8 (hst.find (g := w.heap.size) (o := .cells #[.string sa, .int .i64 qa, .string ta, .string ka, .int .i64 ea, .slice ba na ca, .int .i64 oa, .int .i64 ia] 64 (0, 0)) (by simp [osC]))
      refine ob_c (by first | rfl | (simp [wantE, dstOf, zx1]; done)) ?_ hst rfl
      go_simp
      try with_reducible rfl
    · -- 9: t16 := Op.fieldAddr 64 (t3) 0
      intro zx1 zx2 zx3 zx4 L V W hL hd hw hst u1 e1 p1
      obtain rfl : u1 = _ := p1
      refine ob_c (by first | rfl | (simp [wantE, dstOf, zx1]; done)) ?_ hst rfl
      go_simp
      try with_reducible rfl
    · -- 10: t17 := Op.load 24 (t16)
      intro zx1 zx2 zx3 zx4 L V W hL hd hw hst u9 e9 p9 u1 e1 p1
      obtain rfl : u9 = _ := p9
      obtain rfl : u1 = _ := p1
      obtain ⟨y0, y1, y2, y3, y4, y5, y6, y7⟩ := cells8 (hst.find (g := (w.heap.size + 1)) (o := .cells #[.string sb, .int .i64 qb, .string tb, .string kb, .int .i64 eb, .slice bb nb cb, .int .i64 ob, .int .i64 ib] 64 (0, 0)) (by simp [osC]))
      refine ob_c (by first | rfl | (simp [wantE, dstOf, zx1]; done)) ?_ hst rfl
      go_simp
      try with_reducible rfl
    · -- 11: t18 := Op.call { callee := value (func 29), args := #[t15, t17], argTypes := #[24, 24] }
      intro zx1 zx2 zx3 zx4 L V W hL hd hw hst u8 e8 p8 u10 e10 p10 u1 e1 p1
      obtain rfl : u8 = _ := p8
      obtain rfl : u10 = _ := p10
      obtain rfl : u1 = _ := p1
      refine ob_call (by first | rfl | (simp [wantE, dstOf, zx1]; done)) ?_ (Calls.pV hst (HR1.out ▸ refCompareID_any _ sa qa sb qb))
      go_simp
      try rfl
    · -- 12: t19 := Op.binOp BinOp.eql 3 (t13) (t18) 3
      intro zx1 zx2 zx3 zx4 L V W hL hd hw hst u6 e6 p6 u11 e11 p11 u1 e1 p1
      obtain rfl : u6 = _ := p6
      obtain rfl : u11 = _ := p11
      obtain rfl : u1 = _ := p1
      refine ob_c (by first | rfl | (simp [wantE, dstOf, zx1]; done)) ?_ hst rfl
      go_simp
      try with_reducible rfl
    · -- 13: t20 := Op.pick (t8) (t19) (const (bool false))
      intro zx1 zx2 zx3 zx4 L V W hL hd hw hst u1 e1 p1 u12 e12 p12
      obtain rfl : u1 = _ := p1
      obtain rfl : u12 = _ := p12
      refine ob_c rfl ?_ hst rfl
      go_simp
      try with_reducible rfl
    · -- 14: t21 := Op.move (t20)
      intro zx1 zx2 zx3 zx4 L V W hL hd hw hst u13 e13 p13
      obtain rfl : u13 = _ := p13
      refine ob_c rfl ?_ hst rfl
      go_simp
      try with_reducible rfl
    · -- 15: t22 := Op.load 64 (t2)
      intro zx1 zx2 zx3 zx4 L V W hL hd hw hst u14 e14 p14
      obtain rfl : u14 = _ := p14
      exact ob_v _ (by first | rfl | (simp [wantE, dstOf, zx1]; done)) (run_load_own rfl rfl (hst.find (g := w.heap.size) (o := .cells #[.string sa, .int .i64 qa, .string ta, .string ka, .int .i64 ea, .slice ba na ca, .int .i64 oa, .int .i64 ia] 64 (0, 0)) (by simp [osC])) Try.underlying64 rfl row_info) hst rfl rfl
    · -- 16: t23 := Op.load 64 (t3)
      intro zx1 zx2 zx3 zx4 L V W hL hd hw hst u14 e14 p14
      obtain rfl : u14 = _ := p14
      exact ob_v _ (by first | rfl | (simp [wantE, dstOf, zx1]; done)) (run_load_own rfl rfl (hst.find (g := (w.heap.size + 1)) (o := .cells #[.string sb, .int .i64 qb, .string tb, .string kb, .int .i64 eb, .slice bb nb cb, .int .i64 ob, .int .i64 ib] 64 (0, 0)) (by simp [osC])) Try.underlying64 rfl row_info) hst rfl rfl
    · -- 17: t24 := Op.call { callee := value (func 30), args := #[t22, t23], argTypes := #[64, 64] }
      intro zx1 zx2 zx3 zx4 L V W hL hd hw hst u15 e15 p15 u16 e16 p16 u14 e14 p14
      obtain rfl : u15 = _ := p15
      obtain rfl : u16 = _ := p16
      obtain rfl : u14 = _ := p14
      refine ob_call (by first | rfl | (simp [wantE, dstOf, zx1]; done)) ?_ (Calls.pV hst (HR2.out ▸ compareRow_any _ sa qa ta ka ea ba na ca oa ia sb qb tb kb eb bb nb cb ob ib))
      go_simp
      try rfl
    · -- 18: t25 := Op.load 64 (t2)
      intro zx1 zx2 zx3 zx4 L V W hL hd hw hst u14 e14 p14
      obtain rfl : u14 = _ := p14
      exact ob_v _ (by first | rfl | (simp [wantE, dstOf, zx1]; done)) (run_load_own rfl rfl (hst.find (g := w.heap.size) (o := .cells #[.string sa, .int .i64 qa, .string ta, .string ka, .int .i64 ea, .slice ba na ca, .int .i64 oa, .int .i64 ia] 64 (0, 0)) (by simp [osC])) Try.underlying64 rfl row_info) hst rfl rfl
    · -- 19: t26 := Op.load 64 (t3)
      intro zx1 zx2 zx3 zx4 L V W hL hd hw hst u14 e14 p14
      obtain rfl : u14 = _ := p14
      exact ob_v _ (by first | rfl | (simp [wantE, dstOf, zx1]; done)) (run_load_own rfl rfl (hst.find (g := (w.heap.size + 1)) (o := .cells #[.string sb, .int .i64 qb, .string tb, .string kb, .int .i64 eb, .slice bb nb cb, .int .i64 ob, .int .i64 ib] 64 (0, 0)) (by simp [osC])) Try.underlying64 rfl row_info) hst rfl rfl
    · -- 20: t27 := Op.call { callee := value (func 31), args := #[t25, t26], argTypes := #[64, 64] }
      intro zx1 zx2 zx3 zx4 L V W hL hd hw hst u18 e18 p18 u19 e19 p19 u14 e14 p14
      obtain rfl : u18 = _ := p18
      obtain rfl : u19 = _ := p19
      obtain rfl : u14 = _ := p14
      refine ob_call (by first | rfl | (simp [wantE, dstOf, zx1]; done)) ?_ (Calls.pV hst (HR2.out ▸ refCompareRow_any _ sa qa ta ka ea ba na ca oa ia sb qb tb kb eb bb nb cb ob ib))
      go_simp
      try rfl
    · -- 21: t28 := Op.binOp BinOp.eql 3 (t24) (t27) 3
      intro zx1 zx2 zx3 zx4 L V W hL hd hw hst u17 e17 p17 u20 e20 p20 u14 e14 p14
      obtain rfl : u17 = _ := p17
      obtain rfl : u20 = _ := p20
      obtain rfl : u14 = _ := p14
      refine ob_c (by first | rfl | (simp [wantE, dstOf, zx1]; done)) ?_ hst rfl
      go_simp
      try with_reducible rfl
    · -- 22: t29 := Op.pick (t21) (t28) (const (bool false))
      intro zx1 zx2 zx3 zx4 L V W hL hd hw hst u14 e14 p14 u21 e21 p21
      obtain rfl : u14 = _ := p14
      obtain rfl : u21 = _ := p21
      refine ob_c rfl ?_ hst rfl
      go_simp
      try with_reducible rfl
    · -- 23: t4 := Op.assign (t29)
      intro zx1 zx2 zx3 zx4 L V W hL hd hw hst u22 e22 p22
      obtain rfl : u22 = _ := p22
      refine ob_c rfl ?_ hst rfl
      go_simp
      try with_reducible rfl
  case en =>
    intro V W hst u0 e0 p0 u1 e1 p1 u2 e2 p2 u3 e3 p3 u4 e4 p4 u5 e5 p5 u6 e6 p6 u7 e7 p7 u8 e8 p8 u9 e9 p9 u10 e10 p10 u11 e11 p11 u12 e12 p12 u13 e13 p13 u14 e14 p14 u15 e15 p15 u16 e16 p16 u17 e17 p17 u18 e18 p18 u19 e19 p19 u20 e20 p20 u21 e21 p21 u22 e22 p22 u23 e23 p23
    obtain rfl : u0 = _ := p0
    obtain rfl : u1 = _ := p1
    obtain rfl : u2 = _ := p2
    obtain rfl : u3 = _ := p3
    obtain rfl : u4 = _ := p4
    obtain rfl : u5 = _ := p5
    obtain rfl : u6 = _ := p6
    obtain rfl : u7 = _ := p7
    obtain rfl : u8 = _ := p8
    obtain rfl : u9 = _ := p9
    obtain rfl : u10 = _ := p10
    obtain rfl : u11 = _ := p11
    obtain rfl : u12 = _ := p12
    obtain rfl : u13 = _ := p13
    obtain rfl : u14 = _ := p14
    obtain rfl : u15 = _ := p15
    obtain rfl : u16 = _ := p16
    obtain rfl : u17 = _ := p17
    obtain rfl : u18 = _ := p18
    obtain rfl : u19 = _ := p19
    obtain rfl : u20 = _ := p20
    obtain rfl : u21 = _ := p21
    obtain rfl : u22 = _ := p22
    obtain rfl : u23 = _ := p23
    simp only [EndAll, Act.put, List.getElem_toArray, List.getElem_cons_succ, List.getElem_cons_zero, List.setIfInBounds_toArray, List.set_cons_zero, List.set_cons_succ]
    go_wp2_with fail
    go_ret
    exact ⟨rfl, hst.below⟩
end Go.Proofs.Ytfpkibfofainaaa
