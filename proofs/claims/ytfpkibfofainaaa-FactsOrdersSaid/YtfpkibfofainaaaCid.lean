/- The walks over facts.CompareID and CompareRow. -/
import Derived.Test.YtfpkibfofainaaaCmp
import Derived.Test.YtfpkibfofainaaaRegC
import Derived.Test.YtfpkibfofainaaaAsr
set_option linter.unusedVariables false
set_option linter.unusedSimpArgs false
namespace Go.Proofs.Ytfpkibfofainaaa
open Go.RowKit

theorem cells2c {W : World} {g : Nat} {a b : Value} {t : TypeId} (h : W.heap[g]? = some (.cells #[a, b] t (0, 0))) : W.cell? ⟨g, 0, none⟩ = some a ∧ W.cell? ⟨g, 1, none⟩ = some b := by
  constructor <;> rw [cell_of_row _ _ _ _ _ _ h] <;> rfl
def pTwo (x y : Int) : Pd := ⟨fun v w => ∃ g, v = .slice (some ⟨g, 0, none⟩) 2 2 ∧ w.cell? ⟨g, 0, none⟩ = some (.int .i64 x) ∧ w.cell? ⟨g, 1, none⟩ = some (.int .i64 y), fun _ _ _ h ⟨g, e, k1, k2⟩ => ⟨g, e, h _ _ k1, h _ _ k2⟩⟩
theorem St.newTwo {w0 W : World} {os : List (Nat × Obj)} {F : List (World → Prop)} (h : St w0 W os F) (x y : Int) (T : TypeId) :
    St w0 (W.alloc (.cells #[.int .i64 x, .int .i64 y] T)) os ((pTwo x y).p (.slice (some ⟨W.heap.size, 0, none⟩) 2 2) :: F) := by
  have h1 := h.alloc (.cells #[.int .i64 x, .int .i64 y] T)
  obtain ⟨c0, c1⟩ := cells2c (heap_alloc_new W (.cells #[.int .i64 x, .int .i64 y] T))
  have hS : inL (keys os) W.heap.size = false := inL_no.2 fun hm => Nat.lt_irrefl _ (h.lt _ hm)
  refine (St.loose (os1 := []) h1).put ((pTwo x y).mono _) ⟨_, rfl, ?_, ?_⟩
  · rw [World.cell?_of_block (w := W.alloc _) (mask_block _ _ _ hS)]; exact c0
  · rw [World.cell?_of_block (w := W.alloc _) (mask_block _ _ _ hS)]; exact c1
def cmpID (sa : ByteArray) (qa : Int) (sb : ByteArray) (qb : Int) : Int := lexI (cmpS sa sb) (cmpI qa qb)
theorem cmpL_same (a : List UInt8) : cmpL a a = 0 := by
  have : Op.bytesLess a a = false := by
    induction a with
    | nil => rfl
    | cons x t ih => simp [Op.bytesLess, ih]
  unfold cmpL
  rw [this, if_neg (by decide), if_pos rfl]
theorem cmpI_same (a : Int) : cmpI a a = 0 := by unfold cmpI; rw [if_neg (by omega), if_neg (by omega)]

set_option maxRecDepth 8000 in
set_option maxHeartbeats 1000000 in
theorem compareID_any (w : World) (sa : ByteArray) (qa : Int) (sb : ByteArray) (qb : Int) : Calls Try.prog 28 #[.agg #[.string sa, .int .i64 qa], .agg #[.string sb, .int .i64 qb]] w fun e w' => e = .returned (.int .i64 (cmpID sa qa sb qb)) ∧ Below w.heap.size w w' := by
  obtain ⟨r, hr⟩ : ∃ r, cmpID sa qa sb qb = r := ⟨_, rfl⟩
  have HR := Lib.hid hr
  rw [hr]
  have h0 := ((St.start w).alloc (.cells #[.string sa, .int .i64 qa] 24)).alloc (.cells #[.string sb, .int .i64 qb] 24)
  simp only [al_size] at h0
  go_enter Try.func28, Try.ntmps28
  by_cases he : sa = sb ∧ qa = qb
  · obtain ⟨rfl, rfl⟩ := he
    have hr0 : r = 0 := by rw [← hr]; unfold cmpID cmpS lexI; rw [cmpL_same, if_pos rfl, cmpI_same]
    clear hr
    subst hr0
    go_wp2_with fail
    go_ret
    exact ⟨rfl, h0.below⟩
  · have hne : (sa.toList = sb.toList ∧ ¬ qa = qb) ∨ ¬ sa.toList = sb.toList := by
      by_cases h1 : sa = sb
      · exact .inl ⟨by rw [h1], fun h2 => he ⟨h1, h2⟩⟩
      · exact .inr fun h => h1 (toList_inj.1 h)
    clear he
    unfold cmpID at hr
    subst hr
    rcases hne with ⟨k1, k2⟩ | k1
    case inl =>
      go_upto_region 3 with fail
      clear k1 k2
      refine wp_region_st [pVal ?c28a_0, pVal ?c28a_1, pVal ?c28a_2, pVal ?c28a_3, pVal (.int .i64 (cmpS sa sb)), pVal ?c28a_5, pVal ?c28a_6, pVal ?c28a_7, pVal ?c28a_8, pVal (.int .i64 (cmpI qa qb)), pTwo (cmpS sa sb) (cmpI qa qb), pVal (.int .i64 (lexI (cmpS sa sb) (cmpI qa qb))), pVal ?c28a_12] (osC [(w.heap.size + 1, .cells #[.string sb, .int .i64 qb] 24 (0, 0)), (w.heap.size, .cells #[.string sa, .int .i64 qa] 24 (0, 0))]) 20 [0, 1, 0, 4, 15, 0, 32, 0, 128, 511, 1023, 2047, 4095] [[], [(0, 8)], [], [(2, 10)], [(3, 11), (1, 9)], [], [(5, 13)], [], [(7, 15)], [(8, 16), (6, 14)], [(9, 17), (4, 12)], [(10, 18)], [(11, 19)]] [(0, 8), (1, 9), (2, 10), (3, 11), (4, 12), (5, 13), (6, 14), (7, 15), (8, 16), (9, 17), (10, 18), (11, 19), (12, 4)] (by kernel_rfl) (by kernel_rfl) rfl rfl h0 osC0 osC1 ?ob ?en
      case ob =>
        refine ⟨?_, ?_, ?_, ?_, ?_, ?_, ?_, ?_, ?_, ?_, ?_, ?_, ?_, trivial⟩
        · -- 0: t8 := Op.fieldAddr 24 (t2) 0
          intro zx1 zx2 zx3 zx4 L V W hL hd hw hst 
          refine ob_c rfl ?_ hst rfl
          go_simp
          try with_reducible rfl
        · -- 1: t9 := Op.load 9 (t8)
          intro zx1 zx2 zx3 zx4 L V W hL hd hw hst u0 e0 p0
          obtain rfl : u0 = _ := p0
          obtain ⟨y0, y1⟩ := cells2c (hst.find (g := w.heap.size) (o := .cells #[.string sa, .int .i64 qa] 24 (0, 0)) (by simp [osC]))
          refine ob_c rfl ?_ hst rfl
          go_simp
          try with_reducible rfl
        · -- 2: t10 := Op.fieldAddr 24 (t3) 0
          intro zx1 zx2 zx3 zx4 L V W hL hd hw hst 
          refine ob_c rfl ?_ hst rfl
          go_simp
          try with_reducible rfl
        · -- 3: t11 := Op.load 9 (t10)
          intro zx1 zx2 zx3 zx4 L V W hL hd hw hst u2 e2 p2
          obtain rfl : u2 = _ := p2
          obtain ⟨y0, y1⟩ := cells2c (hst.find (g := (w.heap.size + 1)) (o := .cells #[.string sb, .int .i64 qb] 24 (0, 0)) (by simp [osC]))
          refine ob_c rfl ?_ hst rfl
          go_simp
          try with_reducible rfl
        · -- 4: t12 := Op.call { callee := value (func 57), args := #[t9, t11], argTypes := #[9, 9] }
          intro zx1 zx2 zx3 zx4 L V W hL hd hw hst u1 e1 p1 u3 e3 p3
          obtain rfl : u1 = _ := p1
          obtain rfl : u3 = _ := p3
          refine ob_call rfl ?_ (Calls.pV' hst (compareS_any _ sa sb))
          go_simp
        · -- 5: t13 := Op.fieldAddr 24 (t2) 1
          intro zx1 zx2 zx3 zx4 L V W hL hd hw hst 
          refine ob_c rfl ?_ hst rfl
          go_simp
          try with_reducible rfl
        · -- 6: t14 := Op.load 3 (t13)
          intro zx1 zx2 zx3 zx4 L V W hL hd hw hst u5 e5 p5
          obtain rfl : u5 = _ := p5
          obtain ⟨y0, y1⟩ := cells2c (hst.find (g := w.heap.size) (o := .cells #[.string sa, .int .i64 qa] 24 (0, 0)) (by simp [osC]))
          refine ob_c rfl ?_ hst rfl
          go_simp
          try with_reducible rfl
        · -- 7: t15 := Op.fieldAddr 24 (t3) 1
          intro zx1 zx2 zx3 zx4 L V W hL hd hw hst 
          refine ob_c rfl ?_ hst rfl
          go_simp
          try with_reducible rfl
        · -- 8: t16 := Op.load 3 (t15)
          intro zx1 zx2 zx3 zx4 L V W hL hd hw hst u7 e7 p7
          obtain rfl : u7 = _ := p7
          obtain ⟨y0, y1⟩ := cells2c (hst.find (g := (w.heap.size + 1)) (o := .cells #[.string sb, .int .i64 qb] 24 (0, 0)) (by simp [osC]))
          refine ob_c rfl ?_ hst rfl
          go_simp
          try with_reducible rfl
        · -- 9: t17 := Op.call { callee := value (func 58), args := #[t14, t16], argTypes := #[3, 3] }
          intro zx1 zx2 zx3 zx4 L V W hL hd hw hst u6 e6 p6 u8 e8 p8
          obtain rfl : u6 = _ := p6
          obtain rfl : u8 = _ := p8
          refine ob_call rfl ?_ (Calls.pV' hst (compareI_any _ qa qb))
          go_simp
        · -- 10: t18 := Op.buildSlice 111 2 #[(0, t12), (1, t17)]
          intro zx1 zx2 zx3 zx4 L V W hL hd hw hst u4 e4 p4 u9 e9 p9
          obtain rfl : u4 = _ := p4
          obtain rfl : u9 = _ := p9
          refine ob_run (n := .value (.slice (some ⟨W.heap.size, 0, none⟩) 2 2)) (W' := W.alloc (.cells #[.int .i64 (cmpS sa sb), .int .i64 (cmpI qa qb)] 3)) rfl ?_ ?_
          · go_simp
            try rfl
          · exact St.newTwo hst _ _ _
        · -- 11: t19 := Op.call { callee := value (func 56), args := #[t18], argTypes := #[111] }
          intro zx1 zx2 zx3 zx4 L V W hL hd hw hst u10 e10 p10
          obtain ⟨gx, rfl, hx, hy⟩ := p10
          refine ob_call rfl ?_ (Calls.pV' hst (or_any _ _ _ _ (mask_is _ _ _ _ hx) (mask_is _ _ _ _ hy)))
          go_simp
        · -- 12: t4 := Op.assign (t19)
          intro zx1 zx2 zx3 zx4 L V W hL hd hw hst u11 e11 p11
          obtain rfl : u11 = _ := p11
          refine ob_c rfl ?_ hst rfl
          go_simp
          try with_reducible rfl
      case en =>
        intro V W hst u0 e0 p0 u1 e1 p1 u2 e2 p2 u3 e3 p3 u4 e4 p4 u5 e5 p5 u6 e6 p6 u7 e7 p7 u8 e8 p8 u9 e9 p9 u10 e10 p10 u11 e11 p11 u12 e12 p12
        obtain rfl : u0 = _ := p0
        obtain rfl : u1 = _ := p1
        obtain rfl : u2 = _ := p2
        obtain rfl : u3 = _ := p3
        obtain rfl : u4 = _ := p4
        obtain rfl : u5 = _ := p5
        obtain rfl : u6 = _ := p6
        obtain rfl : u7 = _ := p7
        obtain rfl : u8 = _ := p8
        obtain rfl : u9 = _ := p9
        obtain ⟨gx, rfl, hx, hy⟩ := p10
        obtain rfl : u11 = _ := p11
        obtain rfl : u12 = _ := p12
        simp only [EndAll, Act.put, List.getElem_toArray, List.getElem_cons_succ, List.getElem_cons_zero, List.setIfInBounds_toArray, List.set_cons_zero, List.set_cons_succ]
        go_wp2_with fail
        go_ret
        exact ⟨rfl, hst.below⟩
    case inr =>
      go_upto_region 3 with fail
      clear k1
      refine wp_region_st [pVal ?c28b_0, pVal ?c28b_1, pVal ?c28b_2, pVal ?c28b_3, pVal (.int .i64 (cmpS sa sb)), pVal ?c28b_5, pVal ?c28b_6, pVal ?c28b_7, pVal ?c28b_8, pVal (.int .i64 (cmpI qa qb)), pTwo (cmpS sa sb) (cmpI qa qb), pVal (.int .i64 (lexI (cmpS sa sb) (cmpI qa qb))), pVal ?c28b_12] (osC [(w.heap.size + 1, .cells #[.string sb, .int .i64 qb] 24 (0, 0)), (w.heap.size, .cells #[.string sa, .int .i64 qa] 24 (0, 0))]) 20 [0, 1, 0, 4, 15, 0, 32, 0, 128, 511, 1023, 2047, 4095] [[], [(0, 8)], [], [(2, 10)], [(3, 11), (1, 9)], [], [(5, 13)], [], [(7, 15)], [(8, 16), (6, 14)], [(9, 17), (4, 12)], [(10, 18)], [(11, 19)]] [(0, 8), (1, 9), (2, 10), (3, 11), (4, 12), (5, 13), (6, 14), (7, 15), (8, 16), (9, 17), (10, 18), (11, 19), (12, 4)] (by kernel_rfl) (by kernel_rfl) rfl rfl h0 osC0 osC1 ?ob ?en
      case ob =>
        refine ⟨?_, ?_, ?_, ?_, ?_, ?_, ?_, ?_, ?_, ?_, ?_, ?_, ?_, trivial⟩
        · -- 0: t8 := Op.fieldAddr 24 (t2) 0
          intro zx1 zx2 zx3 zx4 L V W hL hd hw hst 
          refine ob_c rfl ?_ hst rfl
          go_simp
          try with_reducible rfl
        · -- 1: t9 := Op.load 9 (t8)
          intro zx1 zx2 zx3 zx4 L V W hL hd hw hst u0 e0 p0
          obtain rfl : u0 = _ := p0
          obtain ⟨y0, y1⟩ := cells2c (hst.find (g := w.heap.size) (o := .cells #[.string sa, .int .i64 qa] 24 (0, 0)) (by simp [osC]))
          refine ob_c rfl ?_ hst rfl
          go_simp
          try with_reducible rfl
        · -- 2: t10 := Op.fieldAddr 24 (t3) 0
          intro zx1 zx2 zx3 zx4 L V W hL hd hw hst 
          refine ob_c rfl ?_ hst rfl
          go_simp
          try with_reducible rfl
        · -- 3: t11 := Op.load 9 (t10)
          intro zx1 zx2 zx3 zx4 L V W hL hd hw hst u2 e2 p2
          obtain rfl : u2 = _ := p2
          obtain ⟨y0, y1⟩ := cells2c (hst.find (g := (w.heap.size + 1)) (o := .cells #[.string sb, .int .i64 qb] 24 (0, 0)) (by simp [osC]))
          refine ob_c rfl ?_ hst rfl
          go_simp
          try with_reducible rfl
        · -- 4: t12 := Op.call { callee := value (func 57), args := #[t9, t11], argTypes := #[9, 9] }
          intro zx1 zx2 zx3 zx4 L V W hL hd hw hst u1 e1 p1 u3 e3 p3
          obtain rfl : u1 = _ := p1
          obtain rfl : u3 = _ := p3
          refine ob_call rfl ?_ (Calls.pV' hst (compareS_any _ sa sb))
          go_simp
        · -- 5: t13 := Op.fieldAddr 24 (t2) 1
          intro zx1 zx2 zx3 zx4 L V W hL hd hw hst 
          refine ob_c rfl ?_ hst rfl
          go_simp
          try with_reducible rfl
        · -- 6: t14 := Op.load 3 (t13)
          intro zx1 zx2 zx3 zx4 L V W hL hd hw hst u5 e5 p5
          obtain rfl : u5 = _ := p5
          obtain ⟨y0, y1⟩ := cells2c (hst.find (g := w.heap.size) (o := .cells #[.string sa, .int .i64 qa] 24 (0, 0)) (by simp [osC]))
          refine ob_c rfl ?_ hst rfl
          go_simp
          try with_reducible rfl
        · -- 7: t15 := Op.fieldAddr 24 (t3) 1
          intro zx1 zx2 zx3 zx4 L V W hL hd hw hst 
          refine ob_c rfl ?_ hst rfl
          go_simp
          try with_reducible rfl
        · -- 8: t16 := Op.load 3 (t15)
          intro zx1 zx2 zx3 zx4 L V W hL hd hw hst u7 e7 p7
          obtain rfl : u7 = _ := p7
          obtain ⟨y0, y1⟩ := cells2c (hst.find (g := (w.heap.size + 1)) (o := .cells #[.string sb, .int .i64 qb] 24 (0, 0)) (by simp [osC]))
          refine ob_c rfl ?_ hst rfl
          go_simp
          try with_reducible rfl
        · -- 9: t17 := Op.call { callee := value (func 58), args := #[t14, t16], argTypes := #[3, 3] }
          intro zx1 zx2 zx3 zx4 L V W hL hd hw hst u6 e6 p6 u8 e8 p8
          obtain rfl : u6 = _ := p6
          obtain rfl : u8 = _ := p8
          refine ob_call rfl ?_ (Calls.pV' hst (compareI_any _ qa qb))
          go_simp
        · -- 10: t18 := Op.buildSlice 111 2 #[(0, t12), (1, t17)]
          intro zx1 zx2 zx3 zx4 L V W hL hd hw hst u4 e4 p4 u9 e9 p9
          obtain rfl : u4 = _ := p4
          obtain rfl : u9 = _ := p9
          refine ob_run (n := .value (.slice (some ⟨W.heap.size, 0, none⟩) 2 2)) (W' := W.alloc (.cells #[.int .i64 (cmpS sa sb), .int .i64 (cmpI qa qb)] 3)) rfl ?_ ?_
          · go_simp
            try rfl
          · exact St.newTwo hst _ _ _
        · -- 11: t19 := Op.call { callee := value (func 56), args := #[t18], argTypes := #[111] }
          intro zx1 zx2 zx3 zx4 L V W hL hd hw hst u10 e10 p10
          obtain ⟨gx, rfl, hx, hy⟩ := p10
          refine ob_call rfl ?_ (Calls.pV' hst (or_any _ _ _ _ (mask_is _ _ _ _ hx) (mask_is _ _ _ _ hy)))
          go_simp
        · -- 12: t4 := Op.assign (t19)
          intro zx1 zx2 zx3 zx4 L V W hL hd hw hst u11 e11 p11
          obtain rfl : u11 = _ := p11
          refine ob_c rfl ?_ hst rfl
          go_simp
          try with_reducible rfl
      case en =>
        intro V W hst u0 e0 p0 u1 e1 p1 u2 e2 p2 u3 e3 p3 u4 e4 p4 u5 e5 p5 u6 e6 p6 u7 e7 p7 u8 e8 p8 u9 e9 p9 u10 e10 p10 u11 e11 p11 u12 e12 p12
        obtain rfl : u0 = _ := p0
        obtain rfl : u1 = _ := p1
        obtain rfl : u2 = _ := p2
        obtain rfl : u3 = _ := p3
        obtain rfl : u4 = _ := p4
        obtain rfl : u5 = _ := p5
        obtain rfl : u6 = _ := p6
        obtain rfl : u7 = _ := p7
        obtain rfl : u8 = _ := p8
        obtain rfl : u9 = _ := p9
        obtain ⟨gx, rfl, hx, hy⟩ := p10
        obtain rfl : u11 = _ := p11
        obtain rfl : u12 = _ := p12
        simp only [EndAll, Act.put, List.getElem_toArray, List.getElem_cons_succ, List.getElem_cons_zero, List.setIfInBounds_toArray, List.set_cons_zero, List.set_cons_succ]
        go_wp2_with fail
        go_ret
        exact ⟨rfl, hst.below⟩
set_option maxRecDepth 8000 in
set_option maxHeartbeats 1000000 in
theorem compareRow_any (w : World) (sa : ByteArray) (qa : Int) (ta ka : ByteArray) (ea : Int) (ba : Option Addr) (na ca : Nat) (oa ia : Int) (sb : ByteArray) (qb : Int) (tb kb : ByteArray) (eb : Int) (bb : Option Addr) (nb cb : Nat) (ob ib : Int) :
    Calls Try.prog 30 #[.agg #[.string sa, .int .i64 qa, .string ta, .string ka, .int .i64 ea, .slice ba na ca, .int .i64 oa, .int .i64 ia], .agg #[.string sb, .int .i64 qb, .string tb, .string kb, .int .i64 eb, .slice bb nb cb, .int .i64 ob, .int .i64 ib]] w fun e w' => e = .returned (.int .i64 (lexI (cmpI ea eb) (cmpID sa qa sb qb))) ∧ Below w.heap.size w w' := by
  have h0 := ((St.start w).alloc (.cells #[.string sa, .int .i64 qa, .string ta, .string ka, .int .i64 ea, .slice ba na ca, .int .i64 oa, .int .i64 ia] 64)).alloc (.cells #[.string sb, .int .i64 qb, .string tb, .string kb, .int .i64 eb, .slice bb nb cb, .int .i64 ob, .int .i64 ib] 64)
  simp only [al_size] at h0
  go_enter Try.func30, Try.ntmps30
  go_upto_region 1 with fail
  refine wp_region_st [pVal ?c30_0, pVal ?c30_1, pVal ?c30_2, pVal ?c30_3, pVal (.int .i64 (cmpI ea eb)), pVal ?c30_5, pVal ?c30_6, pVal ?c30_7, pVal ?c30_8, pVal (.int .i64 (cmpID sa qa sb qb)), pTwo (cmpI ea eb) (cmpID sa qa sb qb), pVal (.int .i64 (lexI (cmpI ea eb) (cmpID sa qa sb qb))), pVal ?c30_12] (osC [(w.heap.size + 1, .cells #[.string sb, .int .i64 qb, .string tb, .string kb, .int .i64 eb, .slice bb nb cb, .int .i64 ob, .int .i64 ib] 64 (0, 0)), (w.heap.size, .cells #[.string sa, .int .i64 qa, .string ta, .string ka, .int .i64 ea, .slice ba na ca, .int .i64 oa, .int .i64 ia] 64 (0, 0))]) 17 [0, 1, 0, 4, 15, 0, 32, 0, 128, 511, 1023, 2047, 4095] [[], [(0, 5)], [], [(2, 7)], [(3, 8), (1, 6)], [], [(5, 10)], [], [(7, 12)], [(8, 13), (6, 11)], [(9, 14), (4, 9)], [(10, 15)], [(11, 16)]] [(0, 5), (1, 6), (2, 7), (3, 8), (4, 9), (5, 10), (6, 11), (7, 12), (8, 13), (9, 14), (10, 15), (11, 16), (12, 4)] (by kernel_rfl) (by kernel_rfl) rfl rfl h0 osC0 osC1 ?ob ?en
  case ob =>
    refine ⟨?_, ?_, ?_, ?_, ?_, ?_, ?_, ?_, ?_, ?_, ?_, ?_, ?_, trivial⟩
    · -- 0: t5 := Op.fieldAddr 64 (t2) 3
      intro zx1 zx2 zx3 zx4 L V W hL hd hw hst 
      refine ob_c rfl ?_ hst rfl
      go_simp
      try with_reducible rfl
    · -- 1: t6 := Op.load 3 (t5)
      intro zx1 zx2 zx3 zx4 L V W hL hd hw hst u0 e0 p0
      obtain rfl : u0 = _ := p0
      obtain ⟨y0, y1, y2, y3, y4, y5, y6, y7⟩ := cells8 (hst.find (g := w.heap.size) (o := .cells #[.string sa, .int .i64 qa, .string ta, .string ka, .int .i64 ea, .slice ba na ca, .int .i64 oa, .int .i64 ia] 64 (0, 0)) (by simp [osC]))
      refine ob_c rfl ?_ hst rfl
      go_simp
      try with_reducible rfl
    · -- 2: t7 := Op.fieldAddr 64 (t3) 3
      intro zx1 zx2 zx3 zx4 L V W hL hd hw hst 
      refine ob_c rfl ?_ hst rfl
      go_simp
      try with_reducible rfl
    · -- 3: t8 := Op.load 3 (t7)
      intro zx1 zx2 zx3 zx4 L V W hL hd hw hst u2 e2 p2
      obtain rfl : u2 = _ := p2
      obtain ⟨y0, y1, y2, y3, y4, y5, y6, y7⟩ := cells8 (hst.find (g := (w.heap.size + 1)) (o := .cells #[.string sb, .int .i64 qb, .string tb, .string kb, .int .i64 eb, .slice bb nb cb, .int .i64 ob, .int .i64 ib] 64 (0, 0)) (by simp [osC]))
      refine ob_c rfl ?_ hst rfl
      go_simp
      try with_reducible rfl
    · -- 4: t9 := Op.call { callee := value (func 58), args := #[t6, t8], argTypes := #[3, 3] }
      intro zx1 zx2 zx3 zx4 L V W hL hd hw hst u1 e1 p1 u3 e3 p3
      obtain rfl : u1 = _ := p1
      obtain rfl : u3 = _ := p3
      refine ob_call rfl ?_ (Calls.pV' hst (compareI_any _ ea eb))
      go_simp
    · -- 5: t10 := Op.fieldAddr 64 (t2) 0
      intro zx1 zx2 zx3 zx4 L V W hL hd hw hst 
      refine ob_c rfl ?_ hst rfl
      go_simp
      try with_reducible rfl
    · -- 6: t11 := Op.load 24 (t10)
      intro zx1 zx2 zx3 zx4 L V W hL hd hw hst u5 e5 p5
      obtain rfl : u5 = _ := p5
      obtain ⟨y0, y1, y2, y3, y4, y5, y6, y7⟩ := cells8 (hst.find (g := w.heap.size) (o := .cells #[.string sa, .int .i64 qa, .string ta, .string ka, .int .i64 ea, .slice ba na ca, .int .i64 oa, .int .i64 ia] 64 (0, 0)) (by simp [osC]))
      refine ob_c rfl ?_ hst rfl
      go_simp
      try with_reducible rfl
    · -- 7: t12 := Op.fieldAddr 64 (t3) 0
      intro zx1 zx2 zx3 zx4 L V W hL hd hw hst 
      refine ob_c rfl ?_ hst rfl
      go_simp
      try with_reducible rfl
    · -- 8: t13 := Op.load 24 (t12)
      intro zx1 zx2 zx3 zx4 L V W hL hd hw hst u7 e7 p7
      obtain rfl : u7 = _ := p7
      obtain ⟨y0, y1, y2, y3, y4, y5, y6, y7⟩ := cells8 (hst.find (g := (w.heap.size + 1)) (o := .cells #[.string sb, .int .i64 qb, .string tb, .string kb, .int .i64 eb, .slice bb nb cb, .int .i64 ob, .int .i64 ib] 64 (0, 0)) (by simp [osC]))
      refine ob_c rfl ?_ hst rfl
      go_simp
      try with_reducible rfl
    · -- 9: t14 := Op.call { callee := value (func 28), args := #[t11, t13], argTypes := #[24, 24] }
      intro zx1 zx2 zx3 zx4 L V W hL hd hw hst u6 e6 p6 u8 e8 p8
      obtain rfl : u6 = _ := p6
      obtain rfl : u8 = _ := p8
      refine ob_call rfl ?_ (Calls.pV hst (compareID_any _ sa qa sb qb))
      go_simp
    · -- 10: t15 := Op.buildSlice 111 2 #[(0, t9), (1, t14)]
      intro zx1 zx2 zx3 zx4 L V W hL hd hw hst u4 e4 p4 u9 e9 p9
      obtain rfl : u4 = _ := p4
      obtain rfl : u9 = _ := p9
      refine ob_run (n := .value (.slice (some ⟨W.heap.size, 0, none⟩) 2 2)) (W' := W.alloc (.cells #[.int .i64 (cmpI ea eb), .int .i64 (cmpID sa qa sb qb)] 3)) rfl ?_ ?_
      · go_simp
        try rfl
      · exact St.newTwo hst _ _ _
    · -- 11: t16 := Op.call { callee := value (func 56), args := #[t15], argTypes := #[111] }
      intro zx1 zx2 zx3 zx4 L V W hL hd hw hst u10 e10 p10
      obtain ⟨gx, rfl, hx, hy⟩ := p10
      refine ob_call rfl ?_ (Calls.pV' hst (or_any _ _ _ _ (mask_is _ _ _ _ hx) (mask_is _ _ _ _ hy)))
      go_simp
    · -- 12: t4 := Op.assign (t16)
      intro zx1 zx2 zx3 zx4 L V W hL hd hw hst u11 e11 p11
      obtain rfl : u11 = _ := p11
      refine ob_c rfl ?_ hst rfl
      go_simp
      try with_reducible rfl
  case en =>
    intro V W hst u0 e0 p0 u1 e1 p1 u2 e2 p2 u3 e3 p3 u4 e4 p4 u5 e5 p5 u6 e6 p6 u7 e7 p7 u8 e8 p8 u9 e9 p9 u10 e10 p10 u11 e11 p11 u12 e12 p12
    obtain rfl : u0 = _ := p0
    obtain rfl : u1 = _ := p1
    obtain rfl : u2 = _ := p2
    obtain rfl : u3 = _ := p3
    obtain rfl : u4 = _ := p4
    obtain rfl : u5 = _ := p5
    obtain rfl : u6 = _ := p6
    obtain rfl : u7 = _ := p7
    obtain rfl : u8 = _ := p8
    obtain rfl : u9 = _ := p9
    obtain ⟨gx, rfl, hx, hy⟩ := p10
    obtain rfl : u11 = _ := p11
    obtain rfl : u12 = _ := p12
    simp only [EndAll, Act.put, List.getElem_toArray, List.getElem_cons_succ, List.getElem_cons_zero, List.setIfInBounds_toArray, List.set_cons_zero, List.set_cons_succ]
    go_wp2_with fail
    go_ret
    exact ⟨rfl, hst.below⟩
end Go.Proofs.Ytfpkibfofainaaa
