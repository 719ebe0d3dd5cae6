/- The walk over FactsOrders. -/
import Derived.Test.YtfpkibfofainaaaMo
import Derived.Test.YtfpkibfofainaaaOrd
import Derived.Test.YtfpkibfofainaaaRegL
set_option linter.unusedVariables false
set_option linter.unusedSimpArgs false
namespace Go.Proofs.Ytfpkibfofainaaa
open Go.RowKit

theorem wrap_small {x : Int} (h1 : -1 ≤ x) (h2 : x ≤ 1) : IntKind.i64.wrap (-x) = -x := by rw [IntKind.wrap_i64]; omega
theorem orders_abs {x y z p q r ea eb nx np : Int} {A B : Prop} [Decidable A] [Decidable B] (ht : T3 x y z) (ht2 : T3 p q r) (h0 : p = 0 ↔ A ∧ B) (hx0 : x = 0 ↔ ea = eb ∧ A ∧ B) (hneg : nx = -x) (hlt : ea < eb → x = -1) (heq : ea = eb → x = p) (hn : np = -p) :
    ¬ x < -1 ∧ ¬ 1 < x ∧ nx = - x ∧ np = - p ∧ ((x == 0) = ((ea == eb) && (decide A && decide B))) ∧ ((decide (x ≤ 0) && decide (y ≤ 0)) && decide (0 < z)) = false ∧ (decide (ea < eb) && (x != -1)) = false ∧
    ((p == 0) = (decide A && decide B)) ∧ ((decide (0 < p) || decide (0 < q)) || decide (r ≤ 0)) = true ∧ ((ea != eb) || (x == p)) = true ∧ IntKind.i64.wrap (-x) = -x ∧ IntKind.i64.wrap (-p) = -p := by
  obtain ⟨a1, a2, a3, a4, a5, a6⟩ := ht
  obtain ⟨d1, d2, d3, d4, d5, d6⟩ := ht2
  have bx : -1 ≤ x ∧ x ≤ 1 := by rcases a1 with rfl | rfl | rfl <;> decide
  have bp : -1 ≤ p ∧ p ≤ 1 := by rcases d1 with rfl | rfl | rfl <;> decide
  refine ⟨Int.not_lt.2 bx.1, Int.not_lt.2 bx.2, hneg, hn, ?_, ?_, ?_, ?_, ?_, ?_, wrap_small bx.1 bx.2, wrap_small bp.1 bp.2⟩
  · rw [Bool.eq_iff_iff]; simp only [beq_iff_eq, Bool.and_eq_true, decide_eq_true_eq]; exact hx0
  · rw [Bool.eq_false_iff]; simp only [ne_eq, Bool.and_eq_true, decide_eq_true_eq, not_and]; exact fun h => Int.not_lt.2 (a4 h.1 h.2)
  · rw [Bool.eq_false_iff]; simp only [ne_eq, Bool.and_eq_true, decide_eq_true_eq, bne_iff_ne, not_and, Decidable.not_not]; exact hlt
  · rw [Bool.eq_iff_iff]; simp only [beq_iff_eq, Bool.and_eq_true, decide_eq_true_eq]; exact h0
  · simp only [Bool.or_eq_true, decide_eq_true_eq]
    by_cases hp : 0 < p
    · exact .inl (.inl hp)
    · by_cases hq : 0 < q
      · exact .inl (.inr hq)
      · exact .inr (d4 (Int.not_lt.1 hp) (Int.not_lt.1 hq))
  · simp only [Bool.or_eq_true, bne_iff_ne, beq_iff_eq]
    by_cases h : ea = eb
    · exact .inr (heq h)
    · exact .inl h
theorem orders_plain (sa sb sc : ByteArray) (qa qb qc ea eb ec : Int) :
    ¬ lexI (cmpI ea eb) (cmpID sa qa sb qb) < -1 ∧ ¬ 1 < lexI (cmpI ea eb) (cmpID sa qa sb qb) ∧ lexI (cmpI eb ea) (cmpID sb qb sa qa) = - lexI (cmpI ea eb) (cmpID sa qa sb qb) ∧ cmpID sb qb sa qa = - cmpID sa qa sb qb ∧
    ((lexI (cmpI ea eb) (cmpID sa qa sb qb) == 0) = ((ea == eb) && (decide (sa.toList = sb.toList) && decide (qa = qb)))) ∧
    ((decide (lexI (cmpI ea eb) (cmpID sa qa sb qb) ≤ 0) && decide (lexI (cmpI eb ec) (cmpID sb qb sc qc) ≤ 0)) && decide (0 < lexI (cmpI ea ec) (cmpID sa qa sc qc))) = false ∧
    (decide (ea < eb) && (lexI (cmpI ea eb) (cmpID sa qa sb qb) != -1)) = false ∧
    ((cmpID sa qa sb qb == 0) = (decide (sa.toList = sb.toList) && decide (qa = qb))) ∧
    ((decide (0 < cmpID sa qa sb qb) || decide (0 < cmpID sb qb sc qc)) || decide (cmpID sa qa sc qc ≤ 0)) = true ∧
    ((ea != eb) || (lexI (cmpI ea eb) (cmpID sa qa sb qb) == cmpID sa qa sb qb)) = true ∧
    IntKind.i64.wrap (-(lexI (cmpI ea eb) (cmpID sa qa sb qb))) = -(lexI (cmpI ea eb) (cmpID sa qa sb qb)) ∧ IntKind.i64.wrap (-(cmpID sa qa sb qb)) = -(cmpID sa qa sb qb) := by
  refine orders_abs (T3_lex (T3_I ea eb ec) (T3_ID sa sb sc qa qb qc)) (T3_ID sa sb sc qa qb qc) ?_ ?_ ?_ ?_ ?_ ?_
  · rw [cmpID_zero, toList_inj]
  · rw [lex_zero, cmpI_zero, cmpID_zero, toList_inj]
  · rw [cmpI_neg, cmpID_neg, lex_neg]
  · exact fun h => by unfold cmpI; rw [if_pos h]; rfl
  · exact fun h => by rw [h, cmpI_same]; rfl
  · exact cmpID_neg sa qa sb qb

set_option maxRecDepth 8000 in
set_option maxHeartbeats 8000000 in
theorem orders_walk (w : World) (hm : HasMax w) (sa : ByteArray) (qa : Int) (ta ka : ByteArray) (ea : Int) (ba : Option Addr) (na ca : Nat) (oa ia : Int) (sb : ByteArray) (qb : Int) (tb kb : ByteArray) (eb : Int) (bb : Option Addr) (nb cb : Nat) (ob ib : Int) (sc : ByteArray) (qc : Int) (tc kc : ByteArray) (ec : Int) (bc : Option Addr) (nc cc : Nat) (oc ic : Int) :
    Calls Try.prog 10 #[.agg #[.string sa, .int .i64 qa, .string ta, .string ka, .int .i64 ea, .slice ba na ca, .int .i64 oa, .int .i64 ia], .agg #[.string sb, .int .i64 qb, .string tb, .string kb, .int .i64 eb, .slice bb nb cb, .int .i64 ob, .int .i64 ib], .agg #[.string sc, .int .i64 qc, .string tc, .string kc, .int .i64 ec, .slice bc nc cc, .int .i64 oc, .int .i64 ic]] w fun e w' => e = .returned (.bool true) ∧ Below w.heap.size w w' := by
  obtain ⟨p, hp⟩ : ∃ r, cmpID sa qa sb qb = r := ⟨_, rfl⟩
  obtain ⟨q, hq⟩ : ∃ r, cmpID sb qb sc qc = r := ⟨_, rfl⟩
  obtain ⟨r, hr⟩ : ∃ r, cmpID sa qa sc qc = r := ⟨_, rfl⟩
  obtain ⟨x, hx⟩ : ∃ r, lexI (cmpI ea eb) (cmpID sa qa sb qb) = r := ⟨_, rfl⟩
  obtain ⟨y, hy⟩ : ∃ r, lexI (cmpI eb ec) (cmpID sb qb sc qc) = r := ⟨_, rfl⟩
  obtain ⟨z, hz⟩ : ∃ r, lexI (cmpI ea ec) (cmpID sa qa sc qc) = r := ⟨_, rfl⟩
  have HP := Lib.hid hp
  have HQ := Lib.hid hq
  have HR := Lib.hid hr
  have HX := Lib.hid hx
  have HY := Lib.hid hy
  have HZ := Lib.hid hz
  have hd := orders_plain sa sb sc qa qb qc ea eb ec
  rw [hx, hy, hz, hp, hq, hr] at hd
  obtain ⟨k1, k2, k3, k4, k5, k6, k7, k8, k9, k10, k11, k12⟩ := hd
  obtain ⟨g16, h16⟩ : ∃ b, (x == 0) = b := ⟨_, rfl⟩
  obtain ⟨b22, h22⟩ : ∃ b, (ea == eb) = b := ⟨_, rfl⟩
  obtain ⟨g27, h27⟩ : ∃ b, (decide (sa.toList = sb.toList) && decide (qa = qb)) = b := ⟨_, rfl⟩
  obtain ⟨g33, h33⟩ : ∃ b, decide (x ≤ 0) = b := ⟨_, rfl⟩
  obtain ⟨g36, h36⟩ : ∃ b, decide (y ≤ 0) = b := ⟨_, rfl⟩
  obtain ⟨b38, h38⟩ : ∃ b, (g33 && g36) = b := ⟨_, rfl⟩
  obtain ⟨g40, h40⟩ : ∃ b, decide (0 < z) = b := ⟨_, rfl⟩
  obtain ⟨g48, h48⟩ : ∃ b, decide (ea < eb) = b := ⟨_, rfl⟩
  obtain ⟨g51, h51⟩ : ∃ b, (x != -1) = b := ⟨_, rfl⟩
  obtain ⟨g13, h13⟩ : ∃ b, (p == 0) = b := ⟨_, rfl⟩
  obtain ⟨g24, h24⟩ : ∃ b, decide (0 < p) = b := ⟨_, rfl⟩
  obtain ⟨g26, h26⟩ : ∃ b, decide (0 < q) = b := ⟨_, rfl⟩
  obtain ⟨b28, h28⟩ : ∃ b, (g24 || g26) = b := ⟨_, rfl⟩
  obtain ⟨g30, h30⟩ : ∃ b, decide (r ≤ 0) = b := ⟨_, rfl⟩
  obtain ⟨g39, h39⟩ : ∃ b, (ea != eb) = b := ⟨_, rfl⟩
  obtain ⟨g42, h42⟩ : ∃ b, (x == p) = b := ⟨_, rfl⟩
  rw [h16, h22, h27] at k5
  rw [h33, h36, h38, h40] at k6
  rw [h48, h51] at k7
  rw [h13, h27] at k8
  rw [h24, h26, h28, h30] at k9
  rw [h39, h42] at k10
  have HG18 : Hid ((decide (sa.toList = sb.toList) && decide (qa = qb)) = g13) := Lib.hid (by rw [h27, k8])
  have HN := Lib.hid k3
  have HNP := Lib.hid k4
  have HWR := Lib.hid k11
  have HWP := Lib.hid k12
  have HP29 := Lib.hid k5
  have HP41 := Lib.hid k6
  have HP52 := Lib.hid k7
  have HP31 := Lib.hid k9
  have HP43 := Lib.hid k10
  have HG16 := Lib.hid h16
  have HB22 := Lib.hid h22
  have HG27 := Lib.hid h27
  have HG33 := Lib.hid h33
  have HG36 := Lib.hid h36
  have HB38 := Lib.hid h38
  have HG40 := Lib.hid h40
  have HG48 := Lib.hid h48
  have HG51 := Lib.hid h51
  have HG13 := Lib.hid h13
  have HG24 := Lib.hid h24
  have HG26 := Lib.hid h26
  have HB28 := Lib.hid h28
  have HG30 := Lib.hid h30
  have HG39 := Lib.hid h39
  have HG42 := Lib.hid h42
  have hx1 := k1
  have hx2 := k2
  clear hp hq hr hx hy hz k1 k2 k3 k4 k5 k6 k7 k8 k9 k10 k11 k12 h16 h22 h27 h33 h36 h38 h40 h48 h51 h13 h24 h26 h28 h30 h39 h42
  have h0 := (((St.start w).alloc (.cells #[.string sa, .int .i64 qa, .string ta, .string ka, .int .i64 ea, .slice ba na ca, .int .i64 oa, .int .i64 ia] 64)).alloc (.cells #[.string sb, .int .i64 qb, .string tb, .string kb, .int .i64 eb, .slice bb nb cb, .int .i64 ob, .int .i64 ib] 64)).alloc (.cells #[.string sc, .int .i64 qc, .string tc, .string kc, .int .i64 ec, .slice bc nc cc, .int .i64 oc, .int .i64 ic] 64)
  simp only [al_size] at h0
  go_enter Try.func10, Try.ntmps10
  go_wp2_with fail
  refine (Calls.sV h0 (example_any _ (hm.below h0.below rfl))).mono ?_
  rintro e w1 ⟨rfl, h1⟩
  clear h0
  go_upto_region 2 with fail
  refine wp_region_st [pVal (.agg #[.string sa, .int .i64 qa, .string ta, .string ka, .int .i64 ea, .slice ba na ca, .int .i64 oa, .int .i64 ia]), pVal (.agg #[.string sb, .int .i64 qb, .string tb, .string kb, .int .i64 eb, .slice bb nb cb, .int .i64 ob, .int .i64 ib]), pVal (.int .i64 x), pVal (.agg #[.string sb, .int .i64 qb, .string tb, .string kb, .int .i64 eb, .slice bb nb cb, .int .i64 ob, .int .i64 ib]), pVal (.agg #[.string sc, .int .i64 qc, .string tc, .string kc, .int .i64 ec, .slice bc nc cc, .int .i64 oc, .int .i64 ic]), pVal (.int .i64 y), pVal (.agg #[.string sa, .int .i64 qa, .string ta, .string ka, .int .i64 ea, .slice ba na ca, .int .i64 oa, .int .i64 ia]), pVal (.agg #[.string sc, .int .i64 qc, .string tc, .string kc, .int .i64 ec, .slice bc nc cc, .int .i64 oc, .int .i64 ic]), pVal (.int .i64 z), pVal ?c2_9, pVal ?c2_10, pVal ?c2_11] (osC [((w.heap.size + 1 + 1), .cells #[.string sc, .int .i64 qc, .string tc, .string kc, .int .i64 ec, .slice bc nc cc, .int .i64 oc, .int .i64 ic] 64 (0, 0)), ((w.heap.size + 1), .cells #[.string sb, .int .i64 qb, .string tb, .string kb, .int .i64 eb, .slice bb nb cb, .int .i64 ob, .int .i64 ib] 64 (0, 0)), (w.heap.size, .cells #[.string sa, .int .i64 qa, .string ta, .string ka, .int .i64 ea, .slice ba na ca, .int .i64 oa, .int .i64 ia] 64 (0, 0))]) 138 [0, 0, 3, 0, 0, 31, 0, 0, 255, 511, 1023, 2047] [[], [], [(1, 16), (0, 15)], [], [], [(4, 19), (3, 18)], [], [], [(7, 22), (6, 21)], [(2, 17)], [(5, 20)], [(8, 23)]] [(0, 15), (1, 16), (2, 17), (3, 18), (4, 19), (5, 20), (6, 21), (7, 22), (8, 23), (9, 8), (10, 9), (11, 10)] (by kernel_rfl) (by kernel_rfl) rfl rfl h1 osC0 osC1 ?ob ?en
  case ob =>
    refine ⟨?_, ?_, ?_, ?_, ?_, ?_, ?_, ?_, ?_, ?_, ?_, ?_, trivial⟩
    · -- 0: t15 := Op.load 64 (t3)
      intro zx1 zx2 zx3 zx4 L V W hL hd hw hst 
      exact ob_v _ rfl (run_load_own rfl rfl (hst.find (g := w.heap.size) (o := .cells #[.string sa, .int .i64 qa, .string ta, .string ka, .int .i64 ea, .slice ba na ca, .int .i64 oa, .int .i64 ia] 64 (0, 0)) (by simp [osC])) Try.underlying64 rfl row_info) hst rfl rfl
    · -- 1: t16 := Op.load 64 (t4)
      intro zx1 zx2 zx3 zx4 L V W hL hd hw hst 
      exact ob_v _ rfl (run_load_own rfl rfl (hst.find (g := (w.heap.size + 1)) (o := .cells #[.string sb, .int .i64 qb, .string tb, .string kb, .int .i64 eb, .slice bb nb cb, .int .i64 ob, .int .i64 ib] 64 (0, 0)) (by simp [osC])) Try.underlying64 rfl row_info) hst rfl rfl
    · -- 2: t17 := Op.call { callee := value (func 30), args := #[t15, t16], argTypes := #[64, 64] }
      intro zx1 zx2 zx3 zx4 L V W hL hd hw hst u0 e0 p0 u1 e1 p1
      obtain rfl : u0 = _ := p0
      obtain rfl : u1 = _ := p1
      refine ob_call rfl ?_ (Calls.pV hst (HX.out ▸ compareRow_any _ sa qa ta ka ea ba na ca oa ia sb qb tb kb eb bb nb cb ob ib))
      go_simp
      try rfl
    · -- 3: t18 := Op.load 64 (t4)
      intro zx1 zx2 zx3 zx4 L V W hL hd hw hst 
      exact ob_v _ rfl (run_load_own rfl rfl (hst.find (g := (w.heap.size + 1)) (o := .cells #[.string sb, .int .i64 qb, .string tb, .string kb, .int .i64 eb, .slice bb nb cb, .int .i64 ob, .int .i64 ib] 64 (0, 0)) (by simp [osC])) Try.underlying64 rfl row_info) hst rfl rfl
    · -- 4: t19 := Op.load 64 (t5)
      intro zx1 zx2 zx3 zx4 L V W hL hd hw hst 
      exact ob_v _ rfl (run_load_own rfl rfl (hst.find (g := (w.heap.size + 1 + 1)) (o := .cells #[.string sc, .int .i64 qc, .string tc, .string kc, .int .i64 ec, .slice bc nc cc, .int .i64 oc, .int .i64 ic] 64 (0, 0)) (by simp [osC])) Try.underlying64 rfl row_info) hst rfl rfl
    · -- 5: t20 := Op.call { callee := value (func 30), args := #[t18, t19], argTypes := #[64, 64] }
      intro zx1 zx2 zx3 zx4 L V W hL hd hw hst u3 e3 p3 u4 e4 p4
      obtain rfl : u3 = _ := p3
      obtain rfl : u4 = _ := p4
      refine ob_call rfl ?_ (Calls.pV hst (HY.out ▸ compareRow_any _ sb qb tb kb eb bb nb cb ob ib sc qc tc kc ec bc nc cc oc ic))
      go_simp
      try rfl
    · -- 6: t21 := Op.load 64 (t3)
      intro zx1 zx2 zx3 zx4 L V W hL hd hw hst 
      exact ob_v _ rfl (run_load_own rfl rfl (hst.find (g := w.heap.size) (o := .cells #[.string sa, .int .i64 qa, .string ta, .string ka, .int .i64 ea, .slice ba na ca, .int .i64 oa, .int .i64 ia] 64 (0, 0)) (by simp [osC])) Try.underlying64 rfl row_info) hst rfl rfl
    · -- 7: t22 := Op.load 64 (t5)
      intro zx1 zx2 zx3 zx4 L V W hL hd hw hst 
      exact ob_v _ rfl (run_load_own rfl rfl (hst.find (g := (w.heap.size + 1 + 1)) (o := .cells #[.string sc, .int .i64 qc, .string tc, .string kc, .int .i64 ec, .slice bc nc cc, .int .i64 oc, .int .i64 ic] 64 (0, 0)) (by simp [osC])) Try.underlying64 rfl row_info) hst rfl rfl
    · -- 8: t23 := Op.call { callee := value (func 30), args := #[t21, t22], argTypes := #[64, 64] }
      intro zx1 zx2 zx3 zx4 L V W hL hd hw hst u6 e6 p6 u7 e7 p7
      obtain rfl : u6 = _ := p6
      obtain rfl : u7 = _ := p7
      refine ob_call rfl ?_ (Calls.pV hst (HZ.out ▸ compareRow_any _ sa qa ta ka ea ba na ca oa ia sc qc tc kc ec bc nc cc oc ic))
      go_simp
      try rfl
    · -- 9: t8 := Op.assign (t17)
      intro zx1 zx2 zx3 zx4 L V W hL hd hw hst u2 e2 p2
      obtain rfl : u2 = _ := p2
      refine ob_c rfl ?_ hst rfl
      go_simp
      try with_reducible rfl
    · -- 10: t9 := Op.assign (t20)
      intro zx1 zx2 zx3 zx4 L V W hL hd hw hst u5 e5 p5
      obtain rfl : u5 = _ := p5
      refine ob_c rfl ?_ hst rfl
      go_simp
      try with_reducible rfl
    · -- 11: t10 := Op.assign (t23)
      intro zx1 zx2 zx3 zx4 L V W hL hd hw hst u8 e8 p8
      obtain rfl : u8 = _ := p8
      refine ob_c rfl ?_ hst rfl
      go_simp
      try with_reducible rfl
  case en =>
    intro V W hst u0 e0 p0 u1 e1 p1 u2 e2 p2 u3 e3 p3 u4 e4 p4 u5 e5 p5 u6 e6 p6 u7 e7 p7 u8 e8 p8 u9 e9 p9 u10 e10 p10 u11 e11 p11
    obtain rfl : u0 = _ := p0
    obtain rfl : u1 = _ := p1
    obtain rfl : u2 = _ := p2
    obtain rfl : u3 = _ := p3
    obtain rfl : u4 = _ := p4
    obtain rfl : u5 = _ := p5
    obtain rfl : u6 = _ := p6
    obtain rfl : u7 = _ := p7
    obtain rfl : u8 = _ := p8
    obtain rfl : u9 = _ := p9
    obtain rfl : u10 = _ := p10
    obtain rfl : u11 = _ := p11
    simp only [EndAll, Act.put, List.getElem_toArray, List.getElem_cons_succ, List.getElem_cons_zero, List.setIfInBounds_toArray, List.set_cons_zero, List.set_cons_succ]
    clear h1
    rw [show osC [((w.heap.size + 1 + 1), .cells #[.string sc, .int .i64 qc, .string tc, .string kc, .int .i64 ec, .slice bc nc cc, .int .i64 oc, .int .i64 ic] 64 (0, 0)), ((w.heap.size + 1), .cells #[.string sb, .int .i64 qb, .string tb, .string kb, .int .i64 eb, .slice bb nb cb, .int .i64 ob, .int .i64 ib] 64 (0, 0)), (w.heap.size, .cells #[.string sa, .int .i64 qa, .string ta, .string ka, .int .i64 ea, .slice ba na ca, .int .i64 oa, .int .i64 ia] 64 (0, 0))] (fun _ => true) V = [((w.heap.size + 1 + 1), .cells #[.string sc, .int .i64 qc, .string tc, .string kc, .int .i64 ec, .slice bc nc cc, .int .i64 oc, .int .i64 ic] 64 (0, 0)), ((w.heap.size + 1), .cells #[.string sb, .int .i64 qb, .string tb, .string kb, .int .i64 eb, .slice bb nb cb, .int .i64 ob, .int .i64 ib] 64 (0, 0)), (w.heap.size, .cells #[.string sa, .int .i64 qa, .string ta, .string ka, .int .i64 ea, .slice ba na ca, .int .i64 oa, .int .i64 ia] 64 (0, 0))] from rfl] at hst
    have h2 := hst.facts (fs' := []) (fun P hP => by cases hP)
    clear hst
    go_upto_region 3 with fail
    refine wp_region_st0 [pVal ?c3_0, pVal (.bool false), pVal ?c3_2, pVal ?c3_3, pVal (.bool false), pVal (.bool false), pVal (.bool false), pVal (.agg #[.string sb, .int .i64 qb, .string tb, .string kb, .int .i64 eb, .slice bb nb cb, .int .i64 ob, .int .i64 ib]), pVal (.agg #[.string sa, .int .i64 qa, .string ta, .string ka, .int .i64 ea, .slice ba na ca, .int .i64 oa, .int .i64 ia]), pVal (.int .i64 (-x)), pVal ?c3_10, pVal (.int .i64 (-x)), pVal (.bool false), pVal (.bool false), pVal (.bool false), pVal ?c3_15, pVal (.bool g16), pVal ?c3_17, pVal ?c3_18, pVal ?c3_19, pVal ?c3_20, pVal (.bool b22), pVal (.bool b22), pIf (b22) (pVal (.pointer (some ⟨w.heap.size, 0, none⟩))), pIf (b22) (pVal (.agg #[.string sa, .int .i64 qa])), pIf (b22) (pVal (.pointer (some ⟨(w.heap.size + 1), 0, none⟩))), pIf (b22) (pVal (.agg #[.string sb, .int .i64 qb])), pIf (b22) (pVal (.bool g27)), pVal (.bool (b22 && g27)), pVal (.bool false), pVal (.bool false), pVal (.bool false), pVal ?c3_32, pVal (.bool g33), pVal (.bool g33), pIf (g33) (pVal (.int .i64 y)), pIf (g33) (pVal (.bool g36)), pVal (.bool (g33 && g36)), pVal (.bool b38), pIf (b38) (pVal (.int .i64 z)), pIf (b38) (pVal (.bool g40)), pVal (.bool (b38 && g40)), pVal (.bool false), pVal (.bool false), pVal ?c3_44, pVal ?c3_45, pVal ?c3_46, pVal ?c3_47, pVal (.bool g48), pVal (.bool g48), pIf (g48) (pVal (.int .i64 x)), pIf (g48) (pVal (.bool g51)), pVal (.bool (g48 && g51)), pVal (.bool false)] (osC [((w.heap.size + 1 + 1), .cells #[.string sc, .int .i64 qc, .string tc, .string kc, .int .i64 ec, .slice bc nc cc, .int .i64 oc, .int .i64 ic] 64 (0, 0)), ((w.heap.size + 1), .cells #[.string sb, .int .i64 qb, .string tb, .string kb, .int .i64 eb, .slice bb nb cb, .int .i64 ob, .int .i64 ib] 64 (0, 0)), (w.heap.size, .cells #[.string sa, .int .i64 qa, .string ta, .string ka, .int .i64 ea, .slice ba na ca, .int .i64 oa, .int .i64 ia] 64 (0, 0))]) 138 [0, 1, 3, 7, 15, 31, 63, 127, 127, 511, 127, 1151, 4095, 8191, 16383, 32767, 65535, 32767, 163839, 32767, 557055, 1998847, 4095999, 8290303, 16678911, 8290303, 41844735, 134119423, 268337151, 536870911, 1073741823, 2147483647, 4294967295, 8589934591, 17179869183, 34359738367, 68719476735, 137438953471, 274877906943, 549755813887, 1099511627775, 2199023255551, 4398046511103, 8796093022207, 17592186044415, 35184372088831, 17592186044415, 87960930222079, 281474976710655, 562949953421311, 1125899906842623, 2251799813685247, 4503599627370495, 9007199254740991] [[], [(0, 24)], [(1, 25)], [(2, 26)], [(2, 26), (3, 27)], [(4, 28), (2, 26)], [(5, 29)], [(6, 30)], [(6, 30)], [(6, 30), (8, 32), (7, 31)], [(6, 30)], [(6, 30), (10, 34)], [(6, 30), (11, 35), (9, 33)], [(12, 36), (6, 30)], [(13, 37)], [(14, 38)], [(14, 38), (15, 39)], [(14, 38)], [(14, 38), (17, 41)], [(14, 38)], [(14, 38), (19, 43)], [(14, 38), (20, 44), (18, 42)], [(14, 38), (21, 45)], [(22, 46)], [(22, 46), (23, 47)], [(22, 46)], [(22, 46), (25, 49)], [(22, 46), (26, 50), (24, 48)], [(14, 38), (27, 51), (22, 46)], [(14, 38), (28, 52), (16, 40)], [(29, 53), (14, 38)], [(30, 54)], [(31, 55)], [(31, 55), (32, 56)], [(31, 55), (33, 57)], [(34, 58)], [(34, 58), (35, 59)], [(31, 55), (36, 60), (34, 58)], [(31, 55), (37, 61)], [(38, 62)], [(38, 62), (39, 63)], [(31, 55), (40, 64), (38, 62)], [(41, 65), (31, 55)], [(42, 66)], [(43, 67)], [(43, 67), (44, 68)], [(43, 67)], [(43, 67), (46, 70)], [(43, 67), (47, 71), (45, 69)], [(43, 67), (48, 72)], [(49, 73)], [(49, 73), (50, 74)], [(43, 67), (51, 75), (49, 73)], [(52, 76), (43, 67)]] [(0, 24), (1, 25), (2, 26), (3, 27), (4, 28), (5, 29), (6, 30), (7, 31), (8, 32), (9, 33), (10, 34), (11, 35), (12, 36), (13, 37), (14, 38), (15, 39), (16, 40), (17, 41), (18, 42), (19, 43), (20, 44), (21, 45), (22, 46), (23, 47), (24, 48), (25, 49), (26, 50), (27, 51), (28, 52), (29, 53), (30, 54), (31, 55), (32, 56), (33, 57), (34, 58), (35, 59), (36, 60), (37, 61), (38, 62), (39, 63), (40, 64), (41, 65), (42, 66), (43, 67), (44, 68), (45, 69), (46, 70), (47, 71), (48, 72), (49, 73), (50, 74), (51, 75), (52, 76), (53, 77)] (by kernel_rfl) rfl rfl h2 osC0 osC1 ?ob ?en
    case ob =>
      refine ⟨?_, ?_, ?_, ?_, ?_, ?_, ?_, ?_, ?_, ?_, ?_, ?_, ?_, ?_, ?_, ?_, ?_, ?_, ?_, ?_, ?_, ?_, ?_, ?_, ?_, ?_, ?_, ?_, ?_, ?_, ?_, ?_, ?_, ?_, ?_, ?_, ?_, ?_, ?_, ?_, ?_, ?_, ?_, ?_, ?_, ?_, ?_, ?_, ?_, ?_, ?_, ?_, ?_, ?_, trivial⟩
      · -- 0: t24 := Op.move (t8)
        intro zx1 zx2 zx3 zx4 L V W hL hd hw hst 
        refine ob_c rfl ?_ hst rfl
        go_simp
        try with_reducible rfl
      · -- 1: t25 := Op.binOp BinOp.lss 3 (t24) (const (int IntKind.i64 (-1))) 3
        intro zx1 zx2 zx3 zx4 L V W hL hd hw hst u0 e0 p0
        obtain rfl : u0 = _ := p0
        refine ob_c (by first | rfl | (simp [wantE, dstOf, zx1]; done)) ?_ hst rfl
        go_simp
        all_goals (simp [hx1])
      · -- 2: t26 := Op.move (t25)
        intro zx1 zx2 zx3 zx4 L V W hL hd hw hst u1 e1 p1
        obtain rfl : u1 = _ := p1
        refine ob_c rfl ?_ hst rfl
        go_simp
        try with_reducible rfl
      · -- 3: t27 := Op.move (t8)
        intro zx1 zx2 zx3 zx4 L V W hL hd hw hst u2 e2 p2
        obtain rfl : u2 = _ := p2
        refine ob_c (by first | rfl | (simp [wantE, dstOf, zx1]; done)) ?_ hst rfl
        go_simp
        try with_reducible rfl
      · -- 4: t28 := Op.binOp BinOp.gtr 3 (t27) (const (int IntKind.i64 1)) 3
        intro zx1 zx2 zx3 zx4 L V W hL hd hw hst u3 e3 p3 u2 e2 p2
        obtain rfl : u3 = _ := p3
        obtain rfl : u2 = _ := p2
        refine ob_c (by first | rfl | (simp [wantE, dstOf, zx1]; done)) ?_ hst rfl
        go_simp
        all_goals (simp [hx2])
      · -- 5: t29 := Op.pick (t26) (const (bool true)) (t28)
        intro zx1 zx2 zx3 zx4 L V W hL hd hw hst u2 e2 p2 u4 e4 p4
        obtain rfl : u2 = _ := p2
        obtain rfl : u4 = _ := p4
        refine ob_c (by first | rfl | (simp [wantE, dstOf, zx1]; done)) ?_ hst rfl
        go_simp
        all_goals (skip)
      · -- 6: t30 := Op.move (t29)
        intro zx1 zx2 zx3 zx4 L V W hL hd hw hst u5 e5 p5
        obtain rfl : u5 = _ := p5
        refine ob_c (by first | rfl | (simp [wantE, dstOf, zx1]; done)) ?_ hst rfl
        go_simp
        all_goals (skip)
      · -- 7: t31 := Op.load 64 (t4)
        intro zx1 zx2 zx3 zx4 L V W hL hd hw hst u6 e6 p6
        obtain rfl : u6 = _ := p6
        exact ob_v _ (by first | rfl | (simp [wantE, dstOf, zx1]; done)) (run_load_own rfl rfl (hst.find (g := (w.heap.size + 1)) (o := .cells #[.string sb, .int .i64 qb, .string tb, .string kb, .int .i64 eb, .slice bb nb cb, .int .i64 ob, .int .i64 ib] 64 (0, 0)) (by simp [osC])) Try.underlying64 rfl row_info) hst rfl rfl
      · -- 8: t32 := Op.load 64 (t3)
        intro zx1 zx2 zx3 zx4 L V W hL hd hw hst u6 e6 p6
        obtain rfl : u6 = _ := p6
        exact ob_v _ (by first | rfl | (simp [wantE, dstOf, zx1]; done)) (run_load_own rfl rfl (hst.find (g := w.heap.size) (o := .cells #[.string sa, .int .i64 qa, .string ta, .string ka, .int .i64 ea, .slice ba na ca, .int .i64 oa, .int .i64 ia] 64 (0, 0)) (by simp [osC])) Try.underlying64 rfl row_info) hst rfl rfl
      · -- 9: t33 := Op.call { callee := value (func 30), args := #[t31, t32], argTypes := #[64, 64] }
        intro zx1 zx2 zx3 zx4 L V W hL hd hw hst u7 e7 p7 u8 e8 p8 u6 e6 p6
        obtain rfl : u7 = _ := p7
        obtain rfl : u8 = _ := p8
        obtain rfl : u6 = _ := p6
        refine ob_call (by first | rfl | (simp [wantE, dstOf, zx1]; done)) ?_ (Calls.pV hst (HN.out ▸ compareRow_any _ sb qb tb kb eb bb nb cb ob ib sa qa ta ka ea ba na ca oa ia))
        go_simp
        try rfl
      · -- 10: t34 := Op.move (t8)
        intro zx1 zx2 zx3 zx4 L V W hL hd hw hst u6 e6 p6
        obtain rfl : u6 = _ := p6
        refine ob_c (by first | rfl | (simp [wantE, dstOf, zx1]; done)) ?_ hst rfl
        go_simp
        try with_reducible rfl
      · -- 11: t35 := Op.unOp UnOp.neg 3 (t34)
        intro zx1 zx2 zx3 zx4 L V W hL hd hw hst u10 e10 p10 u6 e6 p6
        obtain rfl : u10 = _ := p10
        obtain rfl : u6 = _ := p6
        refine ob_c (by first | rfl | (simp [wantE, dstOf, zx1]; done)) ?_ hst rfl
        go_simp
        all_goals (rw [HWR.out])
      · -- 12: t36 := Op.binOp BinOp.neq 3 (t33) (t35) 3
        intro zx1 zx2 zx3 zx4 L V W hL hd hw hst u9 e9 p9 u11 e11 p11 u6 e6 p6
        obtain rfl : u9 = _ := p9
        obtain rfl : u11 = _ := p11
        obtain rfl : u6 = _ := p6
        refine ob_c (by first | rfl | (simp [wantE, dstOf, zx1]; done)) ?_ hst rfl
        go_simp
        all_goals (simp)
      · -- 13: t37 := Op.pick (t30) (const (bool true)) (t36)
        intro zx1 zx2 zx3 zx4 L V W hL hd hw hst u6 e6 p6 u12 e12 p12
        obtain rfl : u6 = _ := p6
        obtain rfl : u12 = _ := p12
        refine ob_c (by first | rfl | (simp [wantE, dstOf, zx1]; done)) ?_ hst rfl
        go_simp
        all_goals (skip)
      · -- 14: t38 := Op.move (t37)
        intro zx1 zx2 zx3 zx4 L V W hL hd hw hst u13 e13 p13
        obtain rfl : u13 = _ := p13
        refine ob_c (by first | rfl | (simp [wantE, dstOf, zx1]; done)) ?_ hst rfl
        go_simp
        all_goals (skip)
      · -- 15: t39 := Op.move (t8)
        intro zx1 zx2 zx3 zx4 L V W hL hd hw hst u14 e14 p14
        obtain rfl : u14 = _ := p14
        refine ob_c (by first | rfl | (simp [wantE, dstOf, zx1]; done)) ?_ hst rfl
        go_simp
        try with_reducible rfl
      · -- 16: t40 := Op.binOp BinOp.eql 3 (t39) (const (int IntKind.i64 0)) 3
        intro zx1 zx2 zx3 zx4 L V W hL hd hw hst u15 e15 p15 u14 e14 p14
        obtain rfl : u15 = _ := p15
        obtain rfl : u14 = _ := p14
        refine ob_c (by first | rfl | (simp [wantE, dstOf, zx1]; done)) ?_ hst rfl
        go_simp
        all_goals (rw [HG16.out])
      · -- 17: t41 := Op.fieldAddr 64 (t3) 3
        intro zx1 zx2 zx3 zx4 L V W hL hd hw hst u14 e14 p14
        obtain rfl : u14 = _ := p14
        refine ob_c (by first | rfl | (simp [wantE, dstOf, zx1]; done)) ?_ hst rfl
        go_simp
        try with_reducible rfl
      · -- 18: t42 := Op.load 3 (t41)
        intro zx1 zx2 zx3 zx4 L V W hL hd hw hst u17 e17 p17 u14 e14 p14
        obtain rfl : u17 = _ := p17
        obtain rfl : u14 = _ := p14
        obtain ⟨y0, y1, y2, y3, y4, y5, y6, y7⟩ := cells8 (hst.find (g := w.heap.size) (o := .cells #[.string sa, .int .i64 qa, .string ta, .string ka, .int .i64 ea, .slice ba na ca, .int .i64 oa, .int .i64 ia] 64 (0, 0)) (by simp [osC]))
        refine ob_c (by first | rfl | (simp [wantE, dstOf, zx1]; done)) ?_ hst rfl
        go_simp
        try with_reducible rfl
      · -- 19: t43 := Op.fieldAddr 64 (t4) 3
        intro zx1 zx2 zx3 zx4 L V W hL hd hw hst u14 e14 p14
        obtain rfl : u14 = _ := p14
        refine ob_c (by first | rfl | (simp [wantE, dstOf, zx1]; done)) ?_ hst rfl
        go_simp
        try with_reducible rfl
      · -- 20: t44 := Op.load 3 (t43)
        intro zx1 zx2 zx3 zx4 L V W hL hd hw hst u19 e19 p19 u14 e14 p14
        obtain rfl : u19 = _ := p19
        obtain rfl : u14 = _ := p14
        obtain ⟨y0, y1, y2, y3, y4, y5, y6, y7⟩ := cells8 (hst.find (g := (w.heap.size + 1)) (o := .cells #[.string sb, .int .i64 qb, .string tb, .string kb, .int .i64 eb, .slice bb nb cb, .int .i64 ob, .int .i64 ib] 64 (0, 0)) (by simp [osC]))
        refine ob_c (by first | rfl | (simp [wantE, dstOf, zx1]; done)) ?_ hst rfl
        go_simp
        try with_reducible rfl
      · -- 21: t45 := Op.binOp BinOp.eql 3 (t42) (t44) 3
        intro zx1 zx2 zx3 zx4 L V W hL hd hw hst u18 e18 p18 u20 e20 p20 u14 e14 p14
        obtain rfl : u18 = _ := p18
        obtain rfl : u20 = _ := p20
        obtain rfl : u14 = _ := p14
        refine ob_c (by first | rfl | (simp [wantE, dstOf, zx1]; done)) ?_ hst rfl
        go_simp
        all_goals (rw [HB22.out])
      · -- 22: t46 := Op.move (t45)
        intro zx1 zx2 zx3 zx4 L V W hL hd hw hst u21 e21 p21 u14 e14 p14
        obtain rfl : u21 = _ := p21
        obtain rfl : u14 = _ := p14
        refine ob_c (by first | rfl | (simp [wantE, dstOf, zx1]; done)) ?_ hst rfl
        go_simp
        all_goals (skip)
      · -- 23: t47 := Op.fieldAddr 64 (t3) 0
        intro zx1 zx2 zx3 zx4 L V W hL hd hw hst u22 e22 p22
        obtain rfl : u22 = _ := p22
        refine ob_if (fun hg => ?_) hst rfl (fun hg => ?_)
        · simp [wantE, dstOf, zx1, hg]
        refine ob_c (by simp [wantE, dstOf, zx1, hg]) ?_ hst rfl
        go_simp
        all_goals (skip)
      · -- 24: t48 := Op.load 24 (t47)
        intro zx1 zx2 zx3 zx4 L V W hL hd hw hst u23 e23 p23 u22 e22 p22
        obtain rfl : u22 = _ := p22
        refine ob_if (fun hg => ?_) hst rfl (fun hg => ?_)
        · simp [wantE, dstOf, zx1, hg]
        obtain rfl : u23 = _ := p23 (by first | exact hg | simpa using hg | simp_all)
        obtain ⟨y0, y1, y2, y3, y4, y5, y6, y7⟩ := cells8 (hst.find (g := w.heap.size) (o := .cells #[.string sa, .int .i64 qa, .string ta, .string ka, .int .i64 ea, .slice ba na ca, .int .i64 oa, .int .i64 ia] 64 (0, 0)) (by simp [osC]))
        refine ob_c (by simp [wantE, dstOf, zx1, hg]) ?_ hst rfl
        go_simp
        try with_reducible rfl
      · -- 25: t49 := Op.fieldAddr 64 (t4) 0
        intro zx1 zx2 zx3 zx4 L V W hL hd hw hst u22 e22 p22
        obtain rfl : u22 = _ := p22
        refine ob_if (fun hg => ?_) hst rfl (fun hg => ?_)
        · simp [wantE, dstOf, zx1, hg]
        refine ob_c (by simp [wantE, dstOf, zx1, hg]) ?_ hst rfl
        go_simp
        all_goals (skip)
      · -- 26: t50 := Op.load 24 (t49)
        intro zx1 zx2 zx3 zx4 L V W hL hd hw hst u25 e25 p25 u22 e22 p22
        obtain rfl : u22 = _ := p22
        refine ob_if (fun hg => ?_) hst rfl (fun hg => ?_)
        · simp [wantE, dstOf, zx1, hg]
        obtain rfl : u25 = _ := p25 (by first | exact hg | simpa using hg | simp_all)
        obtain ⟨y0, y1, y2, y3, y4, y5, y6, y7⟩ := cells8 (hst.find (g := (w.heap.size + 1)) (o := .cells #[.string sb, .int .i64 qb, .string tb, .string kb, .int .i64 eb, .slice bb nb cb, .int .i64 ob, .int .i64 ib] 64 (0, 0)) (by simp [osC]))
        refine ob_c (by simp [wantE, dstOf, zx1, hg]) ?_ hst rfl
        go_simp
        try with_reducible rfl
      · -- 27: t51 := Op.binOp BinOp.eql 24 (t48) (t50) 24
        intro zx1 zx2 zx3 zx4 L V W hL hd hw hst u24 e24 p24 u26 e26 p26 u22 e22 p22
        obtain rfl : u22 = _ := p22
        refine ob_if (fun hg => ?_) hst rfl (fun hg => ?_)
        · simp [wantE, dstOf, zx1, hg]
        obtain rfl : u24 = _ := p24 (by first | exact hg | simpa using hg | simp_all)
        obtain rfl : u26 = _ := p26 (by first | exact hg | simpa using hg | simp_all)
        refine ob_c (by simp [wantE, dstOf, zx1, hg]) ?_ hst rfl
        go_simp
        all_goals (rw [← HG27.out]; by_cases i1 : sa.toList = sb.toList <;> by_cases i2 : qa = qb <;> simp [i1, i2])
      · -- 28: t52 := Op.pick (t46) (t51) (const (bool false))
        intro zx1 zx2 zx3 zx4 L V W hL hd hw hst u22 e22 p22 u27 e27 p27 u14 e14 p14
        obtain rfl : u22 = _ := p22
        obtain rfl : u14 = _ := p14
        cases b22 with
        | false =>
          refine ob_c (by first | rfl | (simp [wantE, dstOf, zx1]; done)) ?_ hst rfl
          go_simp
        | true =>
          obtain rfl : u27 = _ := p27 rfl
          refine ob_c (by first | rfl | (simp [wantE, dstOf, zx1]; done)) ?_ hst rfl
          go_simp
      · -- 29: t53 := Op.binOp BinOp.neq 4 (t40) (t52) 4
        intro zx1 zx2 zx3 zx4 L V W hL hd hw hst u16 e16 p16 u28 e28 p28 u14 e14 p14
        obtain rfl : u16 = _ := p16
        obtain rfl : u28 = _ := p28
        obtain rfl : u14 = _ := p14
        refine ob_c (by first | rfl | (simp [wantE, dstOf, zx1]; done)) ?_ hst rfl
        go_simp
        all_goals (have hpp := HP29.out; revert hpp; cases g16 <;> cases b22 <;> cases g27 <;> simp)
      · -- 30: t54 := Op.pick (t38) (const (bool true)) (t53)
        intro zx1 zx2 zx3 zx4 L V W hL hd hw hst u14 e14 p14 u29 e29 p29
        obtain rfl : u14 = _ := p14
        obtain rfl : u29 = _ := p29
        refine ob_c (by first | rfl | (simp [wantE, dstOf, zx1]; done)) ?_ hst rfl
        go_simp
        all_goals (skip)
      · -- 31: t55 := Op.move (t54)
        intro zx1 zx2 zx3 zx4 L V W hL hd hw hst u30 e30 p30
        obtain rfl : u30 = _ := p30
        refine ob_c (by first | rfl | (simp [wantE, dstOf, zx1]; done)) ?_ hst rfl
        go_simp
        all_goals (skip)
      · -- 32: t56 := Op.move (t8)
        intro zx1 zx2 zx3 zx4 L V W hL hd hw hst u31 e31 p31
        obtain rfl : u31 = _ := p31
        refine ob_c (by first | rfl | (simp [wantE, dstOf, zx1]; done)) ?_ hst rfl
        go_simp
        try with_reducible rfl
      · -- 33: t57 := Op.binOp BinOp.leq 3 (t56) (const (int IntKind.i64 0)) 3
        intro zx1 zx2 zx3 zx4 L V W hL hd hw hst u32 e32 p32 u31 e31 p31
        obtain rfl : u32 = _ := p32
        obtain rfl : u31 = _ := p31
        refine ob_c (by first | rfl | (simp [wantE, dstOf, zx1]; done)) ?_ hst rfl
        go_simp
        all_goals (rw [HG33.out])
      · -- 34: t58 := Op.move (t57)
        intro zx1 zx2 zx3 zx4 L V W hL hd hw hst u33 e33 p33 u31 e31 p31
        obtain rfl : u33 = _ := p33
        obtain rfl : u31 = _ := p31
        refine ob_c (by first | rfl | (simp [wantE, dstOf, zx1]; done)) ?_ hst rfl
        go_simp
        all_goals (skip)
      · -- 35: t59 := Op.move (t9)
        intro zx1 zx2 zx3 zx4 L V W hL hd hw hst u34 e34 p34
        obtain rfl : u34 = _ := p34
        refine ob_if (fun hg => ?_) hst rfl (fun hg => ?_)
        · simp [wantE, dstOf, zx1, hg]
        refine ob_c (by simp [wantE, dstOf, zx1, hg]) ?_ hst rfl
        go_simp
        all_goals (skip)
      · -- 36: t60 := Op.binOp BinOp.leq 3 (t59) (const (int IntKind.i64 0)) 3
        intro zx1 zx2 zx3 zx4 L V W hL hd hw hst u35 e35 p35 u34 e34 p34
        obtain rfl : u34 = _ := p34
        refine ob_if (fun hg => ?_) hst rfl (fun hg => ?_)
        · simp [wantE, dstOf, zx1, hg]
        obtain rfl : u35 = _ := p35 (by first | exact hg | simpa using hg | simp_all)
        refine ob_c (by simp [wantE, dstOf, zx1, hg]) ?_ hst rfl
        go_simp
        all_goals (rw [HG36.out])
      · -- 37: t61 := Op.pick (t58) (t60) (const (bool false))
        intro zx1 zx2 zx3 zx4 L V W hL hd hw hst u34 e34 p34 u36 e36 p36 u31 e31 p31
        obtain rfl : u34 = _ := p34
        obtain rfl : u31 = _ := p31
        cases g33 with
        | false =>
          refine ob_c (by first | rfl | (simp [wantE, dstOf, zx1]; done)) ?_ hst rfl
          go_simp
        | true =>
          obtain rfl : u36 = _ := p36 rfl
          refine ob_c (by first | rfl | (simp [wantE, dstOf, zx1]; done)) ?_ hst rfl
          go_simp
      · -- 38: t62 := Op.move (t61)
        intro zx1 zx2 zx3 zx4 L V W hL hd hw hst u37 e37 p37 u31 e31 p31
        obtain rfl : u37 = _ := p37
        obtain rfl : u31 = _ := p31
        refine ob_c (by first | rfl | (simp [wantE, dstOf, zx1]; done)) ?_ hst rfl
        go_simp
        all_goals (rw [HB38.out])
      · -- 39: t63 := Op.move (t10)
        intro zx1 zx2 zx3 zx4 L V W hL hd hw hst u38 e38 p38
        obtain rfl : u38 = _ := p38
        refine ob_if (fun hg => ?_) hst rfl (fun hg => ?_)
        · simp [wantE, dstOf, zx1, hg]
        refine ob_c (by simp [wantE, dstOf, zx1, hg]) ?_ hst rfl
        go_simp
        all_goals (skip)
      · -- 40: t64 := Op.binOp BinOp.gtr 3 (t63) (const (int IntKind.i64 0)) 3
        intro zx1 zx2 zx3 zx4 L V W hL hd hw hst u39 e39 p39 u38 e38 p38
        obtain rfl : u38 = _ := p38
        refine ob_if (fun hg => ?_) hst rfl (fun hg => ?_)
        · simp [wantE, dstOf, zx1, hg]
        obtain rfl : u39 = _ := p39 (by first | exact hg | simpa using hg | simp_all)
        refine ob_c (by simp [wantE, dstOf, zx1, hg]) ?_ hst rfl
        go_simp
        all_goals (rw [HG40.out])
      · -- 41: t65 := Op.pick (t62) (t64) (const (bool false))
        intro zx1 zx2 zx3 zx4 L V W hL hd hw hst u38 e38 p38 u40 e40 p40 u31 e31 p31
        obtain rfl : u38 = _ := p38
        obtain rfl : u31 = _ := p31
        cases b38 with
        | false =>
          refine ob_c (by first | rfl | (simp [wantE, dstOf, zx1]; done)) ?_ hst rfl
          go_simp
        | true =>
          obtain rfl : u40 = _ := p40 rfl
          refine ob_c (by first | rfl | (simp [wantE, dstOf, zx1]; done)) ?_ hst rfl
          go_simp
      · -- 42: t66 := Op.pick (t55) (const (bool true)) (t65)
        intro zx1 zx2 zx3 zx4 L V W hL hd hw hst u31 e31 p31 u41 e41 p41
        obtain rfl : u31 = _ := p31
        obtain rfl : u41 = _ := p41
        refine ob_c (by first | rfl | (simp [wantE, dstOf, zx1]; done)) ?_ hst rfl
        go_simp
        all_goals (have hpp := HP41.out; revert hpp; cases b38 <;> cases g40 <;> simp)
      · -- 43: t67 := Op.move (t66)
        intro zx1 zx2 zx3 zx4 L V W hL hd hw hst u42 e42 p42
        obtain rfl : u42 = _ := p42
        refine ob_c (by first | rfl | (simp [wantE, dstOf, zx1]; done)) ?_ hst rfl
        go_simp
        all_goals (skip)
      · -- 44: t68 := Op.fieldAddr 64 (t3) 3
        intro zx1 zx2 zx3 zx4 L V W hL hd hw hst u43 e43 p43
        obtain rfl : u43 = _ := p43
        refine ob_c (by first | rfl | (simp [wantE, dstOf, zx1]; done)) ?_ hst rfl
        go_simp
        try with_reducible rfl
      · -- 45: t69 := Op.load 3 (t68)
        intro zx1 zx2 zx3 zx4 L V W hL hd hw hst u44 e44 p44 u43 e43 p43
        obtain rfl : u44 = _ := p44
        obtain rfl : u43 = _ := p43
        obtain ⟨y0, y1, y2, y3, y4, y5, y6, y7⟩ := cells8 (hst.find (g := w.heap.size) (o := .cells #[.string sa, .int .i64 qa, .string ta, .string ka, .int .i64 ea, .slice ba na ca, .int .i64 oa, .int .i64 ia] 64 (0, 0)) (by simp [osC]))
        refine ob_c (by first | rfl | (simp [wantE, dstOf, zx1]; done)) ?_ hst rfl
        go_simp
        try with_reducible rfl
      · -- 46: t70 := Op.fieldAddr 64 (t4) 3
        intro zx1 zx2 zx3 zx4 L V W hL hd hw hst u43 e43 p43
        obtain rfl : u43 = _ := p43
        refine ob_c (by first | rfl | (simp [wantE, dstOf, zx1]; done)) ?_ hst rfl
        go_simp
        try with_reducible rfl
      · -- 47: t71 := Op.load 3 (t70)
        intro zx1 zx2 zx3 zx4 L V W hL hd hw hst u46 e46 p46 u43 e43 p43
        obtain rfl : u46 = _ := p46
        obtain rfl : u43 = _ := p43
        obtain ⟨y0, y1, y2, y3, y4, y5, y6, y7⟩ := cells8 (hst.find (g := (w.heap.size + 1)) (o := .cells #[.string sb, .int .i64 qb, .string tb, .string kb, .int .i64 eb, .slice bb nb cb, .int .i64 ob, .int .i64 ib] 64 (0, 0)) (by simp [osC]))
        refine ob_c (by first | rfl | (simp [wantE, dstOf, zx1]; done)) ?_ hst rfl
        go_simp
        try with_reducible rfl
      · -- 48: t72 := Op.binOp BinOp.lss 3 (t69) (t71) 3
        intro zx1 zx2 zx3 zx4 L V W hL hd hw hst u45 e45 p45 u47 e47 p47 u43 e43 p43
        obtain rfl : u45 = _ := p45
        obtain rfl : u47 = _ := p47
        obtain rfl : u43 = _ := p43
        refine ob_c (by first | rfl | (simp [wantE, dstOf, zx1]; done)) ?_ hst rfl
        go_simp
        all_goals (rw [HG48.out])
      · -- 49: t73 := Op.move (t72)
        intro zx1 zx2 zx3 zx4 L V W hL hd hw hst u48 e48 p48 u43 e43 p43
        obtain rfl : u48 = _ := p48
        obtain rfl : u43 = _ := p43
        refine ob_c (by first | rfl | (simp [wantE, dstOf, zx1]; done)) ?_ hst rfl
        go_simp
        all_goals (skip)
      · -- 50: t74 := Op.move (t8)
        intro zx1 zx2 zx3 zx4 L V W hL hd hw hst u49 e49 p49
        obtain rfl : u49 = _ := p49
        refine ob_if (fun hg => ?_) hst rfl (fun hg => ?_)
        · simp [wantE, dstOf, zx1, hg]
        refine ob_c (by simp [wantE, dstOf, zx1, hg]) ?_ hst rfl
        go_simp
        all_goals (skip)
      · -- 51: t75 := Op.binOp BinOp.neq 3 (t74) (const (int IntKind.i64 (-1))) 3
        intro zx1 zx2 zx3 zx4 L V W hL hd hw hst u50 e50 p50 u49 e49 p49
        obtain rfl : u49 = _ := p49
        refine ob_if (fun hg => ?_) hst rfl (fun hg => ?_)
        · simp [wantE, dstOf, zx1, hg]
        obtain rfl : u50 = _ := p50 (by first | exact hg | simpa using hg | simp_all)
        refine ob_c (by simp [wantE, dstOf, zx1, hg]) ?_ hst rfl
        go_simp
        all_goals (rw [HG51.out])
      · -- 52: t76 := Op.pick (t73) (t75) (const (bool false))
        intro zx1 zx2 zx3 zx4 L V W hL hd hw hst u49 e49 p49 u51 e51 p51 u43 e43 p43
        obtain rfl : u49 = _ := p49
        obtain rfl : u43 = _ := p43
        cases g48 with
        | false =>
          refine ob_c (by first | rfl | (simp [wantE, dstOf, zx1]; done)) ?_ hst rfl
          go_simp
        | true =>
          obtain rfl : u51 = _ := p51 rfl
          refine ob_c (by first | rfl | (simp [wantE, dstOf, zx1]; done)) ?_ hst rfl
          go_simp
      · -- 53: t77 := Op.pick (t67) (const (bool true)) (t76)
        intro zx1 zx2 zx3 zx4 L V W hL hd hw hst u43 e43 p43 u52 e52 p52
        obtain rfl : u43 = _ := p43
        obtain rfl : u52 = _ := p52
        refine ob_c (by first | rfl | (simp [wantE, dstOf, zx1]; done)) ?_ hst rfl
        go_simp
        all_goals (have hpp := HP52.out; revert hpp; cases g48 <;> cases g51 <;> simp)
    case en =>
      intro V W hst u0 e0 p0 u1 e1 p1 u2 e2 p2 u3 e3 p3 u4 e4 p4 u5 e5 p5 u6 e6 p6 u7 e7 p7 u8 e8 p8 u9 e9 p9 u10 e10 p10 u11 e11 p11 u12 e12 p12 u13 e13 p13 u14 e14 p14 u15 e15 p15 u16 e16 p16 u17 e17 p17 u18 e18 p18 u19 e19 p19 u20 e20 p20 u21 e21 p21 u22 e22 p22 u23 e23 p23 u24 e24 p24 u25 e25 p25 u26 e26 p26 u27 e27 p27 u28 e28 p28 u29 e29 p29 u30 e30 p30 u31 e31 p31 u32 e32 p32 u33 e33 p33 u34 e34 p34 u35 e35 p35 u36 e36 p36 u37 e37 p37 u38 e38 p38 u39 e39 p39 u40 e40 p40 u41 e41 p41 u42 e42 p42 u43 e43 p43 u44 e44 p44 u45 e45 p45 u46 e46 p46 u47 e47 p47 u48 e48 p48 u49 e49 p49 u50 e50 p50 u51 e51 p51 u52 e52 p52 u53 e53 p53
      obtain rfl : u0 = _ := p0
      obtain rfl : u1 = _ := p1
      obtain rfl : u2 = _ := p2
      obtain rfl : u3 = _ := p3
      obtain rfl : u4 = _ := p4
      obtain rfl : u5 = _ := p5
      obtain rfl : u6 = _ := p6
      obtain rfl : u7 = _ := p7
      obtain rfl : u8 = _ := p8
      obtain rfl : u9 = _ := p9
      obtain rfl : u10 = _ := p10
      obtain rfl : u11 = _ := p11
      obtain rfl : u12 = _ := p12
      obtain rfl : u13 = _ := p13
      obtain rfl : u14 = _ := p14
      obtain rfl : u15 = _ := p15
      obtain rfl : u16 = _ := p16
      obtain rfl : u17 = _ := p17
      obtain rfl : u18 = _ := p18
      obtain rfl : u19 = _ := p19
      obtain rfl : u20 = _ := p20
      obtain rfl : u21 = _ := p21
      obtain rfl : u22 = _ := p22
      obtain rfl : u28 = _ := p28
      obtain rfl : u29 = _ := p29
      obtain rfl : u30 = _ := p30
      obtain rfl : u31 = _ := p31
      obtain rfl : u32 = _ := p32
      obtain rfl : u33 = _ := p33
      obtain rfl : u34 = _ := p34
      obtain rfl : u37 = _ := p37
      obtain rfl : u38 = _ := p38
      obtain rfl : u41 = _ := p41
      obtain rfl : u42 = _ := p42
      obtain rfl : u43 = _ := p43
      obtain rfl : u44 = _ := p44
      obtain rfl : u45 = _ := p45
      obtain rfl : u46 = _ := p46
      obtain rfl : u47 = _ := p47
      obtain rfl : u48 = _ := p48
      obtain rfl : u49 = _ := p49
      obtain rfl : u52 = _ := p52
      obtain rfl : u53 = _ := p53
      simp only [EndAll, Act.put, List.getElem_toArray, List.getElem_cons_succ, List.getElem_cons_zero, List.setIfInBounds_toArray, List.set_cons_zero, List.set_cons_succ]
      rw [show osC [((w.heap.size + 1 + 1), .cells #[.string sc, .int .i64 qc, .string tc, .string kc, .int .i64 ec, .slice bc nc cc, .int .i64 oc, .int .i64 ic] 64 (0, 0)), ((w.heap.size + 1), .cells #[.string sb, .int .i64 qb, .string tb, .string kb, .int .i64 eb, .slice bb nb cb, .int .i64 ob, .int .i64 ib] 64 (0, 0)), (w.heap.size, .cells #[.string sa, .int .i64 qa, .string ta, .string ka, .int .i64 ea, .slice ba na ca, .int .i64 oa, .int .i64 ia] 64 (0, 0))] (fun _ => true) V = [((w.heap.size + 1 + 1), .cells #[.string sc, .int .i64 qc, .string tc, .string kc, .int .i64 ec, .slice bc nc cc, .int .i64 oc, .int .i64 ic] 64 (0, 0)), ((w.heap.size + 1), .cells #[.string sb, .int .i64 qb, .string tb, .string kb, .int .i64 eb, .slice bb nb cb, .int .i64 ob, .int .i64 ib] 64 (0, 0)), (w.heap.size, .cells #[.string sa, .int .i64 qa, .string ta, .string ka, .int .i64 ea, .slice ba na ca, .int .i64 oa, .int .i64 ia] 64 (0, 0))] from rfl] at hst
      have h3 := hst.facts (fs' := []) (fun P hP => by cases hP)
      clear hst h2
      go_upto_region 5 with fail
      refine wp_region_st [pVal ?c5_0, pVal ?c5_1, pVal ?c5_2, pVal ?c5_3, pVal (.int .i64 p), pVal ?c5_5, pVal ?c5_6, pVal ?c5_7, pVal ?c5_8, pVal (.int .i64 q), pVal ?c5_10, pVal ?c5_11, pVal ?c5_12, pVal ?c5_13, pVal (.int .i64 r), pVal ?c5_15, pVal ?c5_16, pVal ?c5_17] (osC [((w.heap.size + 1 + 1), .cells #[.string sc, .int .i64 qc, .string tc, .string kc, .int .i64 ec, .slice bc nc cc, .int .i64 oc, .int .i64 ic] 64 (0, 0)), ((w.heap.size + 1), .cells #[.string sb, .int .i64 qb, .string tb, .string kb, .int .i64 eb, .slice bb nb cb, .int .i64 ob, .int .i64 ib] 64 (0, 0)), (w.heap.size, .cells #[.string sa, .int .i64 qa, .string ta, .string ka, .int .i64 ea, .slice ba na ca, .int .i64 oa, .int .i64 ia] 64 (0, 0))]) 138 [0, 1, 0, 4, 15, 0, 32, 0, 128, 511, 0, 1024, 0, 4096, 16383, 32767, 65535, 131071] [[], [(0, 78)], [], [(2, 80)], [(3, 81), (1, 79)], [], [(5, 83)], [], [(7, 85)], [(8, 86), (6, 84)], [], [(10, 88)], [], [(12, 90)], [(13, 91), (11, 89)], [(4, 82)], [(9, 87)], [(14, 92)]] [(0, 78), (1, 79), (2, 80), (3, 81), (4, 82), (5, 83), (6, 84), (7, 85), (8, 86), (9, 87), (10, 88), (11, 89), (12, 90), (13, 91), (14, 92), (15, 11), (16, 12), (17, 13)] (by kernel_rfl) (by kernel_rfl) rfl rfl h3 osC0 osC1 ?ob ?en
      case ob =>
        refine ⟨?_, ?_, ?_, ?_, ?_, ?_, ?_, ?_, ?_, ?_, ?_, ?_, ?_, ?_, ?_, ?_, ?_, ?_, trivial⟩
        · -- 0: t78 := Op.fieldAddr 64 (t3) 0
          intro zx1 zx2 zx3 zx4 L V W hL hd hw hst 
          refine ob_c rfl ?_ hst rfl
          go_simp
          try with_reducible rfl
        · -- 1: t79 := Op.load 24 (t78)
          intro zx1 zx2 zx3 zx4 L V W hL hd hw hst u0 e0 p0
          obtain rfl : u0 = _ := p0
          obtain ⟨y0, y1, y2, y3, y4, y5, y6, y7⟩ := cells8 (hst.find (g := w.heap.size) (o := .cells #[.string sa, .int .i64 qa, .string ta, .string ka, .int .i64 ea, .slice ba na ca, .int .i64 oa, .int .i64 ia] 64 (0, 0)) (by simp [osC]))
          refine ob_c rfl ?_ hst rfl
          go_simp
          try with_reducible rfl
        · -- 2: t80 := Op.fieldAddr 64 (t4) 0
          intro zx1 zx2 zx3 zx4 L V W hL hd hw hst 
          refine ob_c rfl ?_ hst rfl
          go_simp
          try with_reducible rfl
        · -- 3: t81 := Op.load 24 (t80)
          intro zx1 zx2 zx3 zx4 L V W hL hd hw hst u2 e2 p2
          obtain rfl : u2 = _ := p2
          obtain ⟨y0, y1, y2, y3, y4, y5, y6, y7⟩ := cells8 (hst.find (g := (w.heap.size + 1)) (o := .cells #[.string sb, .int .i64 qb, .string tb, .string kb, .int .i64 eb, .slice bb nb cb, .int .i64 ob, .int .i64 ib] 64 (0, 0)) (by simp [osC]))
          refine ob_c rfl ?_ hst rfl
          go_simp
          try with_reducible rfl
        · -- 4: t82 := Op.call { callee := value (func 28), args := #[t79, t81], argTypes := #[24, 24] }
          intro zx1 zx2 zx3 zx4 L V W hL hd hw hst u1 e1 p1 u3 e3 p3
          obtain rfl : u1 = _ := p1
          obtain rfl : u3 = _ := p3
          refine ob_call rfl ?_ (Calls.pV hst (HP.out ▸ compareID_any _ sa qa sb qb))
          go_simp
          try rfl
        · -- 5: t83 := Op.fieldAddr 64 (t4) 0
          intro zx1 zx2 zx3 zx4 L V W hL hd hw hst 
          refine ob_c rfl ?_ hst rfl
          go_simp
          try with_reducible rfl
        · -- 6: t84 := Op.load 24 (t83)
          intro zx1 zx2 zx3 zx4 L V W hL hd hw hst u5 e5 p5
          obtain rfl : u5 = _ := p5
          obtain ⟨y0, y1, y2, y3, y4, y5, y6, y7⟩ := cells8 (hst.find (g := (w.heap.size + 1)) (o := .cells #[.string sb, .int .i64 qb, .string tb, .string kb, .int .i64 eb, .slice bb nb cb, .int .i64 ob, .int .i64 ib] 64 (0, 0)) (by simp [osC]))
          refine ob_c rfl ?_ hst rfl
          go_simp
          try with_reducible rfl
        · -- 7: t85 := Op.fieldAddr 64 (t5) 0
          intro zx1 zx2 zx3 zx4 L V W hL hd hw hst 
          refine ob_c rfl ?_ hst rfl
          go_simp
          try with_reducible rfl
        · -- 8: t86 := Op.load 24 (t85)
          intro zx1 zx2 zx3 zx4 L V W hL hd hw hst u7 e7 p7
          obtain rfl : u7 = _ := p7
          obtain ⟨y0, y1, y2, y3, y4, y5, y6, y7⟩ := cells8 (hst.find (g := (w.heap.size + 1 + 1)) (o := .cells #[.string sc, .int .i64 qc, .string tc, .string kc, .int .i64 ec, .slice bc nc cc, .int .i64 oc, .int .i64 ic] 64 (0, 0)) (by simp [osC]))
          refine ob_c rfl ?_ hst rfl
          go_simp
          try with_reducible rfl
        · -- 9: t87 := Op.call { callee := value (func 28), args := #[t84, t86], argTypes := #[24, 24] }
          intro zx1 zx2 zx3 zx4 L V W hL hd hw hst u6 e6 p6 u8 e8 p8
          obtain rfl : u6 = _ := p6
          obtain rfl : u8 = _ := p8
          refine ob_call rfl ?_ (Calls.pV hst (HQ.out ▸ compareID_any _ sb qb sc qc))
          go_simp
          try rfl
        · -- 10: t88 := Op.fieldAddr 64 (t3) 0
          intro zx1 zx2 zx3 zx4 L V W hL hd hw hst 
          refine ob_c rfl ?_ hst rfl
          go_simp
          try with_reducible rfl
        · -- 11: t89 := Op.load 24 (t88)
          intro zx1 zx2 zx3 zx4 L V W hL hd hw hst u10 e10 p10
          obtain rfl : u10 = _ := p10
          obtain ⟨y0, y1, y2, y3, y4, y5, y6, y7⟩ := cells8 (hst.find (g := w.heap.size) (o := .cells #[.string sa, .int .i64 qa, .string ta, .string ka, .int .i64 ea, .slice ba na ca, .int .i64 oa, .int .i64 ia] 64 (0, 0)) (by simp [osC]))
          refine ob_c rfl ?_ hst rfl
          go_simp
          try with_reducible rfl
        · -- 12: t90 := Op.fieldAddr 64 (t5) 0
          intro zx1 zx2 zx3 zx4 L V W hL hd hw hst 
          refine ob_c rfl ?_ hst rfl
          go_simp
          try with_reducible rfl
        · -- 13: t91 := Op.load 24 (t90)
          intro zx1 zx2 zx3 zx4 L V W hL hd hw hst u12 e12 p12
          obtain rfl : u12 = _ := p12
          obtain ⟨y0, y1, y2, y3, y4, y5, y6, y7⟩ := cells8 (hst.find (g := (w.heap.size + 1 + 1)) (o := .cells #[.string sc, .int .i64 qc, .string tc, .string kc, .int .i64 ec, .slice bc nc cc, .int .i64 oc, .int .i64 ic] 64 (0, 0)) (by simp [osC]))
          refine ob_c rfl ?_ hst rfl
          go_simp
          try with_reducible rfl
        · -- 14: t92 := Op.call { callee := value (func 28), args := #[t89, t91], argTypes := #[24, 24] }
          intro zx1 zx2 zx3 zx4 L V W hL hd hw hst u11 e11 p11 u13 e13 p13
          obtain rfl : u11 = _ := p11
          obtain rfl : u13 = _ := p13
          refine ob_call rfl ?_ (Calls.pV hst (HR.out ▸ compareID_any _ sa qa sc qc))
          go_simp
          try rfl
        · -- 15: t11 := Op.assign (t82)
          intro zx1 zx2 zx3 zx4 L V W hL hd hw hst u4 e4 p4
          obtain rfl : u4 = _ := p4
          refine ob_c rfl ?_ hst rfl
          go_simp
          try with_reducible rfl
        · -- 16: t12 := Op.assign (t87)
          intro zx1 zx2 zx3 zx4 L V W hL hd hw hst u9 e9 p9
          obtain rfl : u9 = _ := p9
          refine ob_c rfl ?_ hst rfl
          go_simp
          try with_reducible rfl
        · -- 17: t13 := Op.assign (t92)
          intro zx1 zx2 zx3 zx4 L V W hL hd hw hst u14 e14 p14
          obtain rfl : u14 = _ := p14
          refine ob_c rfl ?_ hst rfl
          go_simp
          try with_reducible rfl
      case en =>
        intro V W hst u0 e0 p0 u1 e1 p1 u2 e2 p2 u3 e3 p3 u4 e4 p4 u5 e5 p5 u6 e6 p6 u7 e7 p7 u8 e8 p8 u9 e9 p9 u10 e10 p10 u11 e11 p11 u12 e12 p12 u13 e13 p13 u14 e14 p14 u15 e15 p15 u16 e16 p16 u17 e17 p17
        obtain rfl : u0 = _ := p0
        obtain rfl : u1 = _ := p1
        obtain rfl : u2 = _ := p2
        obtain rfl : u3 = _ := p3
        obtain rfl : u4 = _ := p4
        obtain rfl : u5 = _ := p5
        obtain rfl : u6 = _ := p6
        obtain rfl : u7 = _ := p7
        obtain rfl : u8 = _ := p8
        obtain rfl : u9 = _ := p9
        obtain rfl : u10 = _ := p10
        obtain rfl : u11 = _ := p11
        obtain rfl : u12 = _ := p12
        obtain rfl : u13 = _ := p13
        obtain rfl : u14 = _ := p14
        obtain rfl : u15 = _ := p15
        obtain rfl : u16 = _ := p16
        obtain rfl : u17 = _ := p17
        simp only [EndAll, Act.put, List.getElem_toArray, List.getElem_cons_succ, List.getElem_cons_zero, List.setIfInBounds_toArray, List.set_cons_zero, List.set_cons_succ]
        rw [show osC [((w.heap.size + 1 + 1), .cells #[.string sc, .int .i64 qc, .string tc, .string kc, .int .i64 ec, .slice bc nc cc, .int .i64 oc, .int .i64 ic] 64 (0, 0)), ((w.heap.size + 1), .cells #[.string sb, .int .i64 qb, .string tb, .string kb, .int .i64 eb, .slice bb nb cb, .int .i64 ob, .int .i64 ib] 64 (0, 0)), (w.heap.size, .cells #[.string sa, .int .i64 qa, .string ta, .string ka, .int .i64 ea, .slice ba na ca, .int .i64 oa, .int .i64 ia] 64 (0, 0))] (fun _ => true) V = [((w.heap.size + 1 + 1), .cells #[.string sc, .int .i64 qc, .string tc, .string kc, .int .i64 ec, .slice bc nc cc, .int .i64 oc, .int .i64 ic] 64 (0, 0)), ((w.heap.size + 1), .cells #[.string sb, .int .i64 qb, .string tb, .string kb, .int .i64 eb, .slice bb nb cb, .int .i64 ob, .int .i64 ib] 64 (0, 0)), (w.heap.size, .cells #[.string sa, .int .i64 qa, .string ta, .string ka, .int .i64 ea, .slice ba na ca, .int .i64 oa, .int .i64 ia] 64 (0, 0))] from rfl] at hst
        have h4 := hst.facts (fs' := []) (fun P hP => by cases hP)
        clear hst h3
        go_upto_region 6 with fail
        refine wp_region_st0 [pVal ?c6_0, pVal ?c6_1, pVal ?c6_2, pVal ?c6_3, pVal ?c6_4, pVal ?c6_5, pVal (.int .i64 (-p)), pVal ?c6_7, pVal (.int .i64 (-p)), pVal (.bool true), pVal (.bool true), pVal (.bool true), pVal ?c6_12, pVal (.bool g13), pVal ?c6_14, pVal ?c6_15, pVal ?c6_16, pVal ?c6_17, pVal (.bool g13), pVal (.bool true), pVal (.bool true), pVal (.bool true), pVal ?c6_22, pVal (.bool g24), pVal (.bool g24), pIf (!g24) (pVal (.int .i64 q)), pIf (!g24) (pVal (.bool g26)), pVal (.bool (g24 || g26)), pVal (.bool b28), pIf (!b28) (pVal (.int .i64 r)), pIf (!b28) (pVal (.bool g30)), pVal (.bool (b28 || g30)), pVal (.bool true), pVal (.bool true), pVal ?c6_34, pVal ?c6_35, pVal ?c6_36, pVal ?c6_37, pVal (.bool g39), pVal (.bool g39), pIf (!g39) (pVal (.int .i64 x)), pIf (!g39) (pVal (.int .i64 p)), pIf (!g39) (pVal (.bool g42)), pVal (.bool (g39 || g42)), pVal (.bool true), pVal ?c6_45] (osC [((w.heap.size + 1 + 1), .cells #[.string sc, .int .i64 qc, .string tc, .string kc, .int .i64 ec, .slice bc nc cc, .int .i64 oc, .int .i64 ic] 64 (0, 0)), ((w.heap.size + 1), .cells #[.string sb, .int .i64 qb, .string tb, .string kb, .int .i64 eb, .slice bb nb cb, .int .i64 ob, .int .i64 ib] 64 (0, 0)), (w.heap.size, .cells #[.string sa, .int .i64 qa, .string ta, .string ka, .int .i64 ea, .slice ba na ca, .int .i64 oa, .int .i64 ia] 64 (0, 0))]) 138 [0, 1, 3, 7, 3, 19, 63, 3, 131, 511, 1023, 2047, 4095, 8191, 4095, 20479, 4095, 69631, 249855, 524287, 1048575, 2097151, 4194303, 8388607, 16777215, 33554431, 67108863, 134217727, 268435455, 536870911, 1073741823, 2147483647, 4294967295, 8589934591, 17179869183, 34359738367, 17179869183, 85899345919, 274877906943, 549755813887, 1099511627775, 1099511627775, 4398046511103, 8796093022207, 17592186044415, 35184372088831] [[], [(0, 93)], [(1, 94)], [(1, 94), (2, 95)], [(1, 94)], [(1, 94), (4, 97)], [(1, 94), (5, 98), (3, 96)], [(1, 94)], [(1, 94), (7, 100)], [(1, 94), (8, 101), (6, 99)], [(9, 102), (1, 94)], [(10, 103)], [(11, 104)], [(11, 104), (12, 105)], [(11, 104)], [(11, 104), (14, 107)], [(11, 104)], [(11, 104), (16, 109)], [(11, 104), (17, 110), (15, 108)], [(11, 104), (18, 111), (13, 106)], [(19, 112), (11, 104)], [(20, 113)], [(21, 114)], [(21, 114), (22, 115)], [(21, 114), (23, 116)], [(24, 117)], [(24, 117), (25, 118)], [(21, 114), (26, 119), (24, 117)], [(21, 114), (27, 120)], [(28, 121)], [(28, 121), (29, 122)], [(21, 114), (30, 123), (28, 121)], [(31, 124), (21, 114)], [(32, 125)], [(33, 126)], [(33, 126), (34, 127)], [(33, 126)], [(33, 126), (36, 129)], [(33, 126), (37, 130), (35, 128)], [(33, 126), (38, 131)], [(39, 132)], [(39, 132)], [(39, 132), (41, 134), (40, 133)], [(33, 126), (42, 135), (39, 132)], [(43, 136), (33, 126)], [(44, 137)]] [(0, 93), (1, 94), (2, 95), (3, 96), (4, 97), (5, 98), (6, 99), (7, 100), (8, 101), (9, 102), (10, 103), (11, 104), (12, 105), (13, 106), (14, 107), (15, 108), (16, 109), (17, 110), (18, 111), (19, 112), (20, 113), (21, 114), (22, 115), (23, 116), (24, 117), (25, 118), (26, 119), (27, 120), (28, 121), (29, 122), (30, 123), (31, 124), (32, 125), (33, 126), (34, 127), (35, 128), (36, 129), (37, 130), (38, 131), (39, 132), (40, 133), (41, 134), (42, 135), (43, 136), (44, 137), (45, 6)] (by kernel_rfl) rfl rfl h4 osC0 osC1 ?ob ?en
        case ob =>
          refine ⟨?_, ?_, ?_, ?_, ?_, ?_, ?_, ?_, ?_, ?_, ?_, ?_, ?_, ?_, ?_, ?_, ?_, ?_, ?_, ?_, ?_, ?_, ?_, ?_, ?_, ?_, ?_, ?_, ?_, ?_, ?_, ?_, ?_, ?_, ?_, ?_, ?_, ?_, ?_, ?_, ?_, ?_, ?_, ?_, ?_, ?_, trivial⟩
          · -- 0: t93 := Op.move (t7)
            intro zx1 zx2 zx3 zx4 L V W hL hd hw hst 
            refine ob_c rfl ?_ hst rfl
            go_simp
            try with_reducible rfl
          · -- 1: t94 := Op.move (t93)
            intro zx1 zx2 zx3 zx4 L V W hL hd hw hst u0 e0 p0
            obtain rfl : u0 = _ := p0
            refine ob_c rfl ?_ hst rfl
            go_simp
            try with_reducible rfl
          · -- 2: t95 := Op.fieldAddr 64 (t4) 0
            intro zx1 zx2 zx3 zx4 L V W hL hd hw hst u1 e1 p1
            obtain rfl : u1 = _ := p1
            refine ob_c (by first | rfl | (simp [wantE, dstOf, zx1]; done)) ?_ hst rfl
            go_simp
            try with_reducible rfl
          · -- 3: t96 := Op.load 24 (t95)
            intro zx1 zx2 zx3 zx4 L V W hL hd hw hst u2 e2 p2 u1 e1 p1
            obtain rfl : u2 = _ := p2
            obtain rfl : u1 = _ := p1
            obtain ⟨y0, y1, y2, y3, y4, y5, y6, y7⟩ := cells8 (hst.find (g := (w.heap.size + 1)) (o := .cells #[.string sb, .int .i64 qb, .string tb, .string kb, .int .i64 eb, .slice bb nb cb, .int .i64 ob, .int .i64 ib] 64 (0, 0)) (by simp [osC]))
            refine ob_c (by first | rfl | (simp [wantE, dstOf, zx1]; done)) ?_ hst rfl
            go_simp
            try with_reducible rfl
          · -- 4: t97 := Op.fieldAddr 64 (t3) 0
            intro zx1 zx2 zx3 zx4 L V W hL hd hw hst u1 e1 p1
            obtain rfl : u1 = _ := p1
            refine ob_c (by first | rfl | (simp [wantE, dstOf, zx1]; done)) ?_ hst rfl
            go_simp
            try with_reducible rfl
          · -- 5: t98 := Op.load 24 (t97)
            intro zx1 zx2 zx3 zx4 L V W hL hd hw hst u4 e4 p4 u1 e1 p1
            obtain rfl : u4 = _ := p4
            obtain rfl : u1 = _ := p1
            obtain ⟨y0, y1, y2, y3, y4, y5, y6, y7⟩ := cells8 (hst.find (g := w.heap.size) (o := .cells #[.string sa, .int .i64 qa, .string ta, .string ka, .int .i64 ea, .slice ba na ca, .int .i64 oa, .int .i64 ia] 64 (0, 0)) (by simp [osC]))
            refine ob_c (by first | rfl | (simp [wantE, dstOf, zx1]; done)) ?_ hst rfl
            go_simp
            try with_reducible rfl
          · -- 6: t99 := Op.call { callee := value (func 28), args := #[t96, t98], argTypes := #[24, 24] }
            intro zx1 zx2 zx3 zx4 L V W hL hd hw hst u3 e3 p3 u5 e5 p5 u1 e1 p1
            obtain rfl : u3 = _ := p3
            obtain rfl : u5 = _ := p5
            obtain rfl : u1 = _ := p1
            refine ob_call (by first | rfl | (simp [wantE, dstOf, zx1]; done)) ?_ (Calls.pV hst (HNP.out ▸ compareID_any _ sb qb sa qa))
            go_simp
            try rfl
          · -- 7: t100 := Op.move (t11)
            intro zx1 zx2 zx3 zx4 L V W hL hd hw hst u1 e1 p1
            obtain rfl : u1 = _ := p1
            refine ob_c (by first | rfl | (simp [wantE, dstOf, zx1]; done)) ?_ hst rfl
            go_simp
            try with_reducible rfl
          · -- 8: t101 := Op.unOp UnOp.neg 3 (t100)
            intro zx1 zx2 zx3 zx4 L V W hL hd hw hst u7 e7 p7 u1 e1 p1
            obtain rfl : u7 = _ := p7
            obtain rfl : u1 = _ := p1
            refine ob_c (by first | rfl | (simp [wantE, dstOf, zx1]; done)) ?_ hst rfl
            go_simp
            all_goals (rw [HWP.out])
          · -- 9: t102 := Op.binOp BinOp.eql 3 (t99) (t101) 3
            intro zx1 zx2 zx3 zx4 L V W hL hd hw hst u6 e6 p6 u8 e8 p8 u1 e1 p1
            obtain rfl : u6 = _ := p6
            obtain rfl : u8 = _ := p8
            obtain rfl : u1 = _ := p1
            refine ob_c (by first | rfl | (simp [wantE, dstOf, zx1]; done)) ?_ hst rfl
            go_simp
            all_goals (simp)
          · -- 10: t103 := Op.pick (t94) (t102) (const (bool false))
            intro zx1 zx2 zx3 zx4 L V W hL hd hw hst u1 e1 p1 u9 e9 p9
            obtain rfl : u1 = _ := p1
            obtain rfl : u9 = _ := p9
            refine ob_c (by first | rfl | (simp [wantE, dstOf, zx1]; done)) ?_ hst rfl
            go_simp
            all_goals (skip)
          · -- 11: t104 := Op.move (t103)
            intro zx1 zx2 zx3 zx4 L V W hL hd hw hst u10 e10 p10
            obtain rfl : u10 = _ := p10
            refine ob_c (by first | rfl | (simp [wantE, dstOf, zx1]; done)) ?_ hst rfl
            go_simp
            all_goals (skip)
          · -- 12: t105 := Op.move (t11)
            intro zx1 zx2 zx3 zx4 L V W hL hd hw hst u11 e11 p11
            obtain rfl : u11 = _ := p11
            refine ob_c (by first | rfl | (simp [wantE, dstOf, zx1]; done)) ?_ hst rfl
            go_simp
            try with_reducible rfl
          · -- 13: t106 := Op.binOp BinOp.eql 3 (t105) (const (int IntKind.i64 0)) 3
            intro zx1 zx2 zx3 zx4 L V W hL hd hw hst u12 e12 p12 u11 e11 p11
            obtain rfl : u12 = _ := p12
            obtain rfl : u11 = _ := p11
            refine ob_c (by first | rfl | (simp [wantE, dstOf, zx1]; done)) ?_ hst rfl
            go_simp
            all_goals (rw [HG13.out])
          · -- 14: t107 := Op.fieldAddr 64 (t3) 0
            intro zx1 zx2 zx3 zx4 L V W hL hd hw hst u11 e11 p11
            obtain rfl : u11 = _ := p11
            refine ob_c (by first | rfl | (simp [wantE, dstOf, zx1]; done)) ?_ hst rfl
            go_simp
            try with_reducible rfl
          · -- 15: t108 := Op.load 24 (t107)
            intro zx1 zx2 zx3 zx4 L V W hL hd hw hst u14 e14 p14 u11 e11 p11
            obtain rfl : u14 = _ := p14
            obtain rfl : u11 = _ := p11
            obtain ⟨y0, y1, y2, y3, y4, y5, y6, y7⟩ := cells8 (hst.find (g := w.heap.size) (o := .cells #[.string sa, .int .i64 qa, .string ta, .string ka, .int .i64 ea, .slice ba na ca, .int .i64 oa, .int .i64 ia] 64 (0, 0)) (by simp [osC]))
            refine ob_c (by first | rfl | (simp [wantE, dstOf, zx1]; done)) ?_ hst rfl
            go_simp
            try with_reducible rfl
          · -- 16: t109 := Op.fieldAddr 64 (t4) 0
            intro zx1 zx2 zx3 zx4 L V W hL hd hw hst u11 e11 p11
            obtain rfl : u11 = _ := p11
            refine ob_c (by first | rfl | (simp [wantE, dstOf, zx1]; done)) ?_ hst rfl
            go_simp
            try with_reducible rfl
          · -- 17: t110 := Op.load 24 (t109)
            intro zx1 zx2 zx3 zx4 L V W hL hd hw hst u16 e16 p16 u11 e11 p11
            obtain rfl : u16 = _ := p16
            obtain rfl : u11 = _ := p11
            obtain ⟨y0, y1, y2, y3, y4, y5, y6, y7⟩ := cells8 (hst.find (g := (w.heap.size + 1)) (o := .cells #[.string sb, .int .i64 qb, .string tb, .string kb, .int .i64 eb, .slice bb nb cb, .int .i64 ob, .int .i64 ib] 64 (0, 0)) (by simp [osC]))
            refine ob_c (by first | rfl | (simp [wantE, dstOf, zx1]; done)) ?_ hst rfl
            go_simp
            try with_reducible rfl
          · -- 18: t111 := Op.binOp BinOp.eql 24 (t108) (t110) 24
            intro zx1 zx2 zx3 zx4 L V W hL hd hw hst u15 e15 p15 u17 e17 p17 u11 e11 p11
            obtain rfl : u15 = _ := p15
            obtain rfl : u17 = _ := p17
            obtain rfl : u11 = _ := p11
            refine ob_c (by first | rfl | (simp [wantE, dstOf, zx1]; done)) ?_ hst rfl
            go_simp
            all_goals (rw [← HG18.out]; by_cases i1 : sa.toList = sb.toList <;> by_cases i2 : qa = qb <;> simp [i1, i2])
          · -- 19: t112 := Op.binOp BinOp.eql 4 (t106) (t111) 4
            intro zx1 zx2 zx3 zx4 L V W hL hd hw hst u13 e13 p13 u18 e18 p18 u11 e11 p11
            obtain rfl : u13 = _ := p13
            obtain rfl : u18 = _ := p18
            obtain rfl : u11 = _ := p11
            refine ob_c (by first | rfl | (simp [wantE, dstOf, zx1]; done)) ?_ hst rfl
            go_simp
            all_goals (simp)
          · -- 20: t113 := Op.pick (t104) (t112) (const (bool false))
            intro zx1 zx2 zx3 zx4 L V W hL hd hw hst u11 e11 p11 u19 e19 p19
            obtain rfl : u11 = _ := p11
            obtain rfl : u19 = _ := p19
            refine ob_c (by first | rfl | (simp [wantE, dstOf, zx1]; done)) ?_ hst rfl
            go_simp
            all_goals (skip)
          · -- 21: t114 := Op.move (t113)
            intro zx1 zx2 zx3 zx4 L V W hL hd hw hst u20 e20 p20
            obtain rfl : u20 = _ := p20
            refine ob_c (by first | rfl | (simp [wantE, dstOf, zx1]; done)) ?_ hst rfl
            go_simp
            all_goals (skip)
          · -- 22: t115 := Op.move (t11)
            intro zx1 zx2 zx3 zx4 L V W hL hd hw hst u21 e21 p21
            obtain rfl : u21 = _ := p21
            refine ob_c (by first | rfl | (simp [wantE, dstOf, zx1]; done)) ?_ hst rfl
            go_simp
            try with_reducible rfl
          · -- 23: t116 := Op.binOp BinOp.gtr 3 (t115) (const (int IntKind.i64 0)) 3
            intro zx1 zx2 zx3 zx4 L V W hL hd hw hst u22 e22 p22 u21 e21 p21
            obtain rfl : u22 = _ := p22
            obtain rfl : u21 = _ := p21
            refine ob_c (by first | rfl | (simp [wantE, dstOf, zx1]; done)) ?_ hst rfl
            go_simp
            all_goals (rw [HG24.out])
          · -- 24: t117 := Op.move (t116)
            intro zx1 zx2 zx3 zx4 L V W hL hd hw hst u23 e23 p23 u21 e21 p21
            obtain rfl : u23 = _ := p23
            obtain rfl : u21 = _ := p21
            refine ob_c (by first | rfl | (simp [wantE, dstOf, zx1]; done)) ?_ hst rfl
            go_simp
            all_goals (skip)
          · -- 25: t118 := Op.move (t12)
            intro zx1 zx2 zx3 zx4 L V W hL hd hw hst u24 e24 p24
            obtain rfl : u24 = _ := p24
            refine ob_if (fun hg => ?_) hst rfl (fun hg => ?_)
            · simp [wantE, dstOf, zx1, hg]
            refine ob_c (by simp [wantE, dstOf, zx1, hg]) ?_ hst rfl
            go_simp
            all_goals (skip)
          · -- 26: t119 := Op.binOp BinOp.gtr 3 (t118) (const (int IntKind.i64 0)) 3
            intro zx1 zx2 zx3 zx4 L V W hL hd hw hst u25 e25 p25 u24 e24 p24
            obtain rfl : u24 = _ := p24
            refine ob_if (fun hg => ?_) hst rfl (fun hg => ?_)
            · simp [wantE, dstOf, zx1, hg]
            obtain rfl : u25 = _ := p25 (by first | exact hg | simpa using hg | simp_all)
            refine ob_c (by simp [wantE, dstOf, zx1, hg]) ?_ hst rfl
            go_simp
            all_goals (rw [HG26.out])
          · -- 27: t120 := Op.pick (t117) (const (bool true)) (t119)
            intro zx1 zx2 zx3 zx4 L V W hL hd hw hst u24 e24 p24 u26 e26 p26 u21 e21 p21
            obtain rfl : u24 = _ := p24
            obtain rfl : u21 = _ := p21
            cases g24 with
            | true =>
              refine ob_c (by first | rfl | (simp [wantE, dstOf, zx1]; done)) ?_ hst rfl
              go_simp
            | false =>
              obtain rfl : u26 = _ := p26 rfl
              refine ob_c (by first | rfl | (simp [wantE, dstOf, zx1]; done)) ?_ hst rfl
              go_simp
          · -- 28: t121 := Op.move (t120)
            intro zx1 zx2 zx3 zx4 L V W hL hd hw hst u27 e27 p27 u21 e21 p21
            obtain rfl : u27 = _ := p27
            obtain rfl : u21 = _ := p21
            refine ob_c (by first | rfl | (simp [wantE, dstOf, zx1]; done)) ?_ hst rfl
            go_simp
            all_goals (rw [HB28.out])
          · -- 29: t122 := Op.move (t13)
            intro zx1 zx2 zx3 zx4 L V W hL hd hw hst u28 e28 p28
            obtain rfl : u28 = _ := p28
            refine ob_if (fun hg => ?_) hst rfl (fun hg => ?_)
            · simp [wantE, dstOf, zx1, hg]
            refine ob_c (by simp [wantE, dstOf, zx1, hg]) ?_ hst rfl
            go_simp
            all_goals (skip)
          · -- 30: t123 := Op.binOp BinOp.leq 3 (t122) (const (int IntKind.i64 0)) 3
            intro zx1 zx2 zx3 zx4 L V W hL hd hw hst u29 e29 p29 u28 e28 p28
            obtain rfl : u28 = _ := p28
            refine ob_if (fun hg => ?_) hst rfl (fun hg => ?_)
            · simp [wantE, dstOf, zx1, hg]
            obtain rfl : u29 = _ := p29 (by first | exact hg | simpa using hg | simp_all)
            refine ob_c (by simp [wantE, dstOf, zx1, hg]) ?_ hst rfl
            go_simp
            all_goals (rw [HG30.out])
          · -- 31: t124 := Op.pick (t121) (const (bool true)) (t123)
            intro zx1 zx2 zx3 zx4 L V W hL hd hw hst u28 e28 p28 u30 e30 p30 u21 e21 p21
            obtain rfl : u28 = _ := p28
            obtain rfl : u21 = _ := p21
            cases b28 with
            | true =>
              refine ob_c (by first | rfl | (simp [wantE, dstOf, zx1]; done)) ?_ hst rfl
              go_simp
            | false =>
              obtain rfl : u30 = _ := p30 rfl
              refine ob_c (by first | rfl | (simp [wantE, dstOf, zx1]; done)) ?_ hst rfl
              go_simp
          · -- 32: t125 := Op.pick (t114) (t124) (const (bool false))
            intro zx1 zx2 zx3 zx4 L V W hL hd hw hst u21 e21 p21 u31 e31 p31
            obtain rfl : u21 = _ := p21
            obtain rfl : u31 = _ := p31
            refine ob_c (by first | rfl | (simp [wantE, dstOf, zx1]; done)) ?_ hst rfl
            go_simp
            all_goals (have hpp := HP31.out; revert hpp; cases b28 <;> cases g30 <;> simp)
          · -- 33: t126 := Op.move (t125)
            intro zx1 zx2 zx3 zx4 L V W hL hd hw hst u32 e32 p32
            obtain rfl : u32 = _ := p32
            refine ob_c (by first | rfl | (simp [wantE, dstOf, zx1]; done)) ?_ hst rfl
            go_simp
            all_goals (skip)
          · -- 34: t127 := Op.fieldAddr 64 (t3) 3
            intro zx1 zx2 zx3 zx4 L V W hL hd hw hst u33 e33 p33
            obtain rfl : u33 = _ := p33
            refine ob_c (by first | rfl | (simp [wantE, dstOf, zx1]; done)) ?_ hst rfl
            go_simp
            try with_reducible rfl
          · -- 35: t128 := Op.load 3 (t127)
            intro zx1 zx2 zx3 zx4 L V W hL hd hw hst u34 e34 p34 u33 e33 p33
            obtain rfl : u34 = _ := p34
            obtain rfl : u33 = _ := p33
            obtain ⟨y0, y1, y2, y3, y4, y5, y6, y7⟩ := cells8 (hst.find (g := w.heap.size) (o := .cells #[.string sa, .int .i64 qa, .string ta, .string ka, .int .i64 ea, .slice ba na ca, .int .i64 oa, .int .i64 ia] 64 (0, 0)) (by simp [osC]))
            refine ob_c (by first | rfl | (simp [wantE, dstOf, zx1]; done)) ?_ hst rfl
            go_simp
            try with_reducible rfl
          · -- 36: t129 := Op.fieldAddr 64 (t4) 3
            intro zx1 zx2 zx3 zx4 L V W hL hd hw hst u33 e33 p33
            obtain rfl : u33 = _ := p33
            refine ob_c (by first | rfl | (simp [wantE, dstOf, zx1]; done)) ?_ hst rfl
            go_simp
            try with_reducible rfl
          · -- 37: t130 := Op.load 3 (t129)
            intro zx1 zx2 zx3 zx4 L V W hL hd hw hst u36 e36 p36 u33 e33 p33
            obtain rfl : u36 = _ := p36
            obtain rfl : u33 = _ := p33
            obtain ⟨y0, y1, y2, y3, y4, y5, y6, y7⟩ := cells8 (hst.find (g := (w.heap.size + 1)) (o := .cells #[.string sb, .int .i64 qb, .string tb, .string kb, .int .i64 eb, .slice bb nb cb, .int .i64 ob, .int .i64 ib] 64 (0, 0)) (by simp [osC]))
            refine ob_c (by first | rfl | (simp [wantE, dstOf, zx1]; done)) ?_ hst rfl
            go_simp
            try with_reducible rfl
          · -- 38: t131 := Op.binOp BinOp.neq 3 (t128) (t130) 3
            intro zx1 zx2 zx3 zx4 L V W hL hd hw hst u35 e35 p35 u37 e37 p37 u33 e33 p33
            obtain rfl : u35 = _ := p35
            obtain rfl : u37 = _ := p37
            obtain rfl : u33 = _ := p33
            refine ob_c (by first | rfl | (simp [wantE, dstOf, zx1]; done)) ?_ hst rfl
            go_simp
            all_goals (rw [HG39.out])
          · -- 39: t132 := Op.move (t131)
            intro zx1 zx2 zx3 zx4 L V W hL hd hw hst u38 e38 p38 u33 e33 p33
            obtain rfl : u38 = _ := p38
            obtain rfl : u33 = _ := p33
            refine ob_c (by first | rfl | (simp [wantE, dstOf, zx1]; done)) ?_ hst rfl
            go_simp
            all_goals (skip)
          · -- 40: t133 := Op.move (t8)
            intro zx1 zx2 zx3 zx4 L V W hL hd hw hst u39 e39 p39
            obtain rfl : u39 = _ := p39
            refine ob_if (fun hg => ?_) hst rfl (fun hg => ?_)
            · simp [wantE, dstOf, zx1, hg]
            refine ob_c (by simp [wantE, dstOf, zx1, hg]) ?_ hst rfl
            go_simp
            all_goals (skip)
          · -- 41: t134 := Op.move (t11)
            intro zx1 zx2 zx3 zx4 L V W hL hd hw hst u39 e39 p39
            obtain rfl : u39 = _ := p39
            refine ob_if (fun hg => ?_) hst rfl (fun hg => ?_)
            · simp [wantE, dstOf, zx1, hg]
            refine ob_c (by simp [wantE, dstOf, zx1, hg]) ?_ hst rfl
            go_simp
            all_goals (skip)
          · -- 42: t135 := Op.binOp BinOp.eql 3 (t133) (t134) 3
            intro zx1 zx2 zx3 zx4 L V W hL hd hw hst u40 e40 p40 u41 e41 p41 u39 e39 p39
            obtain rfl : u39 = _ := p39
            refine ob_if (fun hg => ?_) hst rfl (fun hg => ?_)
            · simp [wantE, dstOf, zx1, hg]
            obtain rfl : u40 = _ := p40 (by first | exact hg | simpa using hg | simp_all)
            obtain rfl : u41 = _ := p41 (by first | exact hg | simpa using hg | simp_all)
            refine ob_c (by simp [wantE, dstOf, zx1, hg]) ?_ hst rfl
            go_simp
            all_goals (rw [HG42.out])
          · -- 43: t136 := Op.pick (t132) (const (bool true)) (t135)
            intro zx1 zx2 zx3 zx4 L V W hL hd hw hst u39 e39 p39 u42 e42 p42 u33 e33 p33
            obtain rfl : u39 = _ := p39
            obtain rfl : u33 = _ := p33
            cases g39 with
            | true =>
              refine ob_c (by first | rfl | (simp [wantE, dstOf, zx1]; done)) ?_ hst rfl
              go_simp
            | false =>
              obtain rfl : u42 = _ := p42 rfl
              refine ob_c (by first | rfl | (simp [wantE, dstOf, zx1]; done)) ?_ hst rfl
              go_simp
          · -- 44: t137 := Op.pick (t126) (t136) (const (bool false))
            intro zx1 zx2 zx3 zx4 L V W hL hd hw hst u33 e33 p33 u43 e43 p43
            obtain rfl : u33 = _ := p33
            obtain rfl : u43 = _ := p43
            refine ob_c (by first | rfl | (simp [wantE, dstOf, zx1]; done)) ?_ hst rfl
            go_simp
            all_goals (have hpp := HP43.out; revert hpp; cases g39 <;> cases g42 <;> simp)
          · -- 45: t6 := Op.assign (t137)
            intro zx1 zx2 zx3 zx4 L V W hL hd hw hst u44 e44 p44
            obtain rfl : u44 = _ := p44
            refine ob_c rfl ?_ hst rfl
            go_simp
            try with_reducible rfl
        case en =>
          intro V W hst u0 e0 p0 u1 e1 p1 u2 e2 p2 u3 e3 p3 u4 e4 p4 u5 e5 p5 u6 e6 p6 u7 e7 p7 u8 e8 p8 u9 e9 p9 u10 e10 p10 u11 e11 p11 u12 e12 p12 u13 e13 p13 u14 e14 p14 u15 e15 p15 u16 e16 p16 u17 e17 p17 u18 e18 p18 u19 e19 p19 u20 e20 p20 u21 e21 p21 u22 e22 p22 u23 e23 p23 u24 e24 p24 u25 e25 p25 u26 e26 p26 u27 e27 p27 u28 e28 p28 u29 e29 p29 u30 e30 p30 u31 e31 p31 u32 e32 p32 u33 e33 p33 u34 e34 p34 u35 e35 p35 u36 e36 p36 u37 e37 p37 u38 e38 p38 u39 e39 p39 u40 e40 p40 u41 e41 p41 u42 e42 p42 u43 e43 p43 u44 e44 p44 u45 e45 p45
          obtain rfl : u0 = _ := p0
          obtain rfl : u1 = _ := p1
          obtain rfl : u2 = _ := p2
          obtain rfl : u3 = _ := p3
          obtain rfl : u4 = _ := p4
          obtain rfl : u5 = _ := p5
          obtain rfl : u6 = _ := p6
          obtain rfl : u7 = _ := p7
          obtain rfl : u8 = _ := p8
          obtain rfl : u9 = _ := p9
          obtain rfl : u10 = _ := p10
          obtain rfl : u11 = _ := p11
          obtain rfl : u12 = _ := p12
          obtain rfl : u13 = _ := p13
          obtain rfl : u14 = _ := p14
          obtain rfl : u15 = _ := p15
          obtain rfl : u16 = _ := p16
          obtain rfl : u17 = _ := p17
          obtain rfl : u18 = _ := p18
          obtain rfl : u19 = _ := p19
          obtain rfl : u20 = _ := p20
          obtain rfl : u21 = _ := p21
          obtain rfl : u22 = _ := p22
          obtain rfl : u23 = _ := p23
          obtain rfl : u24 = _ := p24
          obtain rfl : u27 = _ := p27
          obtain rfl : u28 = _ := p28
          obtain rfl : u31 = _ := p31
          obtain rfl : u32 = _ := p32
          obtain rfl : u33 = _ := p33
          obtain rfl : u34 = _ := p34
          obtain rfl : u35 = _ := p35
          obtain rfl : u36 = _ := p36
          obtain rfl : u37 = _ := p37
          obtain rfl : u38 = _ := p38
          obtain rfl : u39 = _ := p39
          obtain rfl : u43 = _ := p43
          obtain rfl : u44 = _ := p44
          obtain rfl : u45 = _ := p45
          simp only [EndAll, Act.put, List.getElem_toArray, List.getElem_cons_succ, List.getElem_cons_zero, List.setIfInBounds_toArray, List.set_cons_zero, List.set_cons_succ]
          rw [show osC [((w.heap.size + 1 + 1), .cells #[.string sc, .int .i64 qc, .string tc, .string kc, .int .i64 ec, .slice bc nc cc, .int .i64 oc, .int .i64 ic] 64 (0, 0)), ((w.heap.size + 1), .cells #[.string sb, .int .i64 qb, .string tb, .string kb, .int .i64 eb, .slice bb nb cb, .int .i64 ob, .int .i64 ib] 64 (0, 0)), (w.heap.size, .cells #[.string sa, .int .i64 qa, .string ta, .string ka, .int .i64 ea, .slice ba na ca, .int .i64 oa, .int .i64 ia] 64 (0, 0))] (fun _ => true) V = [((w.heap.size + 1 + 1), .cells #[.string sc, .int .i64 qc, .string tc, .string kc, .int .i64 ec, .slice bc nc cc, .int .i64 oc, .int .i64 ic] 64 (0, 0)), ((w.heap.size + 1), .cells #[.string sb, .int .i64 qb, .string tb, .string kb, .int .i64 eb, .slice bb nb cb, .int .i64 ob, .int .i64 ib] 64 (0, 0)), (w.heap.size, .cells #[.string sa, .int .i64 qa, .string ta, .string ka, .int .i64 ea, .slice ba na ca, .int .i64 oa, .int .i64 ia] 64 (0, 0))] from rfl] at hst
          clear h4
          go_wp2_with fail
          go_ret
          exact ⟨rfl, hst.below⟩
end Go.Proofs.Ytfpkibfofainaaa
