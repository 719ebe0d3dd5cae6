/- The specification of facts: the cursor's methods. -/
import Derived.Test.YtfpkibfofainaaaZR4S
import Derived.Test.YtfpkibfofainaaaZPart
import Derived.Test.YtfpkibfofainaaaZRdp
import Derived.Test.YtfpkibfofainaaaZGB
set_option linter.unusedVariables false
set_option linter.unusedSimpArgs false
namespace Go.Proofs.Ytfpkibfofainaaa
open Go.RowKit

@[reducible] def curO (bs : Option Addr) (n bc : Nat) (a c : Int) : Obj := .cells #[.slice bs n bc, .int .i64 a, .int .i64 c] 99 (0, 0)
theorem cellJ {W : World} {g j : Nat} {cs : Array Value} {t : TypeId} {v : Value} (h : W.heap[g]? = some (.cells cs t (0, 0))) (hj : cs[j]? = some v) : W.cell? ⟨g, j, none⟩ = some v ∧ W.frozen? ⟨g, j, none⟩ = false := ⟨by rw [cell_of_row _ _ _ _ _ _ h]; exact hj, frozen_of_row _ _ _ _ _ h⟩
/-- The offsets stay small. -/
theorem readU_small (l : List UInt8) (i M : Int) (hl : (l.length : Int) ≤ M) : (Wire.readU l i).2.1 ≤ M := by
  rcases readU_cases l i with ⟨c, -, h⟩ | ⟨j, m, n, -, -, hm, h, -, -⟩
  · rw [h]; show (0 : Int) ≤ M; omega
  · rw [h]; show (m : Int) ≤ M; omega
theorem stU_small (l : List UInt8) (a c M : Int) (hl : (l.length : Int) ≤ M) (ha : a ≤ M) : (stU l (a, c)).2.1 ≤ M := by
  unfold stU; split
  · exact readU_small l _ M hl
  · exact ha
theorem stI_small (l : List UInt8) (a c M : Int) (hl : (l.length : Int) ≤ M) (ha : a ≤ M) : (stI l (a, c)).2.1 ≤ M := by
  unfold stI; split
  · have h := readU_small l a M hl
    unfold Wire.readI
    simp only
    split
    · exact h
    · show (0 : Int) ≤ M; omega
  · exact ha
theorem readT_small (l : List UInt8) (i M : Int) (hl : (l.length : Int) ≤ M) : (Wire.readT l i).2.1 ≤ M := by
  rcases readT_cases l i with ⟨c, -, h⟩ | ⟨j, m, s, -, -, hm, h, -, -⟩
  · rw [h]; show (0 : Int) ≤ M; omega
  · rw [h]; show (m : Int) ≤ M; omega
theorem stT_small (l : List UInt8) (a c M : Int) (hl : (l.length : Int) ≤ M) (ha : a ≤ M) : (stT l (a, c)).2.1 ≤ M := by
  unfold stT; split
  · exact readT_small l _ M hl
  · exact ha
theorem readV_small (l : List UInt8) (i M : Int) (hl : (l.length : Int) ≤ M) : (readV l i).2.1 ≤ M + 2 := by
  unfold readV
  split
  · show (0 : Int) ≤ M + 2; omega
  · rename_i hb
    split
    · show (0 : Int) ≤ M + 2; omega
    · rename_i hb2
      have hi : i ≤ M := by omega
      have h : (readV0 l i).2.1 ≤ M + 2 := by
        have hI := stI_small l (i + 1) 0 (M + 2) (by omega) (by omega)
        have hT := stT_small l (i + 1) 0 (M + 2) (by omega) (by omega)
        unfold stI at hI
        unfold stT at hT
        rw [if_pos rfl] at hI hT
        unfold readV0
        simp only
        split
        · show i + 1 ≤ M + 2; omega
        · split
          · split
            · show i + 1 + 1 ≤ M + 2; omega
            · show i + 1 + 1 ≤ M + 2; omega
          · split
            · exact hI
            · split
              · exact hT
              · show i + 1 ≤ M + 2; omega
      unfold checked
      split
      · split
        · exact h
        · show (0 : Int) ≤ M + 2; omega
      · show (0 : Int) ≤ M + 2; omega

section
variable {w0 W : World} {gf gc : Nat} {F : Obj} {bs : Option Addr} {n bc : Nat} {at_ c : Int} {oo : List (Nat × Obj)} {l : List UInt8} {fs : List (World → Prop)}

set_option maxRecDepth 8000 in
set_option maxHeartbeats 4000000 in
theorem curT_s (h : St w0 W ((gf, F) :: (gc, curO bs n bc at_ c) :: oo) ((IsBytes · (.slice bs n bc) l) :: fs)) (hl : l.length ≤ 1099511627776) (hi : at_ ≤ 9223372036854775807) :
    Calls Try.prog 60 #[.pointer (some ⟨gc, 0, none⟩)] W fun e w' => e = .returned (.string ⟨((stT l (at_, c)).1).toArray⟩) ∧ St w0 w' ((gf, F) :: (gc, curO bs n bc (stT l (at_, c)).2.1 (stT l (at_, c)).2.2) :: oo) ((IsBytes · (.slice bs n bc) l) :: fs) := by
  obtain ⟨x, a', c', hr⟩ : ∃ x a' c', stT l (at_, c) = (x, a', c') := ⟨_, _, _, rfl⟩
  rw [hr]
  have HR := Lib.hid hr
  clear hr
  obtain ⟨p0, q0⟩ := cellJ (j := 0) (h.at_ 1 rfl) rfl
  obtain ⟨p1, q1⟩ := cellJ (j := 1) (h.at_ 1 rfl) rfl
  obtain ⟨p2, q2⟩ := cellJ (j := 2) (h.at_ 1 rfl) rfl
  go_enter Try.func60, Try.ntmps60
  by_cases hc : c = 0
  · subst hc
    have hr : Wire.readT l at_ = (x, a', c') := by rw [← HR.out]; unfold stT; rw [if_pos rfl]
    have HRC : Hid (∀ w' : World, IsBytes w' (.slice bs n bc) l → Calls Try.prog 74 #[.slice bs n bc, .int .i64 at_] w' fun e w2 => e = .returned (.tuple #[.string ⟨(x).toArray⟩, .int .i64 a', .int .i64 c']) ∧ w2 = w') := Lib.hid fun w' hb => by
      have := refReadText_any w' (.slice bs n bc) l at_ hb hi (by omega)
      rw [hr] at this
      exact this
    clear hr
    go_upto_region 3 with fail
    clear p0 q0 p1 q1 p2 q2
    refine wp_region_st [pVal ?ccT_0, pVal ?ccT_1, pVal ?ccT_2, pVal (.slice bs n bc), pVal ?ccT_4, pVal ?ccT_5, pVal ?ccT_6, pVal (.int .i64 at_), pVal (.tuple #[.string ⟨(x).toArray⟩, .int .i64 a', .int .i64 c']), pVal ?ccT_9, pVal ?ccT_10, pVal ?ccT_11, pVal ?ccT_12, pVal ?ccT_13, pVal ?ccT_14, pVal ?ccT_15] (osC ((gf, F) :: (gc, curO bs n bc at_ 0) :: oo)) 33 [0, 1, 3, 7, 0, 16, 48, 112, 255, 511, 1023, 1023, 1023, 2047, 12287, 32767] [[], [(0, 12)], [(1, 13)], [(2, 14)], [], [(4, 16)], [(5, 17)], [(6, 18)], [(7, 19), (3, 15)], [(8, 20)], [(9, 11)], [(9, 11)], [(9, 11)], [(10, 21)], [(11, 22)], [(12, 23)]] [(0, 12), (1, 13), (2, 14), (3, 15), (4, 16), (5, 17), (6, 18), (7, 19), (8, 20), (9, 11), (10, 21), (11, 22), (12, 23), (13, 3), (14, 4), (15, 5)] (by kernel_rfl) (by kernel_rfl) rfl rfl h osC0 osC1 ?ob ?en
    case ob =>
      refine ⟨?_, ?_, ?_, ?_, ?_, ?_, ?_, ?_, ?_, ?_, ?_, ?_, ?_, ?_, ?_, ?_, trivial⟩
      · -- 0: t12 := Op.move (t0)
        intro zx1 zx2 zx3 zx4 L V W hL hd hw hst 
        refine ob_c rfl ?_ hst rfl
        go_simp
        try with_reducible rfl
      · -- 1: t13 := Op.nilCheck (t12)
        intro zx1 zx2 zx3 zx4 L V W hL hd hw hst u0 e0 p0
        obtain rfl : u0 = _ := p0
        refine ob_c rfl ?_ hst rfl
        go_simp
        try with_reducible rfl
      · -- 2: t14 := Op.fieldAddr 99 (t13) 0
        intro zx1 zx2 zx3 zx4 L V W hL hd hw hst u1 e1 p1
        obtain rfl : u1 = _ := p1
        refine ob_c rfl ?_ hst rfl
        go_simp
        try with_reducible rfl
      · -- 3: t15 := Op.load 22 (t14)
        intro zx1 zx2 zx3 zx4 L V W hL hd hw hst u2 e2 p2
        obtain rfl : u2 = _ := p2
        obtain ⟨z, zf⟩ := cellJ (j := 0) (hst.find (g := gc) (o := curO bs n bc at_ 0) (by simp [osC])) rfl
        refine ob_c rfl ?_ hst rfl
        go_simp
        try with_reducible rfl
      · -- 4: t16 := Op.move (t0)
        intro zx1 zx2 zx3 zx4 L V W hL hd hw hst 
        refine ob_c rfl ?_ hst rfl
        go_simp
        try with_reducible rfl
      · -- 5: t17 := Op.nilCheck (t16)
        intro zx1 zx2 zx3 zx4 L V W hL hd hw hst u4 e4 p4
        obtain rfl : u4 = _ := p4
        refine ob_c rfl ?_ hst rfl
        go_simp
        try with_reducible rfl
      · -- 6: t18 := Op.fieldAddr 99 (t17) 1
        intro zx1 zx2 zx3 zx4 L V W hL hd hw hst u5 e5 p5
        obtain rfl : u5 = _ := p5
        refine ob_c rfl ?_ hst rfl
        go_simp
        try with_reducible rfl
      · -- 7: t19 := Op.load 3 (t18)
        intro zx1 zx2 zx3 zx4 L V W hL hd hw hst u6 e6 p6
        obtain rfl : u6 = _ := p6
        obtain ⟨z, zf⟩ := cellJ (j := 1) (hst.find (g := gc) (o := curO bs n bc at_ 0) (by simp [osC])) rfl
        refine ob_c rfl ?_ hst rfl
        go_simp
        try with_reducible rfl
      · -- 8: t20 := Op.call { callee := value (func 74), args := #[t15, t19], argTypes := #[22, 3] }
        intro zx1 zx2 zx3 zx4 L V W hL hd hw hst u3 e3 p3 u7 e7 p7
        obtain rfl : u3 = _ := p3
        obtain rfl : u7 = _ := p7
        refine ob_call (by first | rfl | (simp [wantE, dstOf, zx1]; done)) ?_ (Calls.pV' hst (HRC.out _ ((hst.base 0 rfl : IsBytes _ _ _).sub (mask_is _ _))))
        go_simp
        try rfl
      · -- 9: t11 := Op.move (t20)
        intro zx1 zx2 zx3 zx4 L V W hL hd hw hst u8 e8 p8
        obtain rfl : u8 = _ := p8
        refine ob_c rfl ?_ hst rfl
        go_simp
        try with_reducible rfl
      · -- 10: t21 := Op.extract (t11) 0
        intro zx1 zx2 zx3 zx4 L V W hL hd hw hst u9 e9 p9
        obtain rfl : u9 = _ := p9
        refine ob_c rfl ?_ hst rfl
        go_simp
        try with_reducible rfl
      · -- 11: t22 := Op.extract (t11) 1
        intro zx1 zx2 zx3 zx4 L V W hL hd hw hst u9 e9 p9
        obtain rfl : u9 = _ := p9
        refine ob_c rfl ?_ hst rfl
        go_simp
        try with_reducible rfl
      · -- 12: t23 := Op.extract (t11) 2
        intro zx1 zx2 zx3 zx4 L V W hL hd hw hst u9 e9 p9
        obtain rfl : u9 = _ := p9
        refine ob_c rfl ?_ hst rfl
        go_simp
        try with_reducible rfl
      · -- 13: t3 := Op.assign (t21)
        intro zx1 zx2 zx3 zx4 L V W hL hd hw hst u10 e10 p10
        obtain rfl : u10 = _ := p10
        refine ob_c rfl ?_ hst rfl
        go_simp
        try with_reducible rfl
      · -- 14: t4 := Op.assign (t22)
        intro zx1 zx2 zx3 zx4 L V W hL hd hw hst u11 e11 p11
        obtain rfl : u11 = _ := p11
        refine ob_c rfl ?_ hst rfl
        go_simp
        try with_reducible rfl
      · -- 15: t5 := Op.assign (t23)
        intro zx1 zx2 zx3 zx4 L V W hL hd hw hst u12 e12 p12
        obtain rfl : u12 = _ := p12
        refine ob_c rfl ?_ hst rfl
        go_simp
        try with_reducible rfl
    case en =>
      intro V W hst u0 e0 p0 u1 e1 p1 u2 e2 p2 u3 e3 p3 u4 e4 p4 u5 e5 p5 u6 e6 p6 u7 e7 p7 u8 e8 p8 u9 e9 p9 u10 e10 p10 u11 e11 p11 u12 e12 p12 u13 e13 p13 u14 e14 p14 u15 e15 p15
      obtain rfl : u0 = _ := p0
      obtain rfl : u1 = _ := p1
      obtain rfl : u2 = _ := p2
      obtain rfl : u3 = _ := p3
      obtain rfl : u4 = _ := p4
      obtain rfl : u5 = _ := p5
      obtain rfl : u6 = _ := p6
      obtain rfl : u7 = _ := p7
      obtain rfl : u8 = _ := p8
      obtain rfl : u9 = _ := p9
      obtain rfl : u10 = _ := p10
      obtain rfl : u11 = _ := p11
      obtain rfl : u12 = _ := p12
      obtain rfl : u13 = _ := p13
      obtain rfl : u14 = _ := p14
      obtain rfl : u15 = _ := p15
      simp only [EndAll, Act.put, List.getElem_toArray, List.getElem_cons_succ, List.getElem_cons_zero, List.setIfInBounds_toArray, List.set_cons_zero, List.set_cons_succ]
      rw [show osC ((gf, F) :: (gc, curO bs n bc at_ 0) :: oo) (fun _ => true) V = ((gf, F) :: (gc, curO bs n bc at_ 0) :: oo) from rfl] at hst
      clear h
      obtain ⟨p1, q1⟩ := cellJ (j := 1) (hst.at_ 1 rfl) rfl
      obtain ⟨p2, q2⟩ := cellJ (j := 2) (hst.at_ 1 rfl) rfl
      have h2 : St w0 ((World.setCell W ⟨gc, 1, none⟩ (.int .i64 a')).setCell ⟨gc, 2, none⟩ (.int .i64 c')) ((gf, F) :: (gc, curO bs n bc a' c') :: oo) ((IsBytes · (.slice bs n bc) l) :: fs) := (hst.setCell (os1 := [_]) (i := 1) (v := .int .i64 a')).setCell (os1 := [_]) (i := 2) (v := .int .i64 c')
      go_wp2_with fail
      go_ret
      exact ⟨rfl, h2⟩
  · have hr := HR.out
    unfold stT at hr
    rw [if_neg hc] at hr
    have n1 := beq_of hc
    have n2 := bne_of hc
    cases hr
    go_wp2_with fail
    go_ret
    exact ⟨rfl, h⟩

set_option maxRecDepth 8000 in
set_option maxHeartbeats 4000000 in
theorem curI_s (h : St w0 W ((gf, F) :: (gc, curO bs n bc at_ c) :: oo) ((IsBytes · (.slice bs n bc) l) :: fs)) (hl : l.length ≤ 1099511627776) (hi : at_ ≤ 9223372036854775807) :
    Calls Try.prog 61 #[.pointer (some ⟨gc, 0, none⟩)] W fun e w' => e = .returned (.int .i64 ((stI l (at_, c)).1)) ∧ St w0 w' ((gf, F) :: (gc, curO bs n bc (stI l (at_, c)).2.1 (stI l (at_, c)).2.2) :: oo) ((IsBytes · (.slice bs n bc) l) :: fs) := by
  obtain ⟨x, a', c', hr⟩ : ∃ x a' c', stI l (at_, c) = (x, a', c') := ⟨_, _, _, rfl⟩
  rw [hr]
  have HR := Lib.hid hr
  clear hr
  obtain ⟨p0, q0⟩ := cellJ (j := 0) (h.at_ 1 rfl) rfl
  obtain ⟨p1, q1⟩ := cellJ (j := 1) (h.at_ 1 rfl) rfl
  obtain ⟨p2, q2⟩ := cellJ (j := 2) (h.at_ 1 rfl) rfl
  go_enter Try.func61, Try.ntmps61
  by_cases hc : c = 0
  · subst hc
    have hr : Wire.readI l at_ = (x, a', c') := by rw [← HR.out]; unfold stI; rw [if_pos rfl]
    have HRC : Hid (∀ w' : World, IsBytes w' (.slice bs n bc) l → Calls Try.prog 75 #[.slice bs n bc, .int .i64 at_] w' fun e w2 => e = .returned (.tuple #[.int .i64 (x), .int .i64 a', .int .i64 c']) ∧ w2 = w') := Lib.hid fun w' hb => by
      have := refReadInt_any w' (.slice bs n bc) l at_ hb hi (by omega)
      rw [hr] at this
      exact this
    clear hr
    go_upto_region 3 with fail
    clear p0 q0 p1 q1 p2 q2
    refine wp_region_st [pVal ?ccI_0, pVal ?ccI_1, pVal ?ccI_2, pVal (.slice bs n bc), pVal ?ccI_4, pVal ?ccI_5, pVal ?ccI_6, pVal (.int .i64 at_), pVal (.tuple #[.int .i64 (x), .int .i64 a', .int .i64 c']), pVal ?ccI_9, pVal ?ccI_10, pVal ?ccI_11, pVal ?ccI_12, pVal ?ccI_13, pVal ?ccI_14, pVal ?ccI_15] (osC ((gf, F) :: (gc, curO bs n bc at_ 0) :: oo)) 33 [0, 1, 3, 7, 0, 16, 48, 112, 255, 511, 1023, 1023, 1023, 2047, 12287, 32767] [[], [(0, 12)], [(1, 13)], [(2, 14)], [], [(4, 16)], [(5, 17)], [(6, 18)], [(7, 19), (3, 15)], [(8, 20)], [(9, 11)], [(9, 11)], [(9, 11)], [(10, 21)], [(11, 22)], [(12, 23)]] [(0, 12), (1, 13), (2, 14), (3, 15), (4, 16), (5, 17), (6, 18), (7, 19), (8, 20), (9, 11), (10, 21), (11, 22), (12, 23), (13, 3), (14, 4), (15, 5)] (by kernel_rfl) (by kernel_rfl) rfl rfl h osC0 osC1 ?ob ?en
    case ob =>
      refine ⟨?_, ?_, ?_, ?_, ?_, ?_, ?_, ?_, ?_, ?_, ?_, ?_, ?_, ?_, ?_, ?_, trivial⟩
      · -- 0: t12 := Op.move (t0)
        intro zx1 zx2 zx3 zx4 L V W hL hd hw hst 
        refine ob_c rfl ?_ hst rfl
        go_simp
        try with_reducible rfl
      · -- 1: t13 := Op.nilCheck (t12)
        intro zx1 zx2 zx3 zx4 L V W hL hd hw hst u0 e0 p0
        obtain rfl : u0 = _ := p0
        refine ob_c rfl ?_ hst rfl
        go_simp
        try with_reducible rfl
      · -- 2: t14 := Op.fieldAddr 99 (t13) 0
        intro zx1 zx2 zx3 zx4 L V W hL hd hw hst u1 e1 p1
        obtain rfl : u1 = _ := p1
        refine ob_c rfl ?_ hst rfl
        go_simp
        try with_reducible rfl
      · -- 3: t15 := Op.load 22 (t14)
        intro zx1 zx2 zx3 zx4 L V W hL hd hw hst u2 e2 p2
        obtain rfl : u2 = _ := p2
        obtain ⟨z, zf⟩ := cellJ (j := 0) (hst.find (g := gc) (o := curO bs n bc at_ 0) (by simp [osC])) rfl
        refine ob_c rfl ?_ hst rfl
        go_simp
        try with_reducible rfl
      · -- 4: t16 := Op.move (t0)
        intro zx1 zx2 zx3 zx4 L V W hL hd hw hst 
        refine ob_c rfl ?_ hst rfl
        go_simp
        try with_reducible rfl
      · -- 5: t17 := Op.nilCheck (t16)
        intro zx1 zx2 zx3 zx4 L V W hL hd hw hst u4 e4 p4
        obtain rfl : u4 = _ := p4
        refine ob_c rfl ?_ hst rfl
        go_simp
        try with_reducible rfl
      · -- 6: t18 := Op.fieldAddr 99 (t17) 1
        intro zx1 zx2 zx3 zx4 L V W hL hd hw hst u5 e5 p5
        obtain rfl : u5 = _ := p5
        refine ob_c rfl ?_ hst rfl
        go_simp
        try with_reducible rfl
      · -- 7: t19 := Op.load 3 (t18)
        intro zx1 zx2 zx3 zx4 L V W hL hd hw hst u6 e6 p6
        obtain rfl : u6 = _ := p6
        obtain ⟨z, zf⟩ := cellJ (j := 1) (hst.find (g := gc) (o := curO bs n bc at_ 0) (by simp [osC])) rfl
        refine ob_c rfl ?_ hst rfl
        go_simp
        try with_reducible rfl
      · -- 8: t20 := Op.call { callee := value (func 75), args := #[t15, t19], argTypes := #[22, 3] }
        intro zx1 zx2 zx3 zx4 L V W hL hd hw hst u3 e3 p3 u7 e7 p7
        obtain rfl : u3 = _ := p3
        obtain rfl : u7 = _ := p7
        refine ob_call (by first | rfl | (simp [wantE, dstOf, zx1]; done)) ?_ (Calls.pV' hst (HRC.out _ ((hst.base 0 rfl : IsBytes _ _ _).sub (mask_is _ _))))
        go_simp
        try rfl
      · -- 9: t11 := Op.move (t20)
        intro zx1 zx2 zx3 zx4 L V W hL hd hw hst u8 e8 p8
        obtain rfl : u8 = _ := p8
        refine ob_c rfl ?_ hst rfl
        go_simp
        try with_reducible rfl
      · -- 10: t21 := Op.extract (t11) 0
        intro zx1 zx2 zx3 zx4 L V W hL hd hw hst u9 e9 p9
        obtain rfl : u9 = _ := p9
        refine ob_c rfl ?_ hst rfl
        go_simp
        try with_reducible rfl
      · -- 11: t22 := Op.extract (t11) 1
        intro zx1 zx2 zx3 zx4 L V W hL hd hw hst u9 e9 p9
        obtain rfl : u9 = _ := p9
        refine ob_c rfl ?_ hst rfl
        go_simp
        try with_reducible rfl
      · -- 12: t23 := Op.extract (t11) 2
        intro zx1 zx2 zx3 zx4 L V W hL hd hw hst u9 e9 p9
        obtain rfl : u9 = _ := p9
        refine ob_c rfl ?_ hst rfl
        go_simp
        try with_reducible rfl
      · -- 13: t3 := Op.assign (t21)
        intro zx1 zx2 zx3 zx4 L V W hL hd hw hst u10 e10 p10
        obtain rfl : u10 = _ := p10
        refine ob_c rfl ?_ hst rfl
        go_simp
        try with_reducible rfl
      · -- 14: t4 := Op.assign (t22)
        intro zx1 zx2 zx3 zx4 L V W hL hd hw hst u11 e11 p11
        obtain rfl : u11 = _ := p11
        refine ob_c rfl ?_ hst rfl
        go_simp
        try with_reducible rfl
      · -- 15: t5 := Op.assign (t23)
        intro zx1 zx2 zx3 zx4 L V W hL hd hw hst u12 e12 p12
        obtain rfl : u12 = _ := p12
        refine ob_c rfl ?_ hst rfl
        go_simp
        try with_reducible rfl
    case en =>
      intro V W hst u0 e0 p0 u1 e1 p1 u2 e2 p2 u3 e3 p3 u4 e4 p4 u5 e5 p5 u6 e6 p6 u7 e7 p7 u8 e8 p8 u9 e9 p9 u10 e10 p10 u11 e11 p11 u12 e12 p12 u13 e13 p13 u14 e14 p14 u15 e15 p15
      obtain rfl : u0 = _ := p0
      obtain rfl : u1 = _ := p1
      obtain rfl : u2 = _ := p2
      obtain rfl : u3 = _ := p3
      obtain rfl : u4 = _ := p4
      obtain rfl : u5 = _ := p5
      obtain rfl : u6 = _ := p6
      obtain rfl : u7 = _ := p7
      obtain rfl : u8 = _ := p8
      obtain rfl : u9 = _ := p9
      obtain rfl : u10 = _ := p10
      obtain rfl : u11 = _ := p11
      obtain rfl : u12 = _ := p12
      obtain rfl : u13 = _ := p13
      obtain rfl : u14 = _ := p14
      obtain rfl : u15 = _ := p15
      simp only [EndAll, Act.put, List.getElem_toArray, List.getElem_cons_succ, List.getElem_cons_zero, List.setIfInBounds_toArray, List.set_cons_zero, List.set_cons_succ]
      rw [show osC ((gf, F) :: (gc, curO bs n bc at_ 0) :: oo) (fun _ => true) V = ((gf, F) :: (gc, curO bs n bc at_ 0) :: oo) from rfl] at hst
      clear h
      obtain ⟨p1, q1⟩ := cellJ (j := 1) (hst.at_ 1 rfl) rfl
      obtain ⟨p2, q2⟩ := cellJ (j := 2) (hst.at_ 1 rfl) rfl
      have h2 : St w0 ((World.setCell W ⟨gc, 1, none⟩ (.int .i64 a')).setCell ⟨gc, 2, none⟩ (.int .i64 c')) ((gf, F) :: (gc, curO bs n bc a' c') :: oo) ((IsBytes · (.slice bs n bc) l) :: fs) := (hst.setCell (os1 := [_]) (i := 1) (v := .int .i64 a')).setCell (os1 := [_]) (i := 2) (v := .int .i64 c')
      go_wp2_with fail
      go_ret
      exact ⟨rfl, h2⟩
  · have hr := HR.out
    unfold stI at hr
    rw [if_neg hc] at hr
    have n1 := beq_of hc
    have n2 := bne_of hc
    cases hr
    go_wp2_with fail
    go_ret
    exact ⟨rfl, h⟩

set_option maxRecDepth 8000 in
set_option maxHeartbeats 4000000 in
theorem curN_s (h : St w0 W ((gf, F) :: (gc, curO bs n bc at_ c) :: oo) ((IsBytes · (.slice bs n bc) l) :: fs)) (hn : l.length = n) (hl : l.length ≤ 1099511627776) (hi : at_ ≤ 9223372036854775807) :
    Calls Try.prog 62 #[.pointer (some ⟨gc, 0, none⟩)] W fun e w' => e = .returned (.int .i64 (if (manyE l (stU l (at_, c)).1 (stU l (at_, c)).2).2 = 0 then (((stU l (at_, c)).1 : Nat) : Int) else 0)) ∧ St w0 w' ((gf, F) :: (gc, curO bs n bc (manyE l (stU l (at_, c)).1 (stU l (at_, c)).2).1 (manyE l (stU l (at_, c)).1 (stU l (at_, c)).2).2) :: oo) ((IsBytes · (.slice bs n bc) l) :: fs) := by
  obtain ⟨x, a', c', hr⟩ : ∃ x a' c', stU l (at_, c) = (x, a', c') := ⟨_, _, _, rfl⟩
  rw [hr]
  simp only
  obtain ⟨a2, c2, hr2⟩ : ∃ a c, manyE l x (a', c') = (a, c) := ⟨_, _, rfl⟩
  rw [hr2]
  simp only
  have HR := Lib.hid hr
  have HR2 := Lib.hid hr2
  clear hr hr2
  have HN := Lib.hid hn
  obtain ⟨p0, q0⟩ := cellJ (j := 0) (h.at_ 1 rfl) rfl
  obtain ⟨p1, q1⟩ := cellJ (j := 1) (h.at_ 1 rfl) rfl
  obtain ⟨p2, q2⟩ := cellJ (j := 2) (h.at_ 1 rfl) rfl
  go_enter Try.func62, Try.ntmps62
  by_cases hc : c = 0
  · subst hc
    have hr : Wire.readU l at_ = (x, a', c') := by rw [← HR.out]; unfold stU; rw [if_pos rfl]
    have HRC : Hid (∀ w' : World, IsBytes w' (.slice bs n bc) l → Calls Try.prog 76 #[.slice bs n bc, .int .i64 at_] w' fun e w2 => e = .returned (.tuple #[.int .u64 (x : Nat), .int .i64 a', .int .i64 c']) ∧ w2 = w') := Lib.hid fun w' hb => by
      have := refReadUint_any w' (.slice bs n bc) l at_ hb hi (by omega)
      rw [hr] at this
      exact this
    have hcase : c' ≠ 0 ∨ c' = 0 ∧ ∃ m : Nat, a' = (m : Int) ∧ m ≤ n ∧ x < 18446744073709551616 := by
      rcases readU_cases l at_ with ⟨cc, h1, h2⟩ | ⟨j, m, n', -, -, h3, h4, h5, -⟩
      · rw [hr] at h2; cases h2; exact .inl h1
      · rw [hr] at h4; cases h4; exact .inr ⟨rfl, m, rfl, by omega, h5⟩
    clear hr hn
    go_upto_region 3 with fail
    clear p0 q0 p1 q1 p2 q2
    refine wp_region_st [pVal ?cccN_0, pVal ?cccN_1, pVal ?cccN_2, pVal (.slice bs n bc), pVal ?cccN_4, pVal ?cccN_5, pVal ?cccN_6, pVal (.int .i64 at_), pVal (.tuple #[.int .u64 (x : Nat), .int .i64 a', .int .i64 c']), pVal ?cccN_9, pVal ?cccN_10, pVal ?cccN_11, pVal ?cccN_12, pVal ?cccN_13, pVal ?cccN_14, pVal ?cccN_15] (osC ((gf, F) :: (gc, curO bs n bc at_ 0) :: oo)) 49 [0, 1, 3, 7, 0, 16, 48, 112, 255, 511, 1023, 1023, 1023, 2047, 12287, 32767] [[], [(0, 12)], [(1, 13)], [(2, 14)], [], [(4, 16)], [(5, 17)], [(6, 18)], [(7, 19), (3, 15)], [(8, 20)], [(9, 11)], [(9, 11)], [(9, 11)], [(10, 21)], [(11, 22)], [(12, 23)]] [(0, 12), (1, 13), (2, 14), (3, 15), (4, 16), (5, 17), (6, 18), (7, 19), (8, 20), (9, 11), (10, 21), (11, 22), (12, 23), (13, 3), (14, 4), (15, 5)] (by kernel_rfl) (by kernel_rfl) rfl rfl h osC0 osC1 ?ob ?en
    case ob =>
      refine ⟨?_, ?_, ?_, ?_, ?_, ?_, ?_, ?_, ?_, ?_, ?_, ?_, ?_, ?_, ?_, ?_, trivial⟩
      · -- 0: t12 := Op.move (t0)
        intro zx1 zx2 zx3 zx4 L V W hL hd hw hst 
        refine ob_c rfl ?_ hst rfl
        go_simp
        try with_reducible rfl
      · -- 1: t13 := Op.nilCheck (t12)
        intro zx1 zx2 zx3 zx4 L V W hL hd hw hst u0 e0 p0
        obtain rfl : u0 = _ := p0
        refine ob_c rfl ?_ hst rfl
        go_simp
        try with_reducible rfl
      · -- 2: t14 := Op.fieldAddr 99 (t13) 0
        intro zx1 zx2 zx3 zx4 L V W hL hd hw hst u1 e1 p1
        obtain rfl : u1 = _ := p1
        refine ob_c rfl ?_ hst rfl
        go_simp
        try with_reducible rfl
      · -- 3: t15 := Op.load 22 (t14)
        intro zx1 zx2 zx3 zx4 L V W hL hd hw hst u2 e2 p2
        obtain rfl : u2 = _ := p2
        obtain ⟨z, zf⟩ := cellJ (j := 0) (hst.find (g := gc) (o := curO bs n bc at_ 0) (by simp [osC])) rfl
        refine ob_c rfl ?_ hst rfl
        go_simp
        try with_reducible rfl
      · -- 4: t16 := Op.move (t0)
        intro zx1 zx2 zx3 zx4 L V W hL hd hw hst 
        refine ob_c rfl ?_ hst rfl
        go_simp
        try with_reducible rfl
      · -- 5: t17 := Op.nilCheck (t16)
        intro zx1 zx2 zx3 zx4 L V W hL hd hw hst u4 e4 p4
        obtain rfl : u4 = _ := p4
        refine ob_c rfl ?_ hst rfl
        go_simp
        try with_reducible rfl
      · -- 6: t18 := Op.fieldAddr 99 (t17) 1
        intro zx1 zx2 zx3 zx4 L V W hL hd hw hst u5 e5 p5
        obtain rfl : u5 = _ := p5
        refine ob_c rfl ?_ hst rfl
        go_simp
        try with_reducible rfl
      · -- 7: t19 := Op.load 3 (t18)
        intro zx1 zx2 zx3 zx4 L V W hL hd hw hst u6 e6 p6
        obtain rfl : u6 = _ := p6
        obtain ⟨z, zf⟩ := cellJ (j := 1) (hst.find (g := gc) (o := curO bs n bc at_ 0) (by simp [osC])) rfl
        refine ob_c rfl ?_ hst rfl
        go_simp
        try with_reducible rfl
      · -- 8: t20 := Op.call { callee := value (func 76), args := #[t15, t19], argTypes := #[22, 3] }
        intro zx1 zx2 zx3 zx4 L V W hL hd hw hst u3 e3 p3 u7 e7 p7
        obtain rfl : u3 = _ := p3
        obtain rfl : u7 = _ := p7
        refine ob_call (by first | rfl | (simp [wantE, dstOf, zx1]; done)) ?_ (Calls.pV' hst (HRC.out _ ((hst.base 0 rfl : IsBytes _ _ _).sub (mask_is _ _))))
        go_simp
        try rfl
      · -- 9: t11 := Op.move (t20)
        intro zx1 zx2 zx3 zx4 L V W hL hd hw hst u8 e8 p8
        obtain rfl : u8 = _ := p8
        refine ob_c rfl ?_ hst rfl
        go_simp
        try with_reducible rfl
      · -- 10: t21 := Op.extract (t11) 0
        intro zx1 zx2 zx3 zx4 L V W hL hd hw hst u9 e9 p9
        obtain rfl : u9 = _ := p9
        refine ob_c rfl ?_ hst rfl
        go_simp
        try with_reducible rfl
      · -- 11: t22 := Op.extract (t11) 1
        intro zx1 zx2 zx3 zx4 L V W hL hd hw hst u9 e9 p9
        obtain rfl : u9 = _ := p9
        refine ob_c rfl ?_ hst rfl
        go_simp
        try with_reducible rfl
      · -- 12: t23 := Op.extract (t11) 2
        intro zx1 zx2 zx3 zx4 L V W hL hd hw hst u9 e9 p9
        obtain rfl : u9 = _ := p9
        refine ob_c rfl ?_ hst rfl
        go_simp
        try with_reducible rfl
      · -- 13: t3 := Op.assign (t21)
        intro zx1 zx2 zx3 zx4 L V W hL hd hw hst u10 e10 p10
        obtain rfl : u10 = _ := p10
        refine ob_c rfl ?_ hst rfl
        go_simp
        try with_reducible rfl
      · -- 14: t4 := Op.assign (t22)
        intro zx1 zx2 zx3 zx4 L V W hL hd hw hst u11 e11 p11
        obtain rfl : u11 = _ := p11
        refine ob_c rfl ?_ hst rfl
        go_simp
        try with_reducible rfl
      · -- 15: t5 := Op.assign (t23)
        intro zx1 zx2 zx3 zx4 L V W hL hd hw hst u12 e12 p12
        obtain rfl : u12 = _ := p12
        refine ob_c rfl ?_ hst rfl
        go_simp
        try with_reducible rfl
    case en =>
      intro V W hst u0 e0 p0 u1 e1 p1 u2 e2 p2 u3 e3 p3 u4 e4 p4 u5 e5 p5 u6 e6 p6 u7 e7 p7 u8 e8 p8 u9 e9 p9 u10 e10 p10 u11 e11 p11 u12 e12 p12 u13 e13 p13 u14 e14 p14 u15 e15 p15
      obtain rfl : u0 = _ := p0
      obtain rfl : u1 = _ := p1
      obtain rfl : u2 = _ := p2
      obtain rfl : u3 = _ := p3
      obtain rfl : u4 = _ := p4
      obtain rfl : u5 = _ := p5
      obtain rfl : u6 = _ := p6
      obtain rfl : u7 = _ := p7
      obtain rfl : u8 = _ := p8
      obtain rfl : u9 = _ := p9
      obtain rfl : u10 = _ := p10
      obtain rfl : u11 = _ := p11
      obtain rfl : u12 = _ := p12
      obtain rfl : u13 = _ := p13
      obtain rfl : u14 = _ := p14
      obtain rfl : u15 = _ := p15
      simp only [EndAll, Act.put, List.getElem_toArray, List.getElem_cons_succ, List.getElem_cons_zero, List.setIfInBounds_toArray, List.set_cons_zero, List.set_cons_succ]
      rw [show osC ((gf, F) :: (gc, curO bs n bc at_ 0) :: oo) (fun _ => true) V = ((gf, F) :: (gc, curO bs n bc at_ 0) :: oo) from rfl] at hst
      clear h
      obtain ⟨p1, q1⟩ := cellJ (j := 1) (hst.at_ 1 rfl) rfl
      obtain ⟨p2, q2⟩ := cellJ (j := 2) (hst.at_ 1 rfl) rfl
      have h2 : St w0 ((World.setCell W ⟨gc, 1, none⟩ (.int .i64 a')).setCell ⟨gc, 2, none⟩ (.int .i64 c')) ((gf, F) :: (gc, curO bs n bc a' c') :: oo) ((IsBytes · (.slice bs n bc) l) :: fs) := (hst.setCell (os1 := [_]) (i := 1) (v := .int .i64 a')).setCell (os1 := [_]) (i := 2) (v := .int .i64 c')
      go_upto_region 6 with fail
      clear p1 q1 p2 q2 hst
      generalize (World.setCell W _ _).setCell _ _ = W2 at h2 ⊢
      obtain ⟨p0, q0⟩ := cellJ (j := 0) (h2.at_ 1 rfl) rfl
      obtain ⟨p2, q2⟩ := cellJ (j := 2) (h2.at_ 1 rfl) rfl
      rcases hcase with hc' | ⟨rfl, m, rfl, hm, hx⟩
      · have n1 := bne_of hc'
        have e := HR2.out
        unfold manyE at e
        rw [if_neg (fun h => hc' h.1)] at e
        cases e
        have hz : (if c' = 0 then (x : Int) else 0) = 0 := if_neg hc'
        have HZ := Lib.hid hz
        clear hz
        go_wp2_with fail
        go_ret
        first | exact ⟨rfl, h2⟩ | exact ⟨by rw [HZ.out], h2⟩
      · by_cases hm2 : (n : Int) - (m : Int) < (x : Int)
        · have e := HR2.out
          unfold manyE at e
          rw [if_pos ⟨rfl, by rw [HN.out]; exact hm2⟩] at e
          cases e
          have h3 := h2.setCell (os1 := [_]) (i := 2) (v := .int .i64 41)
          have i0 : (0 : Int) ≤ (n : Int) - (m : Int) := by omega
          have i1 : (n : Int) - (m : Int) ≤ 1099511627776 := by have := HN.out; omega
          go_wp2_with fail
          go_ret
          exact ⟨rfl, h3⟩
        · have e := HR2.out
          unfold manyE at e
          rw [if_neg (fun h => hm2 (by have := h.2; rw [HN.out] at this; exact this))] at e
          cases e
          have i0 : (0 : Int) ≤ (n : Int) - (m : Int) := by omega
          have i1 : (n : Int) - (m : Int) ≤ 1099511627776 := by have := HN.out; omega
          have i2 : (x : Int) ≤ 1099511627776 := by omega
          go_wp2_with fail
          go_ret
          exact ⟨rfl, h2⟩
  · have hr := HR.out
    unfold stU at hr
    rw [if_neg hc] at hr
    have n1 := beq_of hc
    have n2 := bne_of hc
    cases hr
    have e := HR2.out
    unfold manyE at e
    rw [if_neg (fun h => hc h.1)] at e
    cases e
    have hz : (if c = 0 then ((0 : Nat) : Int) else 0) = 0 := if_neg hc
    have HZ := Lib.hid hz
    clear hz
    go_wp2_with fail
    go_ret
    first | exact ⟨rfl, h⟩ | exact ⟨by rw [HZ.out], h⟩
end
end Go.Proofs.Ytfpkibfofainaaa
