/- The walk over FactsBases. -/
import Derived.Test.YtfpkibfofainaaaEx13
import Derived.Test.YtfpkibfofainaaaFcs
set_option linter.unusedVariables false
namespace Go.Proofs.Ytfpkibfofainaaa
open Go.RowKit

theorem chk0 {tl : List Tb} {f : Fc} (h : chk tl f = 0) : 1 ≤ f.seq ∧ (f.kind = 1 ∨ (f.kind ≠ 1 ∧ 1 ≤ f.ref ∧ f.ref < f.seq)) := by
  unfold chk at h
  split at h
  · cases h
  · rename_i hf
    have hf' : f.formed = true := by simpa using hf
    unfold Fc.formed at hf'
    simp only [Bool.and_eq_true, decide_eq_true_eq] at hf'
    obtain ⟨⟨⟨_, h1⟩, _⟩, h2⟩ := hf'
    refine ⟨h1, ?_⟩
    by_cases hk : f.kind = 1
    · exact .inl hk
    · rw [if_neg hk] at h2
      refine .inr ⟨hk, ?_⟩
      split at h2
      · simp only [Bool.and_eq_true, Fc.refers, decide_eq_true_eq] at h2; exact h2.2
      · split at h2
        · simp only [Bool.and_eq_true, Fc.refers, decide_eq_true_eq] at h2; exact h2.1.1.1.1
        · cases h2

theorem cells2 {W : World} {g : Nat} {a b : Value} {t : TypeId} (h : W.heap[g]? = some (.cells #[a, b] t (0, 0))) : W.cell? ⟨g, 0, none⟩ = some a ∧ W.cell? ⟨g, 1, none⟩ = some b := by
  constructor <;> rw [cell_of_row _ _ _ _ _ _ h] <;> rfl
theorem check_n {w W : World} {os : List (Nat × Obj)} {F : List (World → Prop)} (h : St w W os F) (hm : HasMax w) {tl : List Tb} {tn : Nat} (htn : tl.length = tn) (b : Option Addr) (q : Nat) (u1 u2 u3 : Value) (f : Fc) {fn : Nat} (hfn : f.fields.length = fn) (vb : Option Addr) (vq : Nat)
    (i j : Nat) (hi : F[i]? = some (IsTbs · (.slice b tn q) tl)) (hj : F[j]? = some (IsVals · (.slice vb fn vq) f.fields)) :
    Calls Try.prog 21 #[.agg #[.slice b tn q, u1, u2, u3], f.val (.slice vb fn vq)] W fun e w' => e = .returned (.int .i64 (chk tl f)) ∧ St w w' os F := by
  subst htn hfn
  exact Calls.sV h (check_any _ b q tl _ _ _ f vb vq (hm.below h.below rfl) (h.is i hi) (h.is j hj))
set_option maxRecDepth 8000 in
set_option maxHeartbeats 4000000 in
theorem bases_walk (w : World) (hm : HasMax w) (tl : List Tb) (b : Option Addr) (q : Nat) (b1 b2 b3 : Option Addr) (n1 n2 n3 q1 q2 q3 : Nat) (ht : IsTbs w (.slice b tl.length q) tl)
    (f : Fc) (fb : Option Addr) (fc : Nat) (hf : IsVals w (.slice fb f.fields.length fc) f.fields) (g : Fc) (gb : Option Addr) (gc : Nat) (hg : IsVals w (.slice gb g.fields.length gc) g.fields) :
    Calls Try.prog 5 #[.agg #[.slice b tl.length q, .slice b1 n1 q1, .slice b2 n2 q2, .slice b3 n3 q3], f.val (.slice fb f.fields.length fc), g.val (.slice gb g.fields.length gc)] w fun e w' => e = .returned (.bool true) ∧ Below w.heap.size w w' := by
  obtain ⟨fs, fq, fk, fr, ft, fy, fe, fl⟩ := f
  obtain ⟨gs, gq, gk, gr, gt, gy, ge, gl⟩ := g
  simp only at hf hg
  have h0 := ((((((St.start w).putOld (P := (IsVals · (.slice gb gl.length gc) gl)) (Mono.seq rdVal_up _ _) hg).putOld (P := (IsVals · (.slice fb fl.length fc) fl)) (Mono.seq rdVal_up _ _) hf).putOld (P := (IsTbs · (.slice b tl.length q) tl)) (Mono.seq rdTb_up _ _) ht).alloc
    (.cells #[.slice b tl.length q, .slice b1 n1 q1, .slice b2 n2 q2, .slice b3 n3 q3] 45)).alloc (.cells #[.string fs, .int .i64 fq, .int .i64 fk, .int .i64 fr, .string ft, .string fy, .int .i64 fe, .slice fb fl.length fc] 27)).alloc (.cells #[.string gs, .int .i64 gq, .int .i64 gk, .int .i64 gr, .string gt, .string gy, .int .i64 ge, .slice gb gl.length gc] 27)
  simp only [al_size] at h0
  clear ht hf hg
  obtain ⟨fn, hfn⟩ : ∃ n, fl.length = n := ⟨_, rfl⟩
  obtain ⟨gn, hgn⟩ : ∃ n, gl.length = n := ⟨_, rfl⟩
  obtain ⟨tn, htn⟩ : ∃ n, tl.length = n := ⟨_, rfl⟩
  simp only [Fc.val, Fc.cellsA]
  rw [hfn, hgn, htn] at h0
  rw [hfn, hgn, htn]
  have hFN := Lib.hid hfn
  have hGN := Lib.hid hgn
  have hTN := Lib.hid htn
  clear hfn hgn htn
  go_enter Try.func5, Try.ntmps5
  go_wp2_with fail
  refine (Calls.sV h0 (example_any _ (hm.below h0.below rfl))).mono ?_
  rintro e w1 ⟨rfl, h1⟩
  clear h0
  obtain ⟨c0, c1, c2, c3, c4, c5, c6, c7⟩ := cells8 (h1.at_ 1 rfl)
  go_wp2_with fail
  refine (Calls.sV h1 (base_any _ ⟨fs, fq, fk, fr, ft, fy, fe, fl⟩ (.slice fb fn fc))).mono ?_
  rintro e w2 ⟨rfl, h2⟩
  obtain ⟨bx, hbx⟩ : ∃ bx, (if fk = 1 then fq else fr) = bx := ⟨_, rfl⟩
  rw [show (⟨fs, fq, fk, fr, ft, fy, fe, fl⟩ : Fc).base = (fs, bx) from by rw [← hbx]; rfl]
  have HBX := Lib.hid hbx
  clear hbx h1 c0 c1 c2 c3 c4 c5 c6 c7
  have h3 := h2.alloc (.cells #[.string fs, .int .i64 bx] 24)
  have hsz := h2.below.size
  have hl2 := h2.lt
  clear h2
  generalize hgb : w2.heap.size = gb' at *
  obtain ⟨c0, c1, c2, c3, c4, c5, c6, c7⟩ := cells8 (h3.at_ 2 rfl)
  obtain ⟨d0, d1, d2, d3⟩ := cells4' (h3.at_ 3 rfl)
  go_wp2_with (rw [hgb])
  refine (check_n h3 hm hTN.out b q _ _ _ ⟨fs, fq, fk, fr, ft, fy, fe, fl⟩ hFN.out fb fc 0 1 rfl rfl).mono ?_
  rintro e w4 ⟨rfl, h4⟩
  clear h3 c0 c1 c2 c3 c4 c5 c6 c7 d0 d1 d2 d3
  obtain ⟨r0, hr0⟩ : ∃ r, chk tl ⟨fs, fq, fk, fr, ft, fy, fe, fl⟩ = r := ⟨_, rfl⟩
  rw [hr0]
  have HR0 := Lib.hid hr0
  clear hr0
  by_cases hz : r0 = 0
  case neg =>
    have hz' := bne_of hz
    go_wp2_with fail
    go_ret
    exact ⟨rfl, h4.below⟩
  subst hz
  obtain ⟨hq1, hk⟩ := chk0 HR0.out
  simp only at hq1 hk
  obtain ⟨c0, c1, c2, c3, c4, c5, c6, c7⟩ := cells8 (h4.at_ 2 rfl)
  obtain ⟨i0, i1⟩ := cells2 (h4.at_ 0 rfl)
  obtain ⟨r, hr⟩ : ∃ r, chk tl ⟨gs, gq, gk, gr, gt, gy, ge, gl⟩ = r := ⟨_, rfl⟩
  obtain ⟨gx, hgx⟩ : ∃ gx, (if gk = 1 then gq else gr) = gx := ⟨_, rfl⟩
  have hbg : ∀ W, Calls Try.prog 20 #[.agg #[.string gs, .int .i64 gq, .int .i64 gk, .int .i64 gr, .string gt, .string gy, .int .i64 ge, .slice gb gn gc]] W fun e w' => e = .returned (.agg #[.string gs, .int .i64 gx]) ∧ Below W.heap.size W w' := fun W => by
    have := base_any W ⟨gs, gq, gk, gr, gt, gy, ge, gl⟩ (.slice gb gn gc)
    rw [show (⟨gs, gq, gk, gr, gt, gy, ge, gl⟩ : Fc).base = (gs, gx) from by rw [← hgx]; rfl] at this
    exact this
  have hcg : ∀ {os : List (Nat × Obj)} (W : World), Below w.heap.size w W → IsTbs (sm os W) (.slice b tn q) tl → IsVals (sm os W) (.slice gb gn gc) gl → Calls Try.prog 21 #[.agg #[.slice b tn q, .slice b1 n1 q1, .slice b2 n2 q2, .slice b3 n3 q3], .agg #[.string gs, .int .i64 gq, .int .i64 gk, .int .i64 gr, .string gt, .string gy, .int .i64 ge, .slice gb gn gc]] W fun e w' => e = .returned (.int .i64 r) ∧ Below W.heap.size W w' := fun W hb ht hg => by
    have hTN' := hTN.out
    have hGN' := hGN.out
    subst hTN' hGN'
    rw [← hr]
    exact check_any W b q tl _ _ _ ⟨gs, gq, gk, gr, gt, gy, ge, gl⟩ gb gc (hm.below hb rfl) (ht.sub rdTb_up (mask_is _ _)) (hg.sub rdVal_up (mask_is _ _))
  clear hr hgx
  have hsz4 := h4.size
  by_cases hp : r = 0
  case neg =>
    have hp' := bne_of hp
    obtain ⟨pp, e1, e2, hlt1, hlt2⟩ : ∃ p, (fk == 1) = p ∧ (bx == fq) = p ∧ ¬ bx < 1 ∧ ¬ fq < bx := by
      have := HBX.out
      rcases hk with rfl | ⟨hk1, hr1, hr2⟩
      · rw [if_pos rfl] at this
        exact ⟨true, rfl, by simp [this], by omega, by omega⟩
      · rw [if_neg hk1] at this
        exact ⟨false, beq_of hk1, beq_of (by omega), by omega, by omega⟩
    clear hk
    have hpp : pp = true ∨ pp = false := by cases pp <;> simp
    go_upto_region 5 with fail
    rcases hpp with rfl | rfl
    all_goals
     go_quiet (fail)
     clear e1 e2
     have h5 := h4.drewN nq
     generalize World.drewN w4 nq = w5 at h5 ⊢
     clear h4 c0 c1 c2 c3 c4 c5 c6 c7 i0 i1
     obtain ⟨i0, i1⟩ := cells2 (h5.at_ 0 rfl)
     have hd1 : decide (bx < 1) = false := decide_eq_false (by omega)
     have hd2 : decide (fq < bx) = false := decide_eq_false (by omega)
     have hd0 : ¬ (bx < 1 ∨ fq < bx) := by omega
     have h6 := h5.alloc (.cells #[.string fs, .int .i64 bx, .int .i64 1, .int .i64 0, .string ⟨#[]⟩, .string ⟨#[]⟩, .int .i64 0, .slice none 0 0] 27)
     go_upto_region 8 with fail
     clear h5 hlt1 hlt2 hd0 hd1 hd2 i0 i1
     refine wp_region_st [pVal ?c8A_0, pVal ?c8A_1, pVal (.agg #[.string fs, .int .i64 bx, .int .i64 1, .int .i64 0, .string ⟨#[]⟩, .string ⟨#[]⟩, .int .i64 0, .slice none 0 0]), pVal (.agg #[.string fs, .int .i64 bx]), pVal (.agg #[.string fs, .int .i64 bx]), pVal ?c8A_5, pVal ?c8A_6, pVal ?c8A_7, pVal (.agg #[.slice b tn q, .slice b1 n1 q1, .slice b2 n2 q2, .slice b3 n3 q3]), pVal (.agg #[.string gs, .int .i64 gq, .int .i64 gk, .int .i64 gr, .string gt, .string gy, .int .i64 ge, .slice gb gn gc]), pVal (.int .i64 r), pVal ?c8A_11, pVal ?c8A_12, pVal ?c8A_13, pVal ?c8A_14, pVal ?c8A_15, pVal ?c8A_16, pVal ?c8A_17, pVal ?c8A_18, pVal ?c8A_19, pVal ?c8A_20, pVal ?c8A_21, pVal ?c8A_22, pVal ?c8A_23, pVal ?c8A_24, pVal ?c8A_25, pVal ?c8A_26, pVal ?c8A_27, pVal ?c8A_28] (osC [((w5.heap.size), .cells #[.string fs, .int .i64 bx, .int .i64 1, .int .i64 0, .string ⟨#[]⟩, .string ⟨#[]⟩, .int .i64 0, .slice none 0 0] 27 (0, 0)), (gb', .cells #[.string fs, .int .i64 bx] 24 (0, 0)), ((w.heap.size + 1 + 1), .cells #[.string gs, .int .i64 gq, .int .i64 gk, .int .i64 gr, .string gt, .string gy, .int .i64 ge, .slice gb gn gc] 27 (0, 0)), ((w.heap.size + 1), .cells #[.string fs, .int .i64 fq, .int .i64 fk, .int .i64 fr, .string ft, .string fy, .int .i64 fe, .slice fb fn fc] 27 (0, 0)), ((w.heap.size), .cells #[.slice b tn q, .slice b1 n1 q1, .slice b2 n2 q2, .slice b3 n3 q3] 45 (0, 0))]) 77 [0, 1, 3, 7, 3, 31, 63, 127, 255, 255, 1023, 2047, 4095, 8191, 16383, 32767, 8191, 73727, 204799, 524287, 1048575, 2097151, 4194303, 8388607, 4194303, 33554431, 67108863, 134217727, 268435455] [[], [(0, 49)], [(1, 50)], [(1, 50), (2, 51)], [(1, 50)], [(1, 50), (4, 53), (3, 52)], [(5, 54), (1, 50)], [(6, 55)], [(7, 56)], [(7, 56)], [(7, 56), (9, 58), (8, 57)], [(7, 56), (10, 59)], [(7, 56), (11, 60)], [(12, 61)], [(12, 61), (13, 62)], [(12, 61), (14, 63)], [(12, 61)], [(12, 61), (16, 65)], [(12, 61), (17, 66)], [(12, 61), (18, 67), (15, 64)], [(7, 56), (19, 68), (12, 61)], [(7, 56), (20, 69)], [(21, 70)], [(21, 70), (22, 71)], [(21, 70)], [(21, 70), (24, 73), (23, 72)], [(7, 56), (25, 74), (21, 70)], [(26, 75), (7, 56)], [(27, 76)]] [(0, 49), (1, 50), (2, 51), (3, 52), (4, 53), (5, 54), (6, 55), (7, 56), (8, 57), (9, 58), (10, 59), (11, 60), (12, 61), (13, 62), (14, 63), (15, 64), (16, 65), (17, 66), (18, 67), (19, 68), (20, 69), (21, 70), (22, 71), (23, 72), (24, 73), (25, 74), (26, 75), (27, 76), (28, 6)] (by kernel_rfl) (by kernel_rfl) rfl rfl h6 osC0 osC1 ?ob ?en
     case ob =>
       refine ⟨?_, ?_, ?_, ?_, ?_, ?_, ?_, ?_, ?_, ?_, ?_, ?_, ?_, ?_, ?_, ?_, ?_, ?_, ?_, ?_, ?_, ?_, ?_, ?_, ?_, ?_, ?_, ?_, ?_, trivial⟩
       · -- 0: t49 := Op.move (t7)
         intro zx1 zx2 zx3 zx4 L V W hL hd hw hst 
         refine ob_c rfl ?_ hst rfl
         go_simp
         try with_reducible rfl
       · -- 1: t50 := Op.move (t49)
         intro zx1 zx2 zx3 zx4 L V W hL hd hw hst u0 e0 p0
         obtain rfl : u0 = _ := p0
         refine ob_c rfl ?_ hst rfl
         go_simp
         try with_reducible rfl
       · -- 2: t51 := Op.load 27 (t9)
         intro zx1 zx2 zx3 zx4 L V W hL hd hw hst u1 e1 p1
         obtain rfl : u1 = _ := p1
         exact ob_v _ (by first | rfl | (simp [wantE, dstOf, zx1]; done)) (run_load_own rfl rfl (hst.find (g := (w5.heap.size)) (o := .cells #[.string fs, .int .i64 bx, .int .i64 1, .int .i64 0, .string ⟨#[]⟩, .string ⟨#[]⟩, .int .i64 0, .slice none 0 0] 27 (0, 0)) (by simp [osC])) Try.underlying27 rfl fact_info) hst rfl rfl
       · -- 3: t52 := Op.call { callee := value (func 20), args := #[t51], argTypes := #[27] }
         intro zx1 zx2 zx3 zx4 L V W hL hd hw hst u2 e2 p2 u1 e1 p1
         obtain rfl : u2 = _ := p2
         obtain rfl : u1 = _ := p1
         refine ob_call (by first | rfl | (simp [wantE, dstOf, zx1]; done)) ?_ (Calls.pV hst (base_any _ ⟨fs, bx, 1, 0, ⟨#[]⟩, ⟨#[]⟩, 0, []⟩ (.slice none 0 0)))
         go_simp
         try rfl
       · -- 4: t53 := Op.load 24 (t8)
         intro zx1 zx2 zx3 zx4 L V W hL hd hw hst u1 e1 p1
         obtain rfl : u1 = _ := p1
         exact ob_v _ (by first | rfl | (simp [wantE, dstOf, zx1]; done)) (run_load_own rfl rfl (hst.find (g := gb') (o := .cells #[.string fs, .int .i64 bx] 24 (0, 0)) (by simp [osC])) Try.underlying24 rfl id_info) hst rfl rfl
       · -- 5: t54 := Op.binOp BinOp.eql 24 (t52) (t53) 24
         intro zx1 zx2 zx3 zx4 L V W hL hd hw hst u3 e3 p3 u4 e4 p4 u1 e1 p1
         obtain rfl : u3 = _ := p3
         obtain rfl : u4 = _ := p4
         obtain rfl : u1 = _ := p1
         refine ob_c (by first | rfl | (simp [wantE, dstOf, zx1]; done)) ?_ hst rfl
         go_simp
         try with_reducible rfl
       · -- 6: t55 := Op.pick (t50) (t54) (const (bool false))
         intro zx1 zx2 zx3 zx4 L V W hL hd hw hst u1 e1 p1 u5 e5 p5
         obtain rfl : u1 = _ := p1
         obtain rfl : u5 = _ := p5
         refine ob_c rfl ?_ hst rfl
         go_simp
         try with_reducible rfl
       · -- 7: t56 := Op.move (t55)
         intro zx1 zx2 zx3 zx4 L V W hL hd hw hst u6 e6 p6
         obtain rfl : u6 = _ := p6
         refine ob_c rfl ?_ hst rfl
         go_simp
         try with_reducible rfl
       · -- 8: t57 := Op.load 45 (t3)
         intro zx1 zx2 zx3 zx4 L V W hL hd hw hst u7 e7 p7
         obtain rfl : u7 = _ := p7
         exact ob_v _ (by first | rfl | (simp [wantE, dstOf, zx1]; done)) (run_load_own rfl rfl (hst.find (g := (w.heap.size)) (o := .cells #[.slice b tn q, .slice b1 n1 q1, .slice b2 n2 q2, .slice b3 n3 q3] 45 (0, 0)) (by simp [osC])) Try.underlying45 rfl cat_info) hst rfl rfl
       · -- 9: t58 := Op.load 27 (t5)
         intro zx1 zx2 zx3 zx4 L V W hL hd hw hst u7 e7 p7
         obtain rfl : u7 = _ := p7
         exact ob_v _ (by first | rfl | (simp [wantE, dstOf, zx1]; done)) (run_load_own rfl rfl (hst.find (g := (w.heap.size + 1 + 1)) (o := .cells #[.string gs, .int .i64 gq, .int .i64 gk, .int .i64 gr, .string gt, .string gy, .int .i64 ge, .slice gb gn gc] 27 (0, 0)) (by simp [osC])) Try.underlying27 rfl fact_info) hst rfl rfl
       · -- 10: t59 := Op.call { callee := value (func 21), args := #[t57, t58], argTypes := #[45, 27] }
         intro zx1 zx2 zx3 zx4 L V W hL hd hw hst u8 e8 p8 u9 e9 p9 u7 e7 p7
         obtain rfl : u8 = _ := p8
         obtain rfl : u9 = _ := p9
         obtain rfl : u7 = _ := p7
         refine ob_call (by first | rfl | (simp [wantE, dstOf, zx1]; done)) ?_ (Calls.pV hst (hcg _ hst.below (hst.base 0 rfl) (hst.base 2 rfl)))
         · go_simp
           try rfl
       · -- 11: t60 := Op.binOp BinOp.neq 31 (t59) (const (int IntKind.i64 0)) 31
         intro zx1 zx2 zx3 zx4 L V W hL hd hw hst u10 e10 p10 u7 e7 p7
         obtain rfl : u10 = _ := p10
         obtain rfl : u7 = _ := p7
         refine ob_c (by first | rfl | (simp [wantE, dstOf, zx1]; done)) ?_ hst rfl
         go_simp
         try with_reducible rfl
       · -- 12: t61 := Op.move (t60)
         intro zx1 zx2 zx3 zx4 L V W hL hd hw hst u11 e11 p11 u7 e7 p7
         obtain rfl : u11 = _ := p11
         obtain rfl : u7 = _ := p7
         refine ob_c (by first | rfl | (simp [wantE, dstOf, zx1]; done)) ?_ hst rfl
         go_simp
         try with_reducible rfl
       · -- 13: t62 := Op.fieldAddr 27 (t4) 0
         intro zx1 zx2 zx3 zx4 L V W hL hd hw hst u12 e12 p12
         obtain rfl : u12 = _ := p12
         refine ob_o ?_ hst ?_
         · first | rfl | (simp [wantE, dstOf, zx1]; done)
         · rfl
       · -- 14: t63 := Op.fieldAddr 24 (t62) 0
         intro zx1 zx2 zx3 zx4 L V W hL hd hw hst u13 e13 p13 u12 e12 p12
         obtain rfl : u13 = _ := p13
         obtain rfl : u12 = _ := p12
         refine ob_o ?_ hst ?_
         · first | rfl | (simp [wantE, dstOf, zx1]; done)
         · rfl
       · -- 15: t64 := Op.load 9 (t63)
         intro zx1 zx2 zx3 zx4 L V W hL hd hw hst u14 e14 p14 u12 e12 p12
         obtain rfl : u14 = _ := p14
         obtain rfl : u12 = _ := p12
         refine ob_o ?_ hst ?_
         · first | rfl | (simp [wantE, dstOf, zx1]; done)
         · rfl
       · -- 16: t65 := Op.fieldAddr 27 (t5) 0
         intro zx1 zx2 zx3 zx4 L V W hL hd hw hst u12 e12 p12
         obtain rfl : u12 = _ := p12
         refine ob_o ?_ hst ?_
         · first | rfl | (simp [wantE, dstOf, zx1]; done)
         · rfl
       · -- 17: t66 := Op.fieldAddr 24 (t65) 0
         intro zx1 zx2 zx3 zx4 L V W hL hd hw hst u16 e16 p16 u12 e12 p12
         obtain rfl : u16 = _ := p16
         obtain rfl : u12 = _ := p12
         refine ob_o ?_ hst ?_
         · first | rfl | (simp [wantE, dstOf, zx1]; done)
         · rfl
       · -- 18: t67 := Op.load 9 (t66)
         intro zx1 zx2 zx3 zx4 L V W hL hd hw hst u17 e17 p17 u12 e12 p12
         obtain rfl : u17 = _ := p17
         obtain rfl : u12 = _ := p12
         refine ob_o ?_ hst ?_
         · first | rfl | (simp [wantE, dstOf, zx1]; done)
         · rfl
       · -- 19: t68 := Op.binOp BinOp.eql 9 (t64) (t67) 9
         intro zx1 zx2 zx3 zx4 L V W hL hd hw hst u15 e15 p15 u18 e18 p18 u12 e12 p12
         obtain rfl : u15 = _ := p15
         obtain rfl : u18 = _ := p18
         obtain rfl : u12 = _ := p12
         refine ob_o ?_ hst ?_
         · first | rfl | (simp [wantE, dstOf, zx1]; done)
         · rfl
       · -- 20: t69 := Op.pick (t61) (const (bool true)) (t68)
         intro zx1 zx2 zx3 zx4 L V W hL hd hw hst u12 e12 p12 u19 e19 p19 u7 e7 p7
         obtain rfl : u12 = _ := p12
         obtain rfl : u19 = _ := p19
         obtain rfl : u7 = _ := p7
         refine ob_c (by first | rfl | (simp [wantE, dstOf, zx1]; done)) ?_ hst rfl
         go_simp
         try with_reducible rfl
       · -- 21: t70 := Op.move (t69)
         intro zx1 zx2 zx3 zx4 L V W hL hd hw hst u20 e20 p20 u7 e7 p7
         obtain rfl : u20 = _ := p20
         obtain rfl : u7 = _ := p7
         refine ob_c (by first | rfl | (simp [wantE, dstOf, zx1]; done)) ?_ hst rfl
         go_simp
         try with_reducible rfl
       · -- 22: t71 := Op.load 27 (t5)
         intro zx1 zx2 zx3 zx4 L V W hL hd hw hst u21 e21 p21
         obtain rfl : u21 = _ := p21
         refine ob_o ?_ hst ?_
         · first | rfl | (simp [wantE, dstOf, zx1]; done)
         · rfl
       · -- 23: t72 := Op.call { callee := value (func 20), args := #[t71], argTypes := #[27] }
         intro zx1 zx2 zx3 zx4 L V W hL hd hw hst u22 e22 p22 u21 e21 p21
         obtain rfl : u22 = _ := p22
         obtain rfl : u21 = _ := p21
         refine ob_o ?_ hst ?_
         · first | rfl | (simp [wantE, dstOf, zx1]; done)
         · rfl
       · -- 24: t73 := Op.load 24 (t8)
         intro zx1 zx2 zx3 zx4 L V W hL hd hw hst u21 e21 p21
         obtain rfl : u21 = _ := p21
         refine ob_o ?_ hst ?_
         · first | rfl | (simp [wantE, dstOf, zx1]; done)
         · rfl
       · -- 25: t74 := Op.binOp BinOp.neq 24 (t72) (t73) 24
         intro zx1 zx2 zx3 zx4 L V W hL hd hw hst u23 e23 p23 u24 e24 p24 u21 e21 p21
         obtain rfl : u23 = _ := p23
         obtain rfl : u24 = _ := p24
         obtain rfl : u21 = _ := p21
         refine ob_o ?_ hst ?_
         · first | rfl | (simp [wantE, dstOf, zx1]; done)
         · rfl
       · -- 26: t75 := Op.pick (t70) (const (bool true)) (t74)
         intro zx1 zx2 zx3 zx4 L V W hL hd hw hst u21 e21 p21 u25 e25 p25 u7 e7 p7
         obtain rfl : u21 = _ := p21
         obtain rfl : u25 = _ := p25
         obtain rfl : u7 = _ := p7
         refine ob_c (by first | rfl | (simp [wantE, dstOf, zx1]; done)) ?_ hst rfl
         go_simp
         try with_reducible rfl
       · -- 27: t76 := Op.pick (t56) (t75) (const (bool false))
         intro zx1 zx2 zx3 zx4 L V W hL hd hw hst u7 e7 p7 u26 e26 p26
         obtain rfl : u7 = _ := p7
         obtain rfl : u26 = _ := p26
         refine ob_c rfl ?_ hst rfl
         go_simp
         try with_reducible rfl
       · -- 28: t6 := Op.assign (t76)
         intro zx1 zx2 zx3 zx4 L V W hL hd hw hst u27 e27 p27
         obtain rfl : u27 = _ := p27
         refine ob_c rfl ?_ hst rfl
         go_simp
         try with_reducible rfl
     case en =>
       intro V W hst u0 e0 p0 u1 e1 p1 u2 e2 p2 u3 e3 p3 u4 e4 p4 u5 e5 p5 u6 e6 p6 u7 e7 p7 u8 e8 p8 u9 e9 p9 u10 e10 p10 u11 e11 p11 u12 e12 p12 u13 e13 p13 u14 e14 p14 u15 e15 p15 u16 e16 p16 u17 e17 p17 u18 e18 p18 u19 e19 p19 u20 e20 p20 u21 e21 p21 u22 e22 p22 u23 e23 p23 u24 e24 p24 u25 e25 p25 u26 e26 p26 u27 e27 p27 u28 e28 p28
       obtain rfl : u0 = _ := p0
       obtain rfl : u1 = _ := p1
       obtain rfl : u2 = _ := p2
       obtain rfl : u3 = _ := p3
       obtain rfl : u4 = _ := p4
       obtain rfl : u5 = _ := p5
       obtain rfl : u6 = _ := p6
       obtain rfl : u7 = _ := p7
       obtain rfl : u8 = _ := p8
       obtain rfl : u9 = _ := p9
       obtain rfl : u10 = _ := p10
       obtain rfl : u11 = _ := p11
       obtain rfl : u12 = _ := p12
       obtain rfl : u13 = _ := p13
       obtain rfl : u14 = _ := p14
       obtain rfl : u15 = _ := p15
       obtain rfl : u16 = _ := p16
       obtain rfl : u17 = _ := p17
       obtain rfl : u18 = _ := p18
       obtain rfl : u19 = _ := p19
       obtain rfl : u20 = _ := p20
       obtain rfl : u21 = _ := p21
       obtain rfl : u22 = _ := p22
       obtain rfl : u23 = _ := p23
       obtain rfl : u24 = _ := p24
       obtain rfl : u25 = _ := p25
       obtain rfl : u26 = _ := p26
       obtain rfl : u27 = _ := p27
       obtain rfl : u28 = _ := p28
       simp only [EndAll, Act.put, List.getElem_toArray, List.getElem_cons_succ, List.getElem_cons_zero, List.setIfInBounds_toArray, List.set_cons_zero, List.set_cons_succ]
       go_wp2_with fail
       go_ret
       exact ⟨rfl, hst.below⟩
  subst hp
  by_cases hss : fs = gs
  case pos =>
    have hs1 : (fs.toList == gs.toList) = true := by simp [hss]
    clear hss
    obtain ⟨pp, e1, e2, hlt1, hlt2⟩ : ∃ p, (fk == 1) = p ∧ (bx == fq) = p ∧ ¬ bx < 1 ∧ ¬ fq < bx := by
      have := HBX.out
      rcases hk with rfl | ⟨hk1, hr1, hr2⟩
      · rw [if_pos rfl] at this
        exact ⟨true, rfl, by simp [this], by omega, by omega⟩
      · rw [if_neg hk1] at this
        exact ⟨false, beq_of hk1, beq_of (by omega), by omega, by omega⟩
    clear hk
    have hpp : pp = true ∨ pp = false := by cases pp <;> simp
    go_upto_region 5 with fail
    rcases hpp with rfl | rfl
    all_goals
     go_quiet (fail)
     clear e1 e2
     have h5 := h4.drewN nq
     generalize World.drewN w4 nq = w5 at h5 ⊢
     clear h4 c0 c1 c2 c3 c4 c5 c6 c7 i0 i1
     obtain ⟨i0, i1⟩ := cells2 (h5.at_ 0 rfl)
     have hd1 : decide (bx < 1) = false := decide_eq_false (by omega)
     have hd2 : decide (fq < bx) = false := decide_eq_false (by omega)
     have hd0 : ¬ (bx < 1 ∨ fq < bx) := by omega
     have h6 := h5.alloc (.cells #[.string fs, .int .i64 bx, .int .i64 1, .int .i64 0, .string ⟨#[]⟩, .string ⟨#[]⟩, .int .i64 0, .slice none 0 0] 27)
     go_upto_region 8 with fail
     clear h5 hlt1 hlt2 hd0 hd1 hd2 i0 i1
     refine wp_region_st [pVal ?c8B_0, pVal ?c8B_1, pVal (.agg #[.string fs, .int .i64 bx, .int .i64 1, .int .i64 0, .string ⟨#[]⟩, .string ⟨#[]⟩, .int .i64 0, .slice none 0 0]), pVal (.agg #[.string fs, .int .i64 bx]), pVal (.agg #[.string fs, .int .i64 bx]), pVal ?c8B_5, pVal ?c8B_6, pVal ?c8B_7, pVal (.agg #[.slice b tn q, .slice b1 n1 q1, .slice b2 n2 q2, .slice b3 n3 q3]), pVal (.agg #[.string gs, .int .i64 gq, .int .i64 gk, .int .i64 gr, .string gt, .string gy, .int .i64 ge, .slice gb gn gc]), pVal (.int .i64 0), pVal ?c8B_11, pVal ?c8B_12, pVal ?c8B_13, pVal ?c8B_14, pVal ?c8B_15, pVal ?c8B_16, pVal ?c8B_17, pVal ?c8B_18, pVal ?c8B_19, pVal ?c8B_20, pVal ?c8B_21, pVal ?c8B_22, pVal ?c8B_23, pVal ?c8B_24, pVal ?c8B_25, pVal ?c8B_26, pVal ?c8B_27, pVal ?c8B_28] (osC [((w5.heap.size), .cells #[.string fs, .int .i64 bx, .int .i64 1, .int .i64 0, .string ⟨#[]⟩, .string ⟨#[]⟩, .int .i64 0, .slice none 0 0] 27 (0, 0)), (gb', .cells #[.string fs, .int .i64 bx] 24 (0, 0)), ((w.heap.size + 1 + 1), .cells #[.string gs, .int .i64 gq, .int .i64 gk, .int .i64 gr, .string gt, .string gy, .int .i64 ge, .slice gb gn gc] 27 (0, 0)), ((w.heap.size + 1), .cells #[.string fs, .int .i64 fq, .int .i64 fk, .int .i64 fr, .string ft, .string fy, .int .i64 fe, .slice fb fn fc] 27 (0, 0)), ((w.heap.size), .cells #[.slice b tn q, .slice b1 n1 q1, .slice b2 n2 q2, .slice b3 n3 q3] 45 (0, 0))]) 77 [0, 1, 3, 7, 3, 31, 63, 127, 255, 255, 1023, 2047, 4095, 8191, 16383, 32767, 8191, 73727, 204799, 524287, 1048575, 2097151, 4194303, 8388607, 4194303, 33554431, 67108863, 134217727, 268435455] [[], [(0, 49)], [(1, 50)], [(1, 50), (2, 51)], [(1, 50)], [(1, 50), (4, 53), (3, 52)], [(5, 54), (1, 50)], [(6, 55)], [(7, 56)], [(7, 56)], [(7, 56), (9, 58), (8, 57)], [(7, 56), (10, 59)], [(7, 56), (11, 60)], [(12, 61)], [(12, 61), (13, 62)], [(12, 61), (14, 63)], [(12, 61)], [(12, 61), (16, 65)], [(12, 61), (17, 66)], [(12, 61), (18, 67), (15, 64)], [(7, 56), (19, 68), (12, 61)], [(7, 56), (20, 69)], [(21, 70)], [(21, 70), (22, 71)], [(21, 70)], [(21, 70), (24, 73), (23, 72)], [(7, 56), (25, 74), (21, 70)], [(26, 75), (7, 56)], [(27, 76)]] [(0, 49), (1, 50), (2, 51), (3, 52), (4, 53), (5, 54), (6, 55), (7, 56), (8, 57), (9, 58), (10, 59), (11, 60), (12, 61), (13, 62), (14, 63), (15, 64), (16, 65), (17, 66), (18, 67), (19, 68), (20, 69), (21, 70), (22, 71), (23, 72), (24, 73), (25, 74), (26, 75), (27, 76), (28, 6)] (by kernel_rfl) (by kernel_rfl) rfl rfl h6 osC0 osC1 ?ob ?en
     case ob =>
       refine ⟨?_, ?_, ?_, ?_, ?_, ?_, ?_, ?_, ?_, ?_, ?_, ?_, ?_, ?_, ?_, ?_, ?_, ?_, ?_, ?_, ?_, ?_, ?_, ?_, ?_, ?_, ?_, ?_, ?_, trivial⟩
       · -- 0: t49 := Op.move (t7)
         intro zx1 zx2 zx3 zx4 L V W hL hd hw hst 
         refine ob_c rfl ?_ hst rfl
         go_simp
         try with_reducible rfl
       · -- 1: t50 := Op.move (t49)
         intro zx1 zx2 zx3 zx4 L V W hL hd hw hst u0 e0 p0
         obtain rfl : u0 = _ := p0
         refine ob_c rfl ?_ hst rfl
         go_simp
         try with_reducible rfl
       · -- 2: t51 := Op.load 27 (t9)
         intro zx1 zx2 zx3 zx4 L V W hL hd hw hst u1 e1 p1
         obtain rfl : u1 = _ := p1
         exact ob_v _ (by first | rfl | (simp [wantE, dstOf, zx1]; done)) (run_load_own rfl rfl (hst.find (g := (w5.heap.size)) (o := .cells #[.string fs, .int .i64 bx, .int .i64 1, .int .i64 0, .string ⟨#[]⟩, .string ⟨#[]⟩, .int .i64 0, .slice none 0 0] 27 (0, 0)) (by simp [osC])) Try.underlying27 rfl fact_info) hst rfl rfl
       · -- 3: t52 := Op.call { callee := value (func 20), args := #[t51], argTypes := #[27] }
         intro zx1 zx2 zx3 zx4 L V W hL hd hw hst u2 e2 p2 u1 e1 p1
         obtain rfl : u2 = _ := p2
         obtain rfl : u1 = _ := p1
         refine ob_call (by first | rfl | (simp [wantE, dstOf, zx1]; done)) ?_ (Calls.pV hst (base_any _ ⟨fs, bx, 1, 0, ⟨#[]⟩, ⟨#[]⟩, 0, []⟩ (.slice none 0 0)))
         go_simp
         try rfl
       · -- 4: t53 := Op.load 24 (t8)
         intro zx1 zx2 zx3 zx4 L V W hL hd hw hst u1 e1 p1
         obtain rfl : u1 = _ := p1
         exact ob_v _ (by first | rfl | (simp [wantE, dstOf, zx1]; done)) (run_load_own rfl rfl (hst.find (g := gb') (o := .cells #[.string fs, .int .i64 bx] 24 (0, 0)) (by simp [osC])) Try.underlying24 rfl id_info) hst rfl rfl
       · -- 5: t54 := Op.binOp BinOp.eql 24 (t52) (t53) 24
         intro zx1 zx2 zx3 zx4 L V W hL hd hw hst u3 e3 p3 u4 e4 p4 u1 e1 p1
         obtain rfl : u3 = _ := p3
         obtain rfl : u4 = _ := p4
         obtain rfl : u1 = _ := p1
         refine ob_c (by first | rfl | (simp [wantE, dstOf, zx1]; done)) ?_ hst rfl
         go_simp
         try with_reducible rfl
       · -- 6: t55 := Op.pick (t50) (t54) (const (bool false))
         intro zx1 zx2 zx3 zx4 L V W hL hd hw hst u1 e1 p1 u5 e5 p5
         obtain rfl : u1 = _ := p1
         obtain rfl : u5 = _ := p5
         refine ob_c rfl ?_ hst rfl
         go_simp
         try with_reducible rfl
       · -- 7: t56 := Op.move (t55)
         intro zx1 zx2 zx3 zx4 L V W hL hd hw hst u6 e6 p6
         obtain rfl : u6 = _ := p6
         refine ob_c rfl ?_ hst rfl
         go_simp
         try with_reducible rfl
       · -- 8: t57 := Op.load 45 (t3)
         intro zx1 zx2 zx3 zx4 L V W hL hd hw hst u7 e7 p7
         obtain rfl : u7 = _ := p7
         exact ob_v _ (by first | rfl | (simp [wantE, dstOf, zx1]; done)) (run_load_own rfl rfl (hst.find (g := (w.heap.size)) (o := .cells #[.slice b tn q, .slice b1 n1 q1, .slice b2 n2 q2, .slice b3 n3 q3] 45 (0, 0)) (by simp [osC])) Try.underlying45 rfl cat_info) hst rfl rfl
       · -- 9: t58 := Op.load 27 (t5)
         intro zx1 zx2 zx3 zx4 L V W hL hd hw hst u7 e7 p7
         obtain rfl : u7 = _ := p7
         exact ob_v _ (by first | rfl | (simp [wantE, dstOf, zx1]; done)) (run_load_own rfl rfl (hst.find (g := (w.heap.size + 1 + 1)) (o := .cells #[.string gs, .int .i64 gq, .int .i64 gk, .int .i64 gr, .string gt, .string gy, .int .i64 ge, .slice gb gn gc] 27 (0, 0)) (by simp [osC])) Try.underlying27 rfl fact_info) hst rfl rfl
       · -- 10: t59 := Op.call { callee := value (func 21), args := #[t57, t58], argTypes := #[45, 27] }
         intro zx1 zx2 zx3 zx4 L V W hL hd hw hst u8 e8 p8 u9 e9 p9 u7 e7 p7
         obtain rfl : u8 = _ := p8
         obtain rfl : u9 = _ := p9
         obtain rfl : u7 = _ := p7
         refine ob_call (by first | rfl | (simp [wantE, dstOf, zx1]; done)) ?_ (Calls.pV hst (hcg _ hst.below (hst.base 0 rfl) (hst.base 2 rfl)))
         · go_simp
           try rfl
       · -- 11: t60 := Op.binOp BinOp.neq 31 (t59) (const (int IntKind.i64 0)) 31
         intro zx1 zx2 zx3 zx4 L V W hL hd hw hst u10 e10 p10 u7 e7 p7
         obtain rfl : u10 = _ := p10
         obtain rfl : u7 = _ := p7
         refine ob_c (by first | rfl | (simp [wantE, dstOf, zx1]; done)) ?_ hst rfl
         go_simp
         try with_reducible rfl
       · -- 12: t61 := Op.move (t60)
         intro zx1 zx2 zx3 zx4 L V W hL hd hw hst u11 e11 p11 u7 e7 p7
         obtain rfl : u11 = _ := p11
         obtain rfl : u7 = _ := p7
         refine ob_c (by first | rfl | (simp [wantE, dstOf, zx1]; done)) ?_ hst rfl
         go_simp
         try with_reducible rfl
       · -- 13: t62 := Op.fieldAddr 27 (t4) 0
         intro zx1 zx2 zx3 zx4 L V W hL hd hw hst u12 e12 p12
         obtain rfl : u12 = _ := p12
         refine ob_c (by first | rfl | (simp [wantE, dstOf, zx1]; done)) ?_ hst rfl
         go_simp
         try with_reducible rfl
       · -- 14: t63 := Op.fieldAddr 24 (t62) 0
         intro zx1 zx2 zx3 zx4 L V W hL hd hw hst u13 e13 p13 u12 e12 p12
         obtain rfl : u13 = _ := p13
         obtain rfl : u12 = _ := p12
         refine ob_c (by first | rfl | (simp [wantE, dstOf, zx1]; done)) ?_ hst rfl
         go_simp
         try with_reducible rfl
       · -- 15: t64 := Op.load 9 (t63)
         intro zx1 zx2 zx3 zx4 L V W hL hd hw hst u14 e14 p14 u12 e12 p12
         obtain rfl : u14 = _ := p14
         obtain rfl : u12 = _ := p12
         obtain ⟨c0, c1, c2, c3, c4, c5, c6, c7⟩ := cells8 (hst.find (g := (w.heap.size + 1)) (o := .cells #[.string fs, .int .i64 fq, .int .i64 fk, .int .i64 fr, .string ft, .string fy, .int .i64 fe, .slice fb fn fc] 27 (0, 0)) (by simp [osC]))
         refine ob_c (by first | rfl | (simp [wantE, dstOf, zx1]; done)) ?_ hst rfl
         go_simp
         try with_reducible rfl
       · -- 16: t65 := Op.fieldAddr 27 (t5) 0
         intro zx1 zx2 zx3 zx4 L V W hL hd hw hst u12 e12 p12
         obtain rfl : u12 = _ := p12
         refine ob_c (by first | rfl | (simp [wantE, dstOf, zx1]; done)) ?_ hst rfl
         go_simp
         try with_reducible rfl
       · -- 17: t66 := Op.fieldAddr 24 (t65) 0
         intro zx1 zx2 zx3 zx4 L V W hL hd hw hst u16 e16 p16 u12 e12 p12
         obtain rfl : u16 = _ := p16
         obtain rfl : u12 = _ := p12
         refine ob_c (by first | rfl | (simp [wantE, dstOf, zx1]; done)) ?_ hst rfl
         go_simp
         try with_reducible rfl
       · -- 18: t67 := Op.load 9 (t66)
         intro zx1 zx2 zx3 zx4 L V W hL hd hw hst u17 e17 p17 u12 e12 p12
         obtain rfl : u17 = _ := p17
         obtain rfl : u12 = _ := p12
         obtain ⟨c0, c1, c2, c3, c4, c5, c6, c7⟩ := cells8 (hst.find (g := (w.heap.size + 1 + 1)) (o := .cells #[.string gs, .int .i64 gq, .int .i64 gk, .int .i64 gr, .string gt, .string gy, .int .i64 ge, .slice gb gn gc] 27 (0, 0)) (by simp [osC]))
         refine ob_c (by first | rfl | (simp [wantE, dstOf, zx1]; done)) ?_ hst rfl
         go_simp
         try with_reducible rfl
       · -- 19: t68 := Op.binOp BinOp.eql 9 (t64) (t67) 9
         intro zx1 zx2 zx3 zx4 L V W hL hd hw hst u15 e15 p15 u18 e18 p18 u12 e12 p12
         obtain rfl : u15 = _ := p15
         obtain rfl : u18 = _ := p18
         obtain rfl : u12 = _ := p12
         refine ob_c (by first | rfl | (simp [wantE, dstOf, zx1]; done)) ?_ hst rfl
         go_simp
         try with_reducible rfl
       · -- 20: t69 := Op.pick (t61) (const (bool true)) (t68)
         intro zx1 zx2 zx3 zx4 L V W hL hd hw hst u12 e12 p12 u19 e19 p19 u7 e7 p7
         obtain rfl : u12 = _ := p12
         obtain rfl : u19 = _ := p19
         obtain rfl : u7 = _ := p7
         refine ob_c (by first | rfl | (simp [wantE, dstOf, zx1]; done)) ?_ hst rfl
         go_simp
         try with_reducible rfl
       · -- 21: t70 := Op.move (t69)
         intro zx1 zx2 zx3 zx4 L V W hL hd hw hst u20 e20 p20 u7 e7 p7
         obtain rfl : u20 = _ := p20
         obtain rfl : u7 = _ := p7
         refine ob_c (by first | rfl | (simp [wantE, dstOf, zx1]; done)) ?_ hst rfl
         go_simp
         try with_reducible rfl
       · -- 22: t71 := Op.load 27 (t5)
         intro zx1 zx2 zx3 zx4 L V W hL hd hw hst u21 e21 p21
         obtain rfl : u21 = _ := p21
         refine ob_o ?_ hst ?_
         · first | rfl | (simp [wantE, dstOf, zx1]; done)
         · rfl
       · -- 23: t72 := Op.call { callee := value (func 20), args := #[t71], argTypes := #[27] }
         intro zx1 zx2 zx3 zx4 L V W hL hd hw hst u22 e22 p22 u21 e21 p21
         obtain rfl : u22 = _ := p22
         obtain rfl : u21 = _ := p21
         refine ob_o ?_ hst ?_
         · first | rfl | (simp [wantE, dstOf, zx1]; done)
         · rfl
       · -- 24: t73 := Op.load 24 (t8)
         intro zx1 zx2 zx3 zx4 L V W hL hd hw hst u21 e21 p21
         obtain rfl : u21 = _ := p21
         refine ob_o ?_ hst ?_
         · first | rfl | (simp [wantE, dstOf, zx1]; done)
         · rfl
       · -- 25: t74 := Op.binOp BinOp.neq 24 (t72) (t73) 24
         intro zx1 zx2 zx3 zx4 L V W hL hd hw hst u23 e23 p23 u24 e24 p24 u21 e21 p21
         obtain rfl : u23 = _ := p23
         obtain rfl : u24 = _ := p24
         obtain rfl : u21 = _ := p21
         refine ob_o ?_ hst ?_
         · first | rfl | (simp [wantE, dstOf, zx1]; done)
         · rfl
       · -- 26: t75 := Op.pick (t70) (const (bool true)) (t74)
         intro zx1 zx2 zx3 zx4 L V W hL hd hw hst u21 e21 p21 u25 e25 p25 u7 e7 p7
         obtain rfl : u21 = _ := p21
         obtain rfl : u25 = _ := p25
         obtain rfl : u7 = _ := p7
         refine ob_c (by first | rfl | (simp [wantE, dstOf, zx1]; done)) ?_ hst rfl
         go_simp
         try with_reducible rfl
       · -- 27: t76 := Op.pick (t56) (t75) (const (bool false))
         intro zx1 zx2 zx3 zx4 L V W hL hd hw hst u7 e7 p7 u26 e26 p26
         obtain rfl : u7 = _ := p7
         obtain rfl : u26 = _ := p26
         refine ob_c rfl ?_ hst rfl
         go_simp
         try with_reducible rfl
       · -- 28: t6 := Op.assign (t76)
         intro zx1 zx2 zx3 zx4 L V W hL hd hw hst u27 e27 p27
         obtain rfl : u27 = _ := p27
         refine ob_c rfl ?_ hst rfl
         go_simp
         try with_reducible rfl
     case en =>
       intro V W hst u0 e0 p0 u1 e1 p1 u2 e2 p2 u3 e3 p3 u4 e4 p4 u5 e5 p5 u6 e6 p6 u7 e7 p7 u8 e8 p8 u9 e9 p9 u10 e10 p10 u11 e11 p11 u12 e12 p12 u13 e13 p13 u14 e14 p14 u15 e15 p15 u16 e16 p16 u17 e17 p17 u18 e18 p18 u19 e19 p19 u20 e20 p20 u21 e21 p21 u22 e22 p22 u23 e23 p23 u24 e24 p24 u25 e25 p25 u26 e26 p26 u27 e27 p27 u28 e28 p28
       obtain rfl : u0 = _ := p0
       obtain rfl : u1 = _ := p1
       obtain rfl : u2 = _ := p2
       obtain rfl : u3 = _ := p3
       obtain rfl : u4 = _ := p4
       obtain rfl : u5 = _ := p5
       obtain rfl : u6 = _ := p6
       obtain rfl : u7 = _ := p7
       obtain rfl : u8 = _ := p8
       obtain rfl : u9 = _ := p9
       obtain rfl : u10 = _ := p10
       obtain rfl : u11 = _ := p11
       obtain rfl : u12 = _ := p12
       obtain rfl : u13 = _ := p13
       obtain rfl : u14 = _ := p14
       obtain rfl : u15 = _ := p15
       obtain rfl : u16 = _ := p16
       obtain rfl : u17 = _ := p17
       obtain rfl : u18 = _ := p18
       obtain rfl : u19 = _ := p19
       obtain rfl : u20 = _ := p20
       obtain rfl : u21 = _ := p21
       obtain rfl : u22 = _ := p22
       obtain rfl : u23 = _ := p23
       obtain rfl : u24 = _ := p24
       obtain rfl : u25 = _ := p25
       obtain rfl : u26 = _ := p26
       obtain rfl : u27 = _ := p27
       obtain rfl : u28 = _ := p28
       simp only [EndAll, Act.put, List.getElem_toArray, List.getElem_cons_succ, List.getElem_cons_zero, List.setIfInBounds_toArray, List.set_cons_zero, List.set_cons_succ]
       go_wp2_with fail
       go_ret
       exact ⟨rfl, hst.below⟩
  case neg =>
    have hs1 : (fs.toList == gs.toList) = false := by simp [toList_inj, hss]
    have hs2 : (gs.toList == fs.toList) = false := by simp [toList_inj, Ne.symm hss]
    obtain ⟨pp, e1, e2, hlt1, hlt2⟩ : ∃ p, (fk == 1) = p ∧ (bx == fq) = p ∧ ¬ bx < 1 ∧ ¬ fq < bx := by
      have := HBX.out
      rcases hk with rfl | ⟨hk1, hr1, hr2⟩
      · rw [if_pos rfl] at this
        exact ⟨true, rfl, by simp [this], by omega, by omega⟩
      · rw [if_neg hk1] at this
        exact ⟨false, beq_of hk1, beq_of (by omega), by omega, by omega⟩
    clear hk
    have hpp : pp = true ∨ pp = false := by cases pp <;> simp
    go_upto_region 5 with fail
    rcases hpp with rfl | rfl
    all_goals
     go_quiet (fail)
     clear e1 e2
     have h5 := h4.drewN nq
     generalize World.drewN w4 nq = w5 at h5 ⊢
     clear h4 c0 c1 c2 c3 c4 c5 c6 c7 i0 i1
     obtain ⟨i0, i1⟩ := cells2 (h5.at_ 0 rfl)
     have hd1 : decide (bx < 1) = false := decide_eq_false (by omega)
     have hd2 : decide (fq < bx) = false := decide_eq_false (by omega)
     have hd0 : ¬ (bx < 1 ∨ fq < bx) := by omega
     have h6 := h5.alloc (.cells #[.string fs, .int .i64 bx, .int .i64 1, .int .i64 0, .string ⟨#[]⟩, .string ⟨#[]⟩, .int .i64 0, .slice none 0 0] 27)
     go_upto_region 8 with fail
     clear h5 hlt1 hlt2 hd0 hd1 hd2 i0 i1
     refine wp_region_st [pVal ?c8C_0, pVal ?c8C_1, pVal (.agg #[.string fs, .int .i64 bx, .int .i64 1, .int .i64 0, .string ⟨#[]⟩, .string ⟨#[]⟩, .int .i64 0, .slice none 0 0]), pVal (.agg #[.string fs, .int .i64 bx]), pVal (.agg #[.string fs, .int .i64 bx]), pVal ?c8C_5, pVal ?c8C_6, pVal ?c8C_7, pVal (.agg #[.slice b tn q, .slice b1 n1 q1, .slice b2 n2 q2, .slice b3 n3 q3]), pVal (.agg #[.string gs, .int .i64 gq, .int .i64 gk, .int .i64 gr, .string gt, .string gy, .int .i64 ge, .slice gb gn gc]), pVal (.int .i64 0), pVal ?c8C_11, pVal ?c8C_12, pVal ?c8C_13, pVal ?c8C_14, pVal ?c8C_15, pVal ?c8C_16, pVal ?c8C_17, pVal ?c8C_18, pVal ?c8C_19, pVal ?c8C_20, pVal ?c8C_21, pVal (.agg #[.string gs, .int .i64 gq, .int .i64 gk, .int .i64 gr, .string gt, .string gy, .int .i64 ge, .slice gb gn gc]), pVal (.agg #[.string gs, .int .i64 gx]), pVal (.agg #[.string fs, .int .i64 bx]), pVal ?c8C_25, pVal ?c8C_26, pVal ?c8C_27, pVal ?c8C_28] (osC [((w5.heap.size), .cells #[.string fs, .int .i64 bx, .int .i64 1, .int .i64 0, .string ⟨#[]⟩, .string ⟨#[]⟩, .int .i64 0, .slice none 0 0] 27 (0, 0)), (gb', .cells #[.string fs, .int .i64 bx] 24 (0, 0)), ((w.heap.size + 1 + 1), .cells #[.string gs, .int .i64 gq, .int .i64 gk, .int .i64 gr, .string gt, .string gy, .int .i64 ge, .slice gb gn gc] 27 (0, 0)), ((w.heap.size + 1), .cells #[.string fs, .int .i64 fq, .int .i64 fk, .int .i64 fr, .string ft, .string fy, .int .i64 fe, .slice fb fn fc] 27 (0, 0)), ((w.heap.size), .cells #[.slice b tn q, .slice b1 n1 q1, .slice b2 n2 q2, .slice b3 n3 q3] 45 (0, 0))]) 77 [0, 1, 3, 7, 3, 31, 63, 127, 255, 255, 1023, 2047, 4095, 8191, 16383, 32767, 8191, 73727, 204799, 524287, 1048575, 2097151, 4194303, 8388607, 4194303, 33554431, 67108863, 134217727, 268435455] [[], [(0, 49)], [(1, 50)], [(1, 50), (2, 51)], [(1, 50)], [(1, 50), (4, 53), (3, 52)], [(5, 54), (1, 50)], [(6, 55)], [(7, 56)], [(7, 56)], [(7, 56), (9, 58), (8, 57)], [(7, 56), (10, 59)], [(7, 56), (11, 60)], [(12, 61)], [(12, 61), (13, 62)], [(12, 61), (14, 63)], [(12, 61)], [(12, 61), (16, 65)], [(12, 61), (17, 66)], [(12, 61), (18, 67), (15, 64)], [(7, 56), (19, 68), (12, 61)], [(7, 56), (20, 69)], [(21, 70)], [(21, 70), (22, 71)], [(21, 70)], [(21, 70), (24, 73), (23, 72)], [(7, 56), (25, 74), (21, 70)], [(26, 75), (7, 56)], [(27, 76)]] [(0, 49), (1, 50), (2, 51), (3, 52), (4, 53), (5, 54), (6, 55), (7, 56), (8, 57), (9, 58), (10, 59), (11, 60), (12, 61), (13, 62), (14, 63), (15, 64), (16, 65), (17, 66), (18, 67), (19, 68), (20, 69), (21, 70), (22, 71), (23, 72), (24, 73), (25, 74), (26, 75), (27, 76), (28, 6)] (by kernel_rfl) (by kernel_rfl) rfl rfl h6 osC0 osC1 ?ob ?en
     case ob =>
       refine ⟨?_, ?_, ?_, ?_, ?_, ?_, ?_, ?_, ?_, ?_, ?_, ?_, ?_, ?_, ?_, ?_, ?_, ?_, ?_, ?_, ?_, ?_, ?_, ?_, ?_, ?_, ?_, ?_, ?_, trivial⟩
       · -- 0: t49 := Op.move (t7)
         intro zx1 zx2 zx3 zx4 L V W hL hd hw hst 
         refine ob_c rfl ?_ hst rfl
         go_simp
         try with_reducible rfl
       · -- 1: t50 := Op.move (t49)
         intro zx1 zx2 zx3 zx4 L V W hL hd hw hst u0 e0 p0
         obtain rfl : u0 = _ := p0
         refine ob_c rfl ?_ hst rfl
         go_simp
         try with_reducible rfl
       · -- 2: t51 := Op.load 27 (t9)
         intro zx1 zx2 zx3 zx4 L V W hL hd hw hst u1 e1 p1
         obtain rfl : u1 = _ := p1
         exact ob_v _ (by first | rfl | (simp [wantE, dstOf, zx1]; done)) (run_load_own rfl rfl (hst.find (g := (w5.heap.size)) (o := .cells #[.string fs, .int .i64 bx, .int .i64 1, .int .i64 0, .string ⟨#[]⟩, .string ⟨#[]⟩, .int .i64 0, .slice none 0 0] 27 (0, 0)) (by simp [osC])) Try.underlying27 rfl fact_info) hst rfl rfl
       · -- 3: t52 := Op.call { callee := value (func 20), args := #[t51], argTypes := #[27] }
         intro zx1 zx2 zx3 zx4 L V W hL hd hw hst u2 e2 p2 u1 e1 p1
         obtain rfl : u2 = _ := p2
         obtain rfl : u1 = _ := p1
         refine ob_call (by first | rfl | (simp [wantE, dstOf, zx1]; done)) ?_ (Calls.pV hst (base_any _ ⟨fs, bx, 1, 0, ⟨#[]⟩, ⟨#[]⟩, 0, []⟩ (.slice none 0 0)))
         go_simp
         try rfl
       · -- 4: t53 := Op.load 24 (t8)
         intro zx1 zx2 zx3 zx4 L V W hL hd hw hst u1 e1 p1
         obtain rfl : u1 = _ := p1
         exact ob_v _ (by first | rfl | (simp [wantE, dstOf, zx1]; done)) (run_load_own rfl rfl (hst.find (g := gb') (o := .cells #[.string fs, .int .i64 bx] 24 (0, 0)) (by simp [osC])) Try.underlying24 rfl id_info) hst rfl rfl
       · -- 5: t54 := Op.binOp BinOp.eql 24 (t52) (t53) 24
         intro zx1 zx2 zx3 zx4 L V W hL hd hw hst u3 e3 p3 u4 e4 p4 u1 e1 p1
         obtain rfl : u3 = _ := p3
         obtain rfl : u4 = _ := p4
         obtain rfl : u1 = _ := p1
         refine ob_c (by first | rfl | (simp [wantE, dstOf, zx1]; done)) ?_ hst rfl
         go_simp
         try with_reducible rfl
       · -- 6: t55 := Op.pick (t50) (t54) (const (bool false))
         intro zx1 zx2 zx3 zx4 L V W hL hd hw hst u1 e1 p1 u5 e5 p5
         obtain rfl : u1 = _ := p1
         obtain rfl : u5 = _ := p5
         refine ob_c rfl ?_ hst rfl
         go_simp
         try with_reducible rfl
       · -- 7: t56 := Op.move (t55)
         intro zx1 zx2 zx3 zx4 L V W hL hd hw hst u6 e6 p6
         obtain rfl : u6 = _ := p6
         refine ob_c rfl ?_ hst rfl
         go_simp
         try with_reducible rfl
       · -- 8: t57 := Op.load 45 (t3)
         intro zx1 zx2 zx3 zx4 L V W hL hd hw hst u7 e7 p7
         obtain rfl : u7 = _ := p7
         exact ob_v _ (by first | rfl | (simp [wantE, dstOf, zx1]; done)) (run_load_own rfl rfl (hst.find (g := (w.heap.size)) (o := .cells #[.slice b tn q, .slice b1 n1 q1, .slice b2 n2 q2, .slice b3 n3 q3] 45 (0, 0)) (by simp [osC])) Try.underlying45 rfl cat_info) hst rfl rfl
       · -- 9: t58 := Op.load 27 (t5)
         intro zx1 zx2 zx3 zx4 L V W hL hd hw hst u7 e7 p7
         obtain rfl : u7 = _ := p7
         exact ob_v _ (by first | rfl | (simp [wantE, dstOf, zx1]; done)) (run_load_own rfl rfl (hst.find (g := (w.heap.size + 1 + 1)) (o := .cells #[.string gs, .int .i64 gq, .int .i64 gk, .int .i64 gr, .string gt, .string gy, .int .i64 ge, .slice gb gn gc] 27 (0, 0)) (by simp [osC])) Try.underlying27 rfl fact_info) hst rfl rfl
       · -- 10: t59 := Op.call { callee := value (func 21), args := #[t57, t58], argTypes := #[45, 27] }
         intro zx1 zx2 zx3 zx4 L V W hL hd hw hst u8 e8 p8 u9 e9 p9 u7 e7 p7
         obtain rfl : u8 = _ := p8
         obtain rfl : u9 = _ := p9
         obtain rfl : u7 = _ := p7
         refine ob_call (by first | rfl | (simp [wantE, dstOf, zx1]; done)) ?_ (Calls.pV hst (hcg _ hst.below (hst.base 0 rfl) (hst.base 2 rfl)))
         · go_simp
           try rfl
       · -- 11: t60 := Op.binOp BinOp.neq 31 (t59) (const (int IntKind.i64 0)) 31
         intro zx1 zx2 zx3 zx4 L V W hL hd hw hst u10 e10 p10 u7 e7 p7
         obtain rfl : u10 = _ := p10
         obtain rfl : u7 = _ := p7
         refine ob_c (by first | rfl | (simp [wantE, dstOf, zx1]; done)) ?_ hst rfl
         go_simp
         try with_reducible rfl
       · -- 12: t61 := Op.move (t60)
         intro zx1 zx2 zx3 zx4 L V W hL hd hw hst u11 e11 p11 u7 e7 p7
         obtain rfl : u11 = _ := p11
         obtain rfl : u7 = _ := p7
         refine ob_c (by first | rfl | (simp [wantE, dstOf, zx1]; done)) ?_ hst rfl
         go_simp
         try with_reducible rfl
       · -- 13: t62 := Op.fieldAddr 27 (t4) 0
         intro zx1 zx2 zx3 zx4 L V W hL hd hw hst u12 e12 p12
         obtain rfl : u12 = _ := p12
         refine ob_c (by first | rfl | (simp [wantE, dstOf, zx1]; done)) ?_ hst rfl
         go_simp
         try with_reducible rfl
       · -- 14: t63 := Op.fieldAddr 24 (t62) 0
         intro zx1 zx2 zx3 zx4 L V W hL hd hw hst u13 e13 p13 u12 e12 p12
         obtain rfl : u13 = _ := p13
         obtain rfl : u12 = _ := p12
         refine ob_c (by first | rfl | (simp [wantE, dstOf, zx1]; done)) ?_ hst rfl
         go_simp
         try with_reducible rfl
       · -- 15: t64 := Op.load 9 (t63)
         intro zx1 zx2 zx3 zx4 L V W hL hd hw hst u14 e14 p14 u12 e12 p12
         obtain rfl : u14 = _ := p14
         obtain rfl : u12 = _ := p12
         obtain ⟨c0, c1, c2, c3, c4, c5, c6, c7⟩ := cells8 (hst.find (g := (w.heap.size + 1)) (o := .cells #[.string fs, .int .i64 fq, .int .i64 fk, .int .i64 fr, .string ft, .string fy, .int .i64 fe, .slice fb fn fc] 27 (0, 0)) (by simp [osC]))
         refine ob_c (by first | rfl | (simp [wantE, dstOf, zx1]; done)) ?_ hst rfl
         go_simp
         try with_reducible rfl
       · -- 16: t65 := Op.fieldAddr 27 (t5) 0
         intro zx1 zx2 zx3 zx4 L V W hL hd hw hst u12 e12 p12
         obtain rfl : u12 = _ := p12
         refine ob_c (by first | rfl | (simp [wantE, dstOf, zx1]; done)) ?_ hst rfl
         go_simp
         try with_reducible rfl
       · -- 17: t66 := Op.fieldAddr 24 (t65) 0
         intro zx1 zx2 zx3 zx4 L V W hL hd hw hst u16 e16 p16 u12 e12 p12
         obtain rfl : u16 = _ := p16
         obtain rfl : u12 = _ := p12
         refine ob_c (by first | rfl | (simp [wantE, dstOf, zx1]; done)) ?_ hst rfl
         go_simp
         try with_reducible rfl
       · -- 18: t67 := Op.load 9 (t66)
         intro zx1 zx2 zx3 zx4 L V W hL hd hw hst u17 e17 p17 u12 e12 p12
         obtain rfl : u17 = _ := p17
         obtain rfl : u12 = _ := p12
         obtain ⟨c0, c1, c2, c3, c4, c5, c6, c7⟩ := cells8 (hst.find (g := (w.heap.size + 1 + 1)) (o := .cells #[.string gs, .int .i64 gq, .int .i64 gk, .int .i64 gr, .string gt, .string gy, .int .i64 ge, .slice gb gn gc] 27 (0, 0)) (by simp [osC]))
         refine ob_c (by first | rfl | (simp [wantE, dstOf, zx1]; done)) ?_ hst rfl
         go_simp
         try with_reducible rfl
       · -- 19: t68 := Op.binOp BinOp.eql 9 (t64) (t67) 9
         intro zx1 zx2 zx3 zx4 L V W hL hd hw hst u15 e15 p15 u18 e18 p18 u12 e12 p12
         obtain rfl : u15 = _ := p15
         obtain rfl : u18 = _ := p18
         obtain rfl : u12 = _ := p12
         refine ob_c (by first | rfl | (simp [wantE, dstOf, zx1]; done)) ?_ hst rfl
         go_simp
         try with_reducible rfl
       · -- 20: t69 := Op.pick (t61) (const (bool true)) (t68)
         intro zx1 zx2 zx3 zx4 L V W hL hd hw hst u12 e12 p12 u19 e19 p19 u7 e7 p7
         obtain rfl : u12 = _ := p12
         obtain rfl : u19 = _ := p19
         obtain rfl : u7 = _ := p7
         refine ob_c (by first | rfl | (simp [wantE, dstOf, zx1]; done)) ?_ hst rfl
         go_simp
         try with_reducible rfl
       · -- 21: t70 := Op.move (t69)
         intro zx1 zx2 zx3 zx4 L V W hL hd hw hst u20 e20 p20 u7 e7 p7
         obtain rfl : u20 = _ := p20
         obtain rfl : u7 = _ := p7
         refine ob_c (by first | rfl | (simp [wantE, dstOf, zx1]; done)) ?_ hst rfl
         go_simp
         try with_reducible rfl
       · -- 22: t71 := Op.load 27 (t5)
         intro zx1 zx2 zx3 zx4 L V W hL hd hw hst u21 e21 p21
         obtain rfl : u21 = _ := p21
         exact ob_v _ (by first | rfl | (simp [wantE, dstOf, zx1]; done)) (run_load_own rfl rfl (hst.find (g := (w.heap.size + 1 + 1)) (o := .cells #[.string gs, .int .i64 gq, .int .i64 gk, .int .i64 gr, .string gt, .string gy, .int .i64 ge, .slice gb gn gc] 27 (0, 0)) (by simp [osC])) Try.underlying27 rfl fact_info) hst rfl rfl
       · -- 23: t72 := Op.call { callee := value (func 20), args := #[t71], argTypes := #[27] }
         intro zx1 zx2 zx3 zx4 L V W hL hd hw hst u22 e22 p22 u21 e21 p21
         obtain rfl : u22 = _ := p22
         obtain rfl : u21 = _ := p21
         refine ob_call (by first | rfl | (simp [wantE, dstOf, zx1]; done)) ?_ (Calls.pV hst (hbg _))
         · go_simp
           try rfl
       · -- 24: t73 := Op.load 24 (t8)
         intro zx1 zx2 zx3 zx4 L V W hL hd hw hst u21 e21 p21
         obtain rfl : u21 = _ := p21
         exact ob_v _ (by first | rfl | (simp [wantE, dstOf, zx1]; done)) (run_load_own rfl rfl (hst.find (g := gb') (o := .cells #[.string fs, .int .i64 bx] 24 (0, 0)) (by simp [osC])) Try.underlying24 rfl id_info) hst rfl rfl
       · -- 25: t74 := Op.binOp BinOp.neq 24 (t72) (t73) 24
         intro zx1 zx2 zx3 zx4 L V W hL hd hw hst u23 e23 p23 u24 e24 p24 u21 e21 p21
         obtain rfl : u23 = _ := p23
         obtain rfl : u24 = _ := p24
         obtain rfl : u21 = _ := p21
         refine ob_c (by first | rfl | (simp [wantE, dstOf, zx1]; done)) ?_ hst rfl
         go_simp
         try with_reducible rfl
       · -- 26: t75 := Op.pick (t70) (const (bool true)) (t74)
         intro zx1 zx2 zx3 zx4 L V W hL hd hw hst u21 e21 p21 u25 e25 p25 u7 e7 p7
         obtain rfl : u21 = _ := p21
         obtain rfl : u25 = _ := p25
         obtain rfl : u7 = _ := p7
         refine ob_c (by first | rfl | (simp [wantE, dstOf, zx1]; done)) ?_ hst rfl
         go_simp
         try with_reducible rfl
       · -- 27: t76 := Op.pick (t56) (t75) (const (bool false))
         intro zx1 zx2 zx3 zx4 L V W hL hd hw hst u7 e7 p7 u26 e26 p26
         obtain rfl : u7 = _ := p7
         obtain rfl : u26 = _ := p26
         refine ob_c rfl ?_ hst rfl
         go_simp
         try with_reducible rfl
       · -- 28: t6 := Op.assign (t76)
         intro zx1 zx2 zx3 zx4 L V W hL hd hw hst u27 e27 p27
         obtain rfl : u27 = _ := p27
         refine ob_c rfl ?_ hst rfl
         go_simp
         try with_reducible rfl
     case en =>
       intro V W hst u0 e0 p0 u1 e1 p1 u2 e2 p2 u3 e3 p3 u4 e4 p4 u5 e5 p5 u6 e6 p6 u7 e7 p7 u8 e8 p8 u9 e9 p9 u10 e10 p10 u11 e11 p11 u12 e12 p12 u13 e13 p13 u14 e14 p14 u15 e15 p15 u16 e16 p16 u17 e17 p17 u18 e18 p18 u19 e19 p19 u20 e20 p20 u21 e21 p21 u22 e22 p22 u23 e23 p23 u24 e24 p24 u25 e25 p25 u26 e26 p26 u27 e27 p27 u28 e28 p28
       obtain rfl : u0 = _ := p0
       obtain rfl : u1 = _ := p1
       obtain rfl : u2 = _ := p2
       obtain rfl : u3 = _ := p3
       obtain rfl : u4 = _ := p4
       obtain rfl : u5 = _ := p5
       obtain rfl : u6 = _ := p6
       obtain rfl : u7 = _ := p7
       obtain rfl : u8 = _ := p8
       obtain rfl : u9 = _ := p9
       obtain rfl : u10 = _ := p10
       obtain rfl : u11 = _ := p11
       obtain rfl : u12 = _ := p12
       obtain rfl : u13 = _ := p13
       obtain rfl : u14 = _ := p14
       obtain rfl : u15 = _ := p15
       obtain rfl : u16 = _ := p16
       obtain rfl : u17 = _ := p17
       obtain rfl : u18 = _ := p18
       obtain rfl : u19 = _ := p19
       obtain rfl : u20 = _ := p20
       obtain rfl : u21 = _ := p21
       obtain rfl : u22 = _ := p22
       obtain rfl : u23 = _ := p23
       obtain rfl : u24 = _ := p24
       obtain rfl : u25 = _ := p25
       obtain rfl : u26 = _ := p26
       obtain rfl : u27 = _ := p27
       obtain rfl : u28 = _ := p28
       simp only [EndAll, Act.put, List.getElem_toArray, List.getElem_cons_succ, List.getElem_cons_zero, List.setIfInBounds_toArray, List.set_cons_zero, List.set_cons_succ]
       go_wp2_with fail
       go_ret
       exact ⟨rfl, hst.below⟩
end Go.Proofs.Ytfpkibfofainaaa
