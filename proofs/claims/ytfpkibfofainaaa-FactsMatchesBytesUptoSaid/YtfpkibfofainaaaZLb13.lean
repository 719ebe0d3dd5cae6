/- The walk over FactsMatchesBytes. -/
import Derived.Test.YtfpkibfofainaaaZRr13
import Derived.Test.YtfpkibfofainaaaZBy13
import Derived.Test.YtfpkibfofainaaaZRsm
import Derived.Test.YtfpkibfofainaaaZLw
import Derived.Test.YtfpkibfofainaaaZDf
set_option linter.unusedVariables false
set_option linter.unusedSimpArgs false
namespace Go.Proofs.Ytfpkibfofainaaa
open Go.RowKit

theorem readR_c {w0 W : World} {fs : List (World → Prop)} (h : St w0 W [] fs) {bv : Value} {l : List UInt8} {i : Int} (hb : IsBytes W bv l) (hi : i ≤ 9223372036854775807) (hl : l.length ≤ 1099511627776) {g : Fc} {a c : Int} (hr : rdFc l i = (g, a, c)) :
    Calls Try.prog 32 #[bv, .int .i64 i] W fun e w' => ∃ vb vq, e = .returned (.tuple #[g.val (.slice vb g.fields.length vq), .int .i64 a, .int .i64 c]) ∧ St w0 w' [] ((IsVals · (.slice vb g.fields.length vq) g.fields) :: fs) := by
  have := refFRead_any W bv l i hb hi hl
  rw [hr] at this
  exact this.mono fun e w' ⟨vb, vq, h1, h2, h3⟩ => ⟨vb, vq, h1, (h.call h3).keep (Mono.seq rdVal_up _ _) h2⟩

set_option maxRecDepth 8000 in
set_option maxHeartbeats 4000000 in
theorem matchesBytes_walk (w : World) (hm : HasMax w) (bv : Value) (b : List UInt8) (hb : IsBytes w bv b) (hbl : b.length ≤ 1048576) (i : Int) (hi : -9223372036854775808 ≤ i ∧ i ≤ 9223372036854775807) (f : Fc) (fb : Option Addr) (fc : Nat) (hf : IsVals w (.slice fb f.fields.length fc) f.fields) (hok : f.Ok) (hfl : f.bulk ≤ 1048576) :
    Calls Try.prog 12 #[bv, .int .i64 i, f.val (.slice fb f.fields.length fc)] w fun e w' => e = .returned (.bool true) ∧ Below w.heap.size w w' := by
  obtain ⟨bb, bc, rfl, -⟩ := hb.out
  obtain ⟨hfit, hI, s1, s2, s3, s4⟩ := fits_of hok hfl
  have hap := fun w hb hv => factAppend_any w (.slice bb b.length bc) b f fb fc hb hv hI (by omega) s1 s2 s3 (by omega)
  have hra := fun w hb hv => refFAppend_any w (.slice bb b.length bc) b f fb fc hb hv hI (by omega) s1 s2 s3 (by omega)
  have hvd := fun w hv => validF_any w f fb fc hv
  obtain ⟨vd, hvdd⟩ : ∃ d, f.valid = d := ⟨_, rfl⟩
  obtain ⟨X, hX⟩ : ∃ X, b ++ f.enc = X := ⟨_, rfl⟩
  obtain ⟨SX, hsx⟩ : ∃ s, (⟨X.toArray⟩ : ByteArray) = s := ⟨_, rfl⟩
  rw [hvdd] at hvd
  rw [hX] at hap hra
  clear hvdd hX hfit hI s1 s2 s3 s4 hok hfl
  obtain ⟨g, a, c, hrd⟩ : ∃ g a c, rdFc b i = (g, a, c) := ⟨_, _, _, rfl⟩
  have hsm := fun w gb gc rb rc ha hb => refSame_any w g g gb rb gc rc ha hb
  simp only [decide_true] at hsm
  obtain ⟨m, hbm⟩ : ∃ n, b.length = n := ⟨_, rfl⟩
  obtain ⟨fs, fq, fk, fr, ft, fy, fe, fl⟩ := f
  obtain ⟨gs, gq, gk, gr, gt, gy, ge, gl⟩ := g
  simp only [Fc.val, Fc.cellsA] at *
  obtain ⟨fn, hfn⟩ : ∃ n, fl.length = n := ⟨_, rfl⟩
  obtain ⟨gn, hgn⟩ : ∃ n, gl.length = n := ⟨_, rfl⟩
  rw [hfn] at hf hap hra hvd ⊢
  rw [hgn] at hsm
  rw [hbm] at hb hap hra ⊢
  have h0 := (((St.start w).putOld (P := (IsVals · (.slice fb fn fc) fl)) (Mono.seq rdVal_up _ _) hf).putOld (P := (IsBytes · (.slice bb m bc) b)) (Mono.bytes _ _) hb).boxC #[.string fs, .int .i64 fq, .int .i64 fk, .int .i64 fr, .string ft, .string fy, .int .i64 fe, .slice fb fn fc] 27
  have HAP := Lib.hid hap
  have HRA := Lib.hid hra
  have HVD := Lib.hid hvd
  have HSM := Lib.hid hsm
  have HRD := Lib.hid hrd
  have HGN := Lib.hid hgn
  have HBL := Lib.hid hbl
  have HSX := Lib.hid hsx
  have HI2 := Lib.hid hi.2
  clear hf hb hap hra hvd hsm hrd hgn hbl hsx hi hfn
  go_enter Try.func12, Try.ntmps12
  go_upto_region 1 with fail
  generalize World.alloc _ _ = W0 at h0 ⊢
  have hm0 := hm.below h0.below rfl
  generalize hg5 : w.heap.size = g5 at h0 ⊢
  have HG5 := Lib.hid hg5
  clear hg5
  go_wp2_with fail
  refine (Calls.sV h0 (example_any _ hm0)).mono ?_
  rintro e w1 ⟨rfl, h1⟩
  clear h0 hm0
  go_wp2_with fail
  refine (read_c h1 (h1.is 1 rfl) (by have := HBL.out; omega) HRD.out).mono ?_
  rintro e w2 ⟨gb, gc, rfl, h2⟩
  simp only [Fc.val, Fc.cellsA] at h2 ⊢
  rw [HGN.out] at h2 ⊢
  clear h1
  go_upto_region 3 with (refine wpList_store_row rfl 27 (.tmp 8) (.tmp 19) rfl w2.heap.size #[.string gs, .int .i64 gq, .int .i64 gk, .int .i64 gr, .string gt, .string gy, .int .i64 ge, .slice gb gn gc] rfl rfl 27 _ (heap_alloc_new _ _) fact_info rfl (fact_one _ _ _ _ _ _ _ _ _ _) ?_)
  have k2 := h2.newC #[.string ⟨#[]⟩, .int .i64 0, .int .i64 0, .int .i64 0, .string ⟨#[]⟩, .string ⟨#[]⟩, .int .i64 0, .slice none 0 0] #[.string gs, .int .i64 gq, .int .i64 gk, .int .i64 gr, .string gt, .string gy, .int .i64 ge, .slice gb gn gc] 27
  generalize World.setRow _ _ _ = W2 at k2 ⊢
  generalize w2.heap.size = g2 at k2 ⊢
  clear h2
  go_wp2_with fail
  refine (readR_c k2 (k2.is 3 rfl) HI2.out (by have := HBL.out; omega) HRD.out).mono ?_
  rintro e w3 ⟨rb, rc, rfl, h3⟩
  simp only [Fc.val, Fc.cellsA] at h3 ⊢
  rw [HGN.out] at h3 ⊢
  clear k2
  go_upto_region 4 with (refine wpList_store_row rfl 27 (.tmp 11) (.tmp 26) rfl w3.heap.size #[.string gs, .int .i64 gq, .int .i64 gk, .int .i64 gr, .string gt, .string gy, .int .i64 ge, .slice rb gn rc] rfl rfl 27 _ (heap_alloc_new _ _) fact_info rfl (fact_one _ _ _ _ _ _ _ _ _ _) ?_)
  have k3 := h3.newC #[.string ⟨#[]⟩, .int .i64 0, .int .i64 0, .int .i64 0, .string ⟨#[]⟩, .string ⟨#[]⟩, .int .i64 0, .slice none 0 0] #[.string gs, .int .i64 gq, .int .i64 gk, .int .i64 gr, .string gt, .string gy, .int .i64 ge, .slice rb gn rc] 27
  generalize World.setRow _ _ _ = W3 at k3 ⊢
  generalize w3.heap.size = g3 at k3 ⊢
  clear h3
  obtain ⟨c0, c1, c2, c3, c4, c5, c6, c7⟩ := (k3.is 0 rfl : IsCells _ _ _).c8
  obtain ⟨d0, d1, d2, d3, d4, d5, d6, d7⟩ := (k3.is 2 rfl : IsCells _ _ _).c8
  go_wp2_with fail
  refine (Calls.sV k3 (HSM.out _ gb gc rb rc (k3.is 3 rfl) (k3.is 1 rfl))).mono ?_
  rintro e w4 ⟨rfl, h4⟩
  clear c0 c1 c2 c3 c4 c5 c6 c7 d0 d1 d2 d3 d4 d5 d6 d7 k3
  obtain ⟨c0, c1, c2, c3, c4, c5, c6, c7⟩ := (h4.is 4 rfl : IsCells _ _ _).c8
  have na : (a != a) = false := by simp
  have nc : (c != c) = false := by simp
  go_wp2_with fail
  refine (Calls.sV h4 (HVD.out _ (h4.is 6 rfl))).mono ?_
  rintro e w5 ⟨rfl, h5⟩
  clear c0 c1 c2 c3 c4 c5 c6 c7 h4
  cases vd with
  | false =>
    go_wp2_with fail
    go_ret
    exact ⟨rfl, h5.below⟩
  | true =>
    go_upto_region 8 with fail
    replace h5 := h5.facts (fs' := [IsCells g5 #[.string fs, .int .i64 fq, .int .i64 fk, .int .i64 fr, .string ft, .string fy, .int .i64 fe, .slice fb fn fc], (IsBytes · (.slice bb m bc) b), (IsVals · (.slice fb fn fc) fl)]) (fun P hP => by simp only [List.mem_cons, List.not_mem_nil, or_false] at hP ⊢; rcases hP with h | h | h <;> simp [h])
    refine wp_region_st [pVal (.bool true), pVal (.bool true), pVal ?c8_2, pVal (.agg #[.string fs, .int .i64 fq, .int .i64 fk, .int .i64 fr, .string ft, .string fy, .int .i64 fe, .slice fb fn fc]), pBytes X, pVal (.string SX), pVal ?c8_6, pVal (.agg #[.string fs, .int .i64 fq, .int .i64 fk, .int .i64 fr, .string ft, .string fy, .int .i64 fe, .slice fb fn fc]), pBytes X, pVal (.string SX), pVal (.bool true), pVal (.bool true), pVal (.bool true)] (osC []) 59 [0, 1, 3, 3, 15, 31, 3, 3, 223, 479, 1023, 2047, 4095] [[], [(0, 47)], [(1, 48)], [(1, 48)], [(1, 48), (3, 50), (2, 49)], [(1, 48), (4, 51)], [(1, 48)], [(1, 48)], [(1, 48), (7, 54), (6, 53)], [(1, 48), (8, 55)], [(1, 48), (9, 56), (5, 52)], [(10, 57), (1, 48)], [(11, 58)]] [(0, 47), (1, 48), (2, 49), (3, 50), (4, 51), (5, 52), (6, 53), (7, 54), (8, 55), (9, 56), (10, 57), (11, 58), (12, 6)] (by kernel_rfl) (by kernel_rfl) rfl rfl h5 osC0 osC1 ?ob ?en
    case ob =>
      refine ⟨?_, ?_, ?_, ?_, ?_, ?_, ?_, ?_, ?_, ?_, ?_, ?_, ?_, trivial⟩
      · -- 0: t47 := Op.move (t7)
        intro zx1 zx2 zx3 zx4 L V W hL hd hw hst 
        refine ob_c (by first | rfl | (simp [wantE, dstOf, zx1]; done)) ?_ hst rfl
        go_simp
        all_goals (skip)
      · -- 1: t48 := Op.move (t47)
        intro zx1 zx2 zx3 zx4 L V W hL hd hw hst u0 e0 p0
        obtain rfl : u0 = _ := p0
        refine ob_c (by first | rfl | (simp [wantE, dstOf, zx1]; done)) ?_ hst rfl
        go_simp
        all_goals (skip)
      · -- 2: t49 := Op.move (t0)
        intro zx1 zx2 zx3 zx4 L V W hL hd hw hst u1 e1 p1
        obtain rfl : u1 = _ := p1
        refine ob_c (by first | rfl | (simp [wantE, dstOf, zx1]; done)) ?_ hst rfl
        go_simp
        try with_reducible rfl
      · -- 3: t50 := Op.load 27 (t5)
        intro zx1 zx2 zx3 zx4 L V W hL hd hw hst u1 e1 p1
        obtain rfl : u1 = _ := p1
        obtain ⟨z0, z1, z2, z3, z4, z5, z6, z7⟩ := IsCells.c8 (Mono.cells _ _ _ _ (mask_is _ _) (hst.base 0 rfl : IsCells _ _ _))
        refine ob_c (by first | rfl | (simp [wantE, dstOf, zx1]; done)) ?_ hst rfl
        go_simp
        all_goals (try with_reducible rfl)
      · -- 4: t51 := Op.call { callee := value (func 15), args := #[t49, t50], argTypes := #[22, 27] }
        intro zx1 zx2 zx3 zx4 L V W hL hd hw hst u2 e2 p2 u3 e3 p3 u1 e1 p1
        obtain rfl : u2 = _ := p2
        obtain rfl : u3 = _ := p3
        obtain rfl : u1 = _ := p1
        refine ob_call (by first | rfl | (simp [wantE, dstOf, zx1]; done)) ?_ (Calls.pNB hst (HAP.out _ ((hst.base 1 rfl : IsBytes _ _ _).sub (mask_is _ _)) ((hst.base 2 rfl : IsVals _ _ _).sub rdVal_up (mask_is _ _))))
        go_simp
        try rfl
      · -- 5: t52 := Op.convert 22 9 (t51)
        intro zx1 zx2 zx3 zx4 L V W hL hd hw hst u4 e4 p4 u1 e1 p1
        obtain ⟨xb, xq, rfl, xk⟩ := p4
        obtain rfl : u1 = _ := p1
        refine ob_c (by first | rfl | (simp [wantE, dstOf, zx1]; done)) ?_ hst rfl
        exact run_conv rfl (by simp [zx1]) (str_of2 HSX.out (xk.sub (mask_is _ _)))
      · -- 6: t53 := Op.move (t0)
        intro zx1 zx2 zx3 zx4 L V W hL hd hw hst u1 e1 p1
        obtain rfl : u1 = _ := p1
        refine ob_c (by first | rfl | (simp [wantE, dstOf, zx1]; done)) ?_ hst rfl
        go_simp
        try with_reducible rfl
      · -- 7: t54 := Op.load 27 (t5)
        intro zx1 zx2 zx3 zx4 L V W hL hd hw hst u1 e1 p1
        obtain rfl : u1 = _ := p1
        obtain ⟨z0, z1, z2, z3, z4, z5, z6, z7⟩ := IsCells.c8 (Mono.cells _ _ _ _ (mask_is _ _) (hst.base 0 rfl : IsCells _ _ _))
        refine ob_c (by first | rfl | (simp [wantE, dstOf, zx1]; done)) ?_ hst rfl
        go_simp
        all_goals (try with_reducible rfl)
      · -- 8: t55 := Op.call { callee := value (func 33), args := #[t53, t54], argTypes := #[22, 27] }
        intro zx1 zx2 zx3 zx4 L V W hL hd hw hst u6 e6 p6 u7 e7 p7 u1 e1 p1
        obtain rfl : u6 = _ := p6
        obtain rfl : u7 = _ := p7
        obtain rfl : u1 = _ := p1
        refine ob_call (by first | rfl | (simp [wantE, dstOf, zx1]; done)) ?_ (Calls.pB hst (HRA.out _ ((hst.base 1 rfl : IsBytes _ _ _).sub (mask_is _ _)) ((hst.base 2 rfl : IsVals _ _ _).sub rdVal_up (mask_is _ _))))
        go_simp
        try rfl
      · -- 9: t56 := Op.convert 22 9 (t55)
        intro zx1 zx2 zx3 zx4 L V W hL hd hw hst u8 e8 p8 u1 e1 p1
        obtain ⟨yb, yq, rfl, yk⟩ := p8
        obtain rfl : u1 = _ := p1
        refine ob_c (by first | rfl | (simp [wantE, dstOf, zx1]; done)) ?_ hst rfl
        exact run_conv rfl (by simp [zx1]) (str_of2 HSX.out (yk.sub (mask_is _ _)))
      · -- 10: t57 := Op.binOp BinOp.eql 9 (t52) (t56) 9
        intro zx1 zx2 zx3 zx4 L V W hL hd hw hst u5 e5 p5 u9 e9 p9 u1 e1 p1
        obtain rfl : u5 = _ := p5
        obtain rfl : u9 = _ := p9
        obtain rfl : u1 = _ := p1
        refine ob_c (by first | rfl | (simp [wantE, dstOf, zx1]; done)) ?_ hst rfl
        go_simp
        all_goals (simp)
      · -- 11: t58 := Op.pick (t48) (t57) (const (bool false))
        intro zx1 zx2 zx3 zx4 L V W hL hd hw hst u1 e1 p1 u10 e10 p10
        obtain rfl : u1 = _ := p1
        obtain rfl : u10 = _ := p10
        refine ob_c (by first | rfl | (simp [wantE, dstOf, zx1]; done)) ?_ hst rfl
        go_simp
        all_goals (skip)
      · -- 12: t6 := Op.assign (t58)
        intro zx1 zx2 zx3 zx4 L V W hL hd hw hst u11 e11 p11
        obtain rfl : u11 = _ := p11
        refine ob_c (by first | rfl | (simp [wantE, dstOf, zx1]; done)) ?_ hst rfl
        go_simp
        all_goals (skip)
    case en =>
      intro V W hst u0 e0 p0 u1 e1 p1 u2 e2 p2 u3 e3 p3 u4 e4 p4 u5 e5 p5 u6 e6 p6 u7 e7 p7 u8 e8 p8 u9 e9 p9 u10 e10 p10 u11 e11 p11 u12 e12 p12
      obtain rfl : u0 = _ := p0
      obtain rfl : u1 = _ := p1
      obtain rfl : u2 = _ := p2
      obtain rfl : u3 = _ := p3
      obtain ⟨xb, xq, rfl, xk⟩ := p4
      obtain rfl : u5 = _ := p5
      obtain rfl : u6 = _ := p6
      obtain rfl : u7 = _ := p7
      obtain ⟨yb, yq, rfl, yk⟩ := p8
      obtain rfl : u9 = _ := p9
      obtain rfl : u10 = _ := p10
      obtain rfl : u11 = _ := p11
      obtain rfl : u12 = _ := p12
      simp only [EndAll, Act.put, List.getElem_toArray, List.getElem_cons_succ, List.getElem_cons_zero, List.setIfInBounds_toArray, List.set_cons_zero, List.set_cons_succ]
      go_wp2_with fail
      go_ret
      exact ⟨rfl, hst.below⟩
end Go.Proofs.Ytfpkibfofainaaa
