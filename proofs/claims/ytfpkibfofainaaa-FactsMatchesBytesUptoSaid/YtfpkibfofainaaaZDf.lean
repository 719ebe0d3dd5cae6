/- The walk over FactsDiffer. -/
import Derived.Test.YtfpkibfofainaaaZLw
set_option linter.unusedVariables false
set_option linter.unusedSimpArgs false
namespace Go.Proofs.Ytfpkibfofainaaa
open Go.RowKit
theorem str_of2 {W : World} {v : Value} {l : List UInt8} {X : ByteArray} (he : (⟨l.toArray⟩ : ByteArray) = X) (h : IsBytes W v l) : (convert 22 9 v).run Try.prog W = .ok (.string X) W :=
  he ▸ run_str (P := Try.prog) W 22 9 5 Try.underlying22 Try.underlying5 Try.underlying9 v _ h
/-- What the encodings of two facts say. -/
theorem differ_plain {f g : Fc} (hf : f.valid = true) (hg : g.valid = true) (ff : f.Fits) (fg : g.Fits) : (decide (f = g) = true → f.enc = g.enc) ∧ (decide (f = g) = false → f.enc ≠ g.enc ∧ g.enc.take f.enc.length ≠ f.enc) := by
  refine ⟨fun h => by rw [of_decide_eq_true h], fun h => ?_⟩
  have hne := of_decide_eq_false h
  have key : g.enc.take f.enc.length ≠ f.enc := fun e => hne (enc_prefix hf hg ff fg (g.enc.drop f.enc.length) (by
    have := List.take_append_drop f.enc.length g.enc
    rw [e] at this
    exact this.symm))
  exact ⟨fun e => key (by rw [e, List.take_length]), key⟩

set_option maxRecDepth 8000 in
set_option maxHeartbeats 4000000 in
theorem differ_walk (w : World) (hm : HasMax w) (f : Fc) (fb : Option Addr) (fc : Nat) (hf : IsVals w (.slice fb f.fields.length fc) f.fields) (hok : f.Ok) (hfl : f.bulk ≤ 1048576) (g : Fc) (gb : Option Addr) (gc : Nat) (hg : IsVals w (.slice gb g.fields.length gc) g.fields) (gok : g.Ok) (hgl : g.bulk ≤ 1048576) :
    Calls Try.prog 11 #[f.val (.slice fb f.fields.length fc), g.val (.slice gb g.fields.length gc)] w fun e w' => e = .returned (.bool true) ∧ Below w.heap.size w w' := by
  obtain ⟨hfit, hI, s1, s2, s3, s4⟩ := fits_of hok hfl
  obtain ⟨gfit, gI, t1, t2, t3, t4⟩ := fits_of gok hgl
  have haf : ∀ w, IsVals w (.slice fb f.fields.length fc) f.fields → Calls Try.prog 15 #[.slice none 0 0, f.val (.slice fb f.fields.length fc)] w fun e w' => ∃ v', e = .returned v' ∧ NewB w.heap.size w' v' f.enc ∧ Below w.heap.size w w' := fun w hv => by
    have := factAppend_any w _ [] f fb fc (IsBytes.none w) hv hI (by simp) s1 s2 s3 (by omega)
    rwa [List.nil_append] at this
  have hag : ∀ w, IsVals w (.slice gb g.fields.length gc) g.fields → Calls Try.prog 15 #[.slice none 0 0, g.val (.slice gb g.fields.length gc)] w fun e w' => ∃ v', e = .returned v' ∧ NewB w.heap.size w' v' g.enc ∧ Below w.heap.size w w' := fun w hv => by
    have := factAppend_any w _ [] g gb gc (IsBytes.none w) hv gI (by simp) t1 t2 t3 (by omega)
    rwa [List.nil_append] at this
  have hvf := fun w hv => validF_any w f fb fc hv
  have hvg := fun w hv => validF_any w g gb gc hv
  have heq := fun hf hg => differ_plain (f := f) (g := g) hf hg hfit gfit
  have hsm := fun w ha hb => same_any w f g fb gb fc gc ha hb
  obtain ⟨X, hX⟩ : ∃ E, f.enc = E := ⟨_, rfl⟩
  obtain ⟨Y, hY⟩ : ∃ E, g.enc = E := ⟨_, rfl⟩
  obtain ⟨vf, hvfd⟩ : ∃ d, f.valid = d := ⟨_, rfl⟩
  obtain ⟨vg, hvgd⟩ : ∃ d, g.valid = d := ⟨_, rfl⟩
  obtain ⟨sv, hsv⟩ : ∃ d, decide (f = g) = d := ⟨_, rfl⟩
  rw [hX, hY, hvfd, hvgd, hsv] at heq
  rw [hX] at haf
  rw [hY] at hag
  rw [hvfd] at hvf
  rw [hvgd] at hvg
  rw [hsv] at hsm
  clear hX hY hvfd hvgd hsv hfit gfit hI gI s1 s2 s3 s4 t1 t2 t3 t4 hok gok hfl hgl
  obtain ⟨fs, fq, fk, fr, ft, fy, fe, fl⟩ := f
  obtain ⟨gs, gq, gk, gr, gt, gy, ge, gl⟩ := g
  simp only [Fc.val, Fc.cellsA] at *
  obtain ⟨fn, hfn⟩ : ∃ n, fl.length = n := ⟨_, rfl⟩
  obtain ⟨gn, hgn⟩ : ∃ n, gl.length = n := ⟨_, rfl⟩
  obtain ⟨nx, hnx⟩ : ∃ n, X.length = n := ⟨_, rfl⟩
  obtain ⟨ny, hny⟩ : ∃ n, Y.length = n := ⟨_, rfl⟩
  obtain ⟨SX, hsx⟩ : ∃ s, (⟨X.toArray⟩ : ByteArray) = s := ⟨_, rfl⟩
  obtain ⟨SY, hsy⟩ : ∃ s, (⟨Y.toArray⟩ : ByteArray) = s := ⟨_, rfl⟩
  rw [hfn] at hf haf hvf hsm ⊢
  rw [hgn] at hg hag hvg hsm ⊢
  have h0 := ((((St.start w).putOld (P := (IsVals · (.slice gb gn gc) gl)) (Mono.seq rdVal_up _ _) hg).putOld (P := (IsVals · (.slice fb fn fc) fl)) (Mono.seq rdVal_up _ _) hf).alloc (.cells #[.string fs, .int .i64 fq, .int .i64 fk, .int .i64 fr, .string ft, .string fy, .int .i64 fe, .slice fb fn fc] 27)).alloc (.cells #[.string gs, .int .i64 gq, .int .i64 gk, .int .i64 gr, .string gt, .string gy, .int .i64 ge, .slice gb gn gc] 27)
  simp only [al_size] at h0
  have HAF := Lib.hid haf
  have HAG := Lib.hid hag
  have HVF := Lib.hid hvf
  have HVG := Lib.hid hvg
  have HEQ0 := Lib.hid heq
  have HSM := Lib.hid hsm
  have HLX := Lib.hid hnx
  have HLY := Lib.hid hny
  have HSX := Lib.hid hsx
  have HSY := Lib.hid hsy
  clear hf hg haf hag hvf hvg heq hsm hnx hny hsx hsy hfn hgn
  go_enter Try.func11, Try.ntmps11
  go_wp2_with fail
  refine (Calls.sV h0 (example_any _ (hm.below h0.below rfl))).mono ?_
  rintro e w1 ⟨rfl, h1⟩
  clear h0
  go_wp2_with (refine wpList_load_row rfl 27 (.tmp 2) rfl w.heap.size rfl 27 _ (0, 0) _ (h1.at_ 1 rfl) Try.underlying27 rfl fact_info ?_)
  refine (Calls.sV h1 (HVF.out _ (h1.is 0 rfl))).mono ?_
  rintro e w2 ⟨rfl, h2⟩
  clear h1
  cases vf with
  | false =>
    go_wp2_with fail
    go_ret
    exact ⟨rfl, h2.below⟩
  | true =>
    obtain ⟨c0, c1, c2, c3, c4, c5, c6, c7⟩ := cells8 (h2.at_ 0 rfl)
    go_wp2_with fail
    refine (Calls.sV h2 (HVG.out _ (h2.is 1 rfl))).mono ?_
    rintro e w3 ⟨rfl, h4⟩
    clear h2 c0 c1 c2 c3 c4 c5 c6 c7
    cases vg with
    | false =>
      go_wp2_with fail
      go_ret
      exact ⟨rfl, h4.below⟩
    | true =>
      have HEQ := Lib.hid (HEQ0.out (by simp) (by simp))
      go_upto_region 4 with fail
      refine wp_region_st [pVal (.agg #[.string fs, .int .i64 fq, .int .i64 fk, .int .i64 fr, .string ft, .string fy, .int .i64 fe, .slice fb fn fc]), pBytes X, pVal (.agg #[.string gs, .int .i64 gq, .int .i64 gk, .int .i64 gr, .string gt, .string gy, .int .i64 ge, .slice gb gn gc]), pBytes Y, pBytes X, pBytes Y] (osC [((w.heap.size + 1), .cells #[.string gs, .int .i64 gq, .int .i64 gk, .int .i64 gr, .string gt, .string gy, .int .i64 ge, .slice gb gn gc] 27 (0, 0)), (w.heap.size, .cells #[.string fs, .int .i64 fq, .int .i64 fk, .int .i64 fr, .string ft, .string fy, .int .i64 fe, .slice fb fn fc] 27 (0, 0))]) 57 [0, 1, 0, 7, 15, 31] [[], [(0, 20)], [], [(2, 22)], [(1, 21)], [(3, 23)]] [(0, 20), (1, 21), (2, 22), (3, 23), (4, 6), (5, 7)] (by kernel_rfl) (by kernel_rfl) rfl rfl h4 osC0 osC1 ?ob ?en
      case ob =>
        refine ⟨?_, ?_, ?_, ?_, ?_, ?_, trivial⟩
        · -- 0: t20 := Op.load 27 (t2)
          intro zx1 zx2 zx3 zx4 L V W hL hd hw hst 
          exact ob_v _ rfl (run_load_own rfl rfl (hst.find (g := w.heap.size) (o := .cells #[.string fs, .int .i64 fq, .int .i64 fk, .int .i64 fr, .string ft, .string fy, .int .i64 fe, .slice fb fn fc] 27 (0, 0)) (by simp [osC])) Try.underlying27 rfl fact_info) hst rfl rfl
        · -- 1: t21 := Op.call { callee := value (func 15), args := #[const (slice none 0 0), t20], argTypes := #[22, 27] }
          intro zx1 zx2 zx3 zx4 L V W hL hd hw hst u0 e0 p0
          obtain rfl : u0 = _ := p0
          refine ob_call rfl ?_ (Calls.pNB hst (HAF.out _ ((hst.base 0 rfl : IsVals _ _ _).sub rdVal_up (mask_is _ _))))
          go_simp
          try rfl
        · -- 2: t22 := Op.load 27 (t3)
          intro zx1 zx2 zx3 zx4 L V W hL hd hw hst 
          exact ob_v _ rfl (run_load_own rfl rfl (hst.find (g := (w.heap.size + 1)) (o := .cells #[.string gs, .int .i64 gq, .int .i64 gk, .int .i64 gr, .string gt, .string gy, .int .i64 ge, .slice gb gn gc] 27 (0, 0)) (by simp [osC])) Try.underlying27 rfl fact_info) hst rfl rfl
        · -- 3: t23 := Op.call { callee := value (func 15), args := #[const (slice none 0 0), t22], argTypes := #[22, 27] }
          intro zx1 zx2 zx3 zx4 L V W hL hd hw hst u2 e2 p2
          obtain rfl : u2 = _ := p2
          refine ob_call rfl ?_ (Calls.pNB hst (HAG.out _ ((hst.base 1 rfl : IsVals _ _ _).sub rdVal_up (mask_is _ _))))
          go_simp
          try rfl
        · -- 4: t6 := Op.assign (t21)
          intro zx1 zx2 zx3 zx4 L V W hL hd hw hst u1 e1 p1
          refine ob_v u1 rfl ?_ hst rfl p1
          go_simp
        · -- 5: t7 := Op.assign (t23)
          intro zx1 zx2 zx3 zx4 L V W hL hd hw hst u3 e3 p3
          refine ob_v u3 rfl ?_ hst rfl p3
          go_simp
      case en =>
        intro V W hst u0 e0 p0 u1 e1 p1 u2 e2 p2 u3 e3 p3 u4 e4 p4 u5 e5 p5
        obtain rfl : u0 = _ := p0
        obtain rfl : u2 = _ := p2
        simp only [EndAll, Act.put, List.getElem_toArray, List.getElem_cons_succ, List.getElem_cons_zero, List.setIfInBounds_toArray, List.set_cons_zero, List.set_cons_succ]
        rw [show osC [((w.heap.size + 1), .cells #[.string gs, .int .i64 gq, .int .i64 gk, .int .i64 gr, .string gt, .string gy, .int .i64 ge, .slice gb gn gc] 27 (0, 0)), (w.heap.size, .cells #[.string fs, .int .i64 fq, .int .i64 fk, .int .i64 fr, .string ft, .string fy, .int .i64 fe, .slice fb fn fc] 27 (0, 0))] (fun _ => true) V = [((w.heap.size + 1), .cells #[.string gs, .int .i64 gq, .int .i64 gk, .int .i64 gr, .string gt, .string gy, .int .i64 ge, .slice gb gn gc] 27 (0, 0)), (w.heap.size, .cells #[.string fs, .int .i64 fq, .int .i64 fk, .int .i64 fr, .string ft, .string fy, .int .i64 fe, .slice fb fn fc] 27 (0, 0))] from rfl] at hst
        obtain ⟨xb, xc, rfl, hx⟩ := p4
        obtain ⟨yb, yc, rfl, hy⟩ := p5
        rw [HLX.out] at hx ⊢
        rw [HLY.out] at hy ⊢
        have h5 := ((hst.facts (fs' := [(IsVals · (.slice fb fn fc) fl), (IsVals · (.slice gb gn gc) gl)]) (fun P hP => by simp only [List.mem_cons, List.not_mem_nil, or_false] at hP ⊢; rcases hP with rfl | rfl <;> simp)).put (Mono.bytes _ _) hy).put (Mono.bytes _ _) hx
        clear hst p1 p3 hx hy e0 e1 e2 e3 e4 e5 h4
        go_wp2_with (first
          | refine wpList_load_row rfl 27 (.tmp 2) rfl w.heap.size rfl 27 _ (0, 0) _ (h5.at_ 1 rfl) Try.underlying27 rfl fact_info ?_
          | refine wpList_load_row rfl 27 (.tmp 3) rfl (w.heap.size + 1) rfl 27 _ (0, 0) _ (h5.at_ 0 rfl) Try.underlying27 rfl fact_info ?_)
        refine (Calls.sV h5 (HSM.out _ (h5.is 2 rfl) (h5.is 3 rfl))).mono ?_
        rintro e w6 ⟨rfl, h6⟩
        clear h5
        replace h6 := h6.facts (fs' := [(IsBytes · (.slice xb nx xc) X), (IsBytes · (.slice yb ny yc) Y)]) (fun P hP => by simp only [List.mem_cons, List.not_mem_nil, or_false] at hP ⊢; rcases hP with rfl | rfl <;> simp)
        cases sv with
        | true =>
          have hXY := HEQ.out.1 rfl
          subst hXY
          have hny : ny = nx := HLY.out.symm.trans HLX.out
          subst hny
          have hle : (ny : Int) ≤ (ny : Int) := by omega
          have heq : (SX.toList == SX.toList) = true := by simp
          have hsy : SY = SX := HSY.out.symm.trans HSX.out
          subst hsy
          have hyl : X.length = ny := HLX.out
          have h8 := h6.put (Mono.bytes _ _) ((h6.get 1 rfl : IsBytes _ _ _).take ny (by omega))
          have hyc : X.length ≤ yc := by
            obtain ⟨_, _, hey, hyc, -, -, -⟩ := (h6.is 1 rfl : IsBytes _ _ _).out
            cases hey
            exact hyc
          rw [hyl] at hyc
          have HSZ : Hid ((⟨(X.take ny).toArray⟩ : ByteArray) = SY) := Lib.hid (by rw [← hyl, List.take_length]; exact HSX.out)
          go_upto_region 6 with fail
          refine wp_region_st [pVal ?c6xa_0, pVal ?c6xa_1, pVal ?c6xa_2, pVal ?c6xa_3, pVal (.bool true), pVal ?c6xa_5, pVal ?c6xa_6, pVal ?c6xa_7, pVal ?c6xa_8, pVal ?c6xa_9, pVal (.string SY), pVal ?c6xa_11, pVal (.string SY), pVal (.bool true), pVal ?c6xa_14, pVal ?c6xa_15] (osC [((w.heap.size + 1), .cells #[.string gs, .int .i64 gq, .int .i64 gk, .int .i64 gr, .string gt, .string gy, .int .i64 ge, .slice gb gn gc] 27 (0, 0)), (w.heap.size, .cells #[.string fs, .int .i64 fq, .int .i64 fk, .int .i64 fr, .string ft, .string fy, .int .i64 fe, .slice fb fn fc] 27 (0, 0))]) 57 [0, 1, 0, 4, 15, 31, 63, 63, 191, 511, 1023, 63, 2111, 8191, 16383, 32767] [[], [(0, 27)], [], [(2, 29)], [(3, 30), (1, 28)], [(4, 31)], [(5, 32)], [(5, 32)], [(5, 32), (7, 34)], [(5, 32), (8, 35), (6, 33)], [(5, 32), (9, 36)], [(5, 32)], [(5, 32), (11, 38)], [(5, 32), (12, 39), (10, 37)], [(13, 40), (5, 32)], [(14, 41)]] [(0, 27), (1, 28), (2, 29), (3, 30), (4, 31), (5, 32), (6, 33), (7, 34), (8, 35), (9, 36), (10, 37), (11, 38), (12, 39), (13, 40), (14, 41), (15, 9)] (by kernel_rfl) (by kernel_rfl) rfl rfl h8 osC0 osC1 ?ob ?en
          case ob =>
            refine ⟨?_, ?_, ?_, ?_, ?_, ?_, ?_, ?_, ?_, ?_, ?_, ?_, ?_, ?_, ?_, ?_, trivial⟩
            · -- 0: t27 := Op.move (t6)
              intro zx1 zx2 zx3 zx4 L V W hL hd hw hst 
              refine ob_c rfl ?_ hst rfl
              go_simp
              try with_reducible rfl
            · -- 1: t28 := Op.call { callee := builtin Builtin.len, args := #[t27], argTypes := #[22] }
              intro zx1 zx2 zx3 zx4 L V W hL hd hw hst u0 e0 p0
              obtain rfl : u0 = _ := p0
              refine ob_c rfl ?_ hst rfl
              go_simp
              try with_reducible rfl
            · -- 2: t29 := Op.move (t7)
              intro zx1 zx2 zx3 zx4 L V W hL hd hw hst 
              refine ob_c rfl ?_ hst rfl
              go_simp
              try with_reducible rfl
            · -- 3: t30 := Op.call { callee := builtin Builtin.len, args := #[t29], argTypes := #[22] }
              intro zx1 zx2 zx3 zx4 L V W hL hd hw hst u2 e2 p2
              obtain rfl : u2 = _ := p2
              refine ob_c rfl ?_ hst rfl
              go_simp
              try with_reducible rfl
            · -- 4: t31 := Op.binOp BinOp.leq 3 (t28) (t30) 3
              intro zx1 zx2 zx3 zx4 L V W hL hd hw hst u1 e1 p1 u3 e3 p3
              obtain rfl : u1 = _ := p1
              obtain rfl : u3 = _ := p3
              refine ob_c rfl ?_ hst rfl
              go_simp
              try simp [hle]
            · -- 5: t32 := Op.move (t31)
              intro zx1 zx2 zx3 zx4 L V W hL hd hw hst u4 e4 p4
              obtain rfl : u4 = _ := p4
              refine ob_c rfl ?_ hst rfl
              go_simp
              try with_reducible rfl
            · -- 6: t33 := Op.move (t7)
              intro zx1 zx2 zx3 zx4 L V W hL hd hw hst u5 e5 p5
              obtain rfl : u5 = _ := p5
              refine ob_c (by first | rfl | (simp [wantE, dstOf, zx1]; done)) ?_ hst rfl
              go_simp
              try with_reducible rfl
            · -- 7: t34 := Op.move (t6)
              intro zx1 zx2 zx3 zx4 L V W hL hd hw hst u5 e5 p5
              obtain rfl : u5 = _ := p5
              refine ob_c (by first | rfl | (simp [wantE, dstOf, zx1]; done)) ?_ hst rfl
              go_simp
              try with_reducible rfl
            · -- 8: t35 := Op.call { callee := builtin Builtin.len, args := #[t34], argTypes := #[22] }
              intro zx1 zx2 zx3 zx4 L V W hL hd hw hst u7 e7 p7 u5 e5 p5
              obtain rfl : u7 = _ := p7
              obtain rfl : u5 = _ := p5
              refine ob_c (by first | rfl | (simp [wantE, dstOf, zx1]; done)) ?_ hst rfl
              go_simp
              try with_reducible rfl
            · -- 9: t36 := Op.slice 22 (t33) none (some (t35)) none
              intro zx1 zx2 zx3 zx4 L V W hL hd hw hst u6 e6 p6 u8 e8 p8 u5 e5 p5
              obtain rfl : u6 = _ := p6
              obtain rfl : u8 = _ := p8
              obtain rfl : u5 = _ := p5
              refine ob_c (by first | rfl | (simp [wantE, dstOf, zx1]; done)) ?_ hst rfl
              go_simp
              try with_reducible rfl
            · -- 10: t37 := Op.convert 22 9 (t36)
              intro zx1 zx2 zx3 zx4 L V W hL hd hw hst u9 e9 p9 u5 e5 p5
              obtain rfl : u9 = _ := p9
              obtain rfl : u5 = _ := p5
              refine ob_c (by first | rfl | (simp [wantE, dstOf, zx1]; done)) ?_ hst rfl
              exact run_conv rfl (by simp [zx1]) (str_of2 HSZ.out ((hst.base 0 rfl : IsBytes _ _ _).sub (mask_is _ _)))
            · -- 11: t38 := Op.move (t6)
              intro zx1 zx2 zx3 zx4 L V W hL hd hw hst u5 e5 p5
              obtain rfl : u5 = _ := p5
              refine ob_c (by first | rfl | (simp [wantE, dstOf, zx1]; done)) ?_ hst rfl
              go_simp
              try with_reducible rfl
            · -- 12: t39 := Op.convert 22 9 (t38)
              intro zx1 zx2 zx3 zx4 L V W hL hd hw hst u11 e11 p11 u5 e5 p5
              obtain rfl : u11 = _ := p11
              obtain rfl : u5 = _ := p5
              refine ob_c (by first | rfl | (simp [wantE, dstOf, zx1]; done)) ?_ hst rfl
              exact run_conv rfl (by simp [zx1]) (str_of2 HSX.out ((hst.base 1 rfl : IsBytes _ _ _).sub (mask_is _ _)))
            · -- 13: t40 := Op.binOp BinOp.eql 9 (t37) (t39) 9
              intro zx1 zx2 zx3 zx4 L V W hL hd hw hst u10 e10 p10 u12 e12 p12 u5 e5 p5
              obtain rfl : u10 = _ := p10
              obtain rfl : u12 = _ := p12
              obtain rfl : u5 = _ := p5
              refine ob_c (by first | rfl | (simp [wantE, dstOf, zx1]; done)) ?_ hst rfl
              go_simp
              try simp [heq]
            · -- 14: t41 := Op.pick (t32) (t40) (const (bool false))
              intro zx1 zx2 zx3 zx4 L V W hL hd hw hst u5 e5 p5 u13 e13 p13
              obtain rfl : u5 = _ := p5
              obtain rfl : u13 = _ := p13
              refine ob_c rfl ?_ hst rfl
              go_simp
              try with_reducible rfl
            · -- 15: t9 := Op.assign (t41)
              intro zx1 zx2 zx3 zx4 L V W hL hd hw hst u14 e14 p14
              obtain rfl : u14 = _ := p14
              refine ob_c rfl ?_ hst rfl
              go_simp
              try with_reducible rfl
          case en =>
            intro V W hst u0 e0 p0 u1 e1 p1 u2 e2 p2 u3 e3 p3 u4 e4 p4 u5 e5 p5 u6 e6 p6 u7 e7 p7 u8 e8 p8 u9 e9 p9 u10 e10 p10 u11 e11 p11 u12 e12 p12 u13 e13 p13 u14 e14 p14 u15 e15 p15
            obtain rfl : u0 = _ := p0
            obtain rfl : u1 = _ := p1
            obtain rfl : u2 = _ := p2
            obtain rfl : u3 = _ := p3
            obtain rfl : u4 = _ := p4
            obtain rfl : u5 = _ := p5
            obtain rfl : u6 = _ := p6
            obtain rfl : u7 = _ := p7
            obtain rfl : u8 = _ := p8
            obtain rfl : u9 = _ := p9
            obtain rfl : u10 = _ := p10
            obtain rfl : u11 = _ := p11
            obtain rfl : u12 = _ := p12
            obtain rfl : u13 = _ := p13
            obtain rfl : u14 = _ := p14
            obtain rfl : u15 = _ := p15
            simp only [EndAll, Act.put, List.getElem_toArray, List.getElem_cons_succ, List.getElem_cons_zero, List.setIfInBounds_toArray, List.set_cons_zero, List.set_cons_succ]
            rw [show osC [((w.heap.size + 1), .cells #[.string gs, .int .i64 gq, .int .i64 gk, .int .i64 gr, .string gt, .string gy, .int .i64 ge, .slice gb gn gc] 27 (0, 0)), (w.heap.size, .cells #[.string fs, .int .i64 fq, .int .i64 fk, .int .i64 fr, .string ft, .string fy, .int .i64 fe, .slice fb fn fc] 27 (0, 0))] (fun _ => true) V = [((w.heap.size + 1), .cells #[.string gs, .int .i64 gq, .int .i64 gk, .int .i64 gr, .string gt, .string gy, .int .i64 ge, .slice gb gn gc] 27 (0, 0)), (w.heap.size, .cells #[.string fs, .int .i64 fq, .int .i64 fk, .int .i64 fr, .string ft, .string fy, .int .i64 fe, .slice fb fn fc] 27 (0, 0))] from rfl] at hst
            have h9 := hst.facts (fs' := [(IsBytes · (.slice xb ny xc) X), (IsBytes · (.slice yb ny yc) X)]) (fun P hP => by simp only [List.mem_cons, List.not_mem_nil, or_false] at hP ⊢; rcases hP with rfl | rfl <;> simp)
            clear hst e0 e1 e2 e3 e4 e5 e6 e7 e8 e9 e10 e11 e12 e13 e14 e15
            have c1 := str_of2 HSX.out (h9.is 0 rfl : IsBytes _ _ _)
            have c2 := str_of2 HSY.out (h9.is 1 rfl : IsBytes _ _ _)
            go_wp2_with fail
            go_ret
            exact ⟨rfl, h9.below⟩
        | false =>
          have hXY := HEQ.out.2 rfl
          have hsxy : (SX.toList == SY.toList) = false := by
            have h1 := HSX.out
            have h2 := HSY.out
            refine seq_of (fun e => hXY.1 ?_)
            rw [← h1, ← h2] at e
            simpa using e
          have hyl : Y.length = ny := HLY.out
          have hxl : X.length = nx := HLX.out
          have hyc : Y.length ≤ yc := by
            obtain ⟨_, _, hey, hyc, -, -, -⟩ := (h6.is 1 rfl : IsBytes _ _ _).out
            cases hey
            exact hyc
          rw [hyl] at hyc
          by_cases hle' : nx ≤ ny
          · obtain ⟨SZ, hsz⟩ : ∃ s, (⟨(Y.take nx).toArray⟩ : ByteArray) = s := ⟨_, rfl⟩
            have heq : (SZ.toList == SX.toList) = false := by
              have h1 := HSX.out
              refine seq_of (fun e => hXY.2 ?_)
              rw [← hsz, ← h1] at e
              have e' : Y.take nx = X := by simpa using e
              rw [← hxl] at e'
              exact e'
            have HSZ := Lib.hid hsz
            have hle : (nx : Int) ≤ (ny : Int) := by omega
            have r1 : nx ≤ yc := by omega
            have h8 := h6.put (Mono.bytes _ _) ((h6.get 1 rfl : IsBytes _ _ _).take nx (by omega))
            clear hsz
            go_upto_region 6 with fail
            refine wp_region_st [pVal ?c6xb_0, pVal ?c6xb_1, pVal ?c6xb_2, pVal ?c6xb_3, pVal (.bool true), pVal ?c6xb_5, pVal ?c6xb_6, pVal ?c6xb_7, pVal ?c6xb_8, pVal ?c6xb_9, pVal (.string SZ), pVal ?c6xb_11, pVal (.string SX), pVal (.bool false), pVal ?c6xb_14, pVal ?c6xb_15] (osC [((w.heap.size + 1), .cells #[.string gs, .int .i64 gq, .int .i64 gk, .int .i64 gr, .string gt, .string gy, .int .i64 ge, .slice gb gn gc] 27 (0, 0)), (w.heap.size, .cells #[.string fs, .int .i64 fq, .int .i64 fk, .int .i64 fr, .string ft, .string fy, .int .i64 fe, .slice fb fn fc] 27 (0, 0))]) 57 [0, 1, 0, 4, 15, 31, 63, 63, 191, 511, 1023, 63, 2111, 8191, 16383, 32767] [[], [(0, 27)], [], [(2, 29)], [(3, 30), (1, 28)], [(4, 31)], [(5, 32)], [(5, 32)], [(5, 32), (7, 34)], [(5, 32), (8, 35), (6, 33)], [(5, 32), (9, 36)], [(5, 32)], [(5, 32), (11, 38)], [(5, 32), (12, 39), (10, 37)], [(13, 40), (5, 32)], [(14, 41)]] [(0, 27), (1, 28), (2, 29), (3, 30), (4, 31), (5, 32), (6, 33), (7, 34), (8, 35), (9, 36), (10, 37), (11, 38), (12, 39), (13, 40), (14, 41), (15, 9)] (by kernel_rfl) (by kernel_rfl) rfl rfl h8 osC0 osC1 ?ob ?en
            case ob =>
              refine ⟨?_, ?_, ?_, ?_, ?_, ?_, ?_, ?_, ?_, ?_, ?_, ?_, ?_, ?_, ?_, ?_, trivial⟩
              · -- 0: t27 := Op.move (t6)
                intro zx1 zx2 zx3 zx4 L V W hL hd hw hst 
                refine ob_c rfl ?_ hst rfl
                go_simp
                try with_reducible rfl
              · -- 1: t28 := Op.call { callee := builtin Builtin.len, args := #[t27], argTypes := #[22] }
                intro zx1 zx2 zx3 zx4 L V W hL hd hw hst u0 e0 p0
                obtain rfl : u0 = _ := p0
                refine ob_c rfl ?_ hst rfl
                go_simp
                try with_reducible rfl
              · -- 2: t29 := Op.move (t7)
                intro zx1 zx2 zx3 zx4 L V W hL hd hw hst 
                refine ob_c rfl ?_ hst rfl
                go_simp
                try with_reducible rfl
              · -- 3: t30 := Op.call { callee := builtin Builtin.len, args := #[t29], argTypes := #[22] }
                intro zx1 zx2 zx3 zx4 L V W hL hd hw hst u2 e2 p2
                obtain rfl : u2 = _ := p2
                refine ob_c rfl ?_ hst rfl
                go_simp
                try with_reducible rfl
              · -- 4: t31 := Op.binOp BinOp.leq 3 (t28) (t30) 3
                intro zx1 zx2 zx3 zx4 L V W hL hd hw hst u1 e1 p1 u3 e3 p3
                obtain rfl : u1 = _ := p1
                obtain rfl : u3 = _ := p3
                refine ob_c rfl ?_ hst rfl
                go_simp
                try simp [hle]
              · -- 5: t32 := Op.move (t31)
                intro zx1 zx2 zx3 zx4 L V W hL hd hw hst u4 e4 p4
                obtain rfl : u4 = _ := p4
                refine ob_c rfl ?_ hst rfl
                go_simp
                try with_reducible rfl
              · -- 6: t33 := Op.move (t7)
                intro zx1 zx2 zx3 zx4 L V W hL hd hw hst u5 e5 p5
                obtain rfl : u5 = _ := p5
                refine ob_c (by first | rfl | (simp [wantE, dstOf, zx1]; done)) ?_ hst rfl
                go_simp
                try with_reducible rfl
              · -- 7: t34 := Op.move (t6)
                intro zx1 zx2 zx3 zx4 L V W hL hd hw hst u5 e5 p5
                obtain rfl : u5 = _ := p5
                refine ob_c (by first | rfl | (simp [wantE, dstOf, zx1]; done)) ?_ hst rfl
                go_simp
                try with_reducible rfl
              · -- 8: t35 := Op.call { callee := builtin Builtin.len, args := #[t34], argTypes := #[22] }
                intro zx1 zx2 zx3 zx4 L V W hL hd hw hst u7 e7 p7 u5 e5 p5
                obtain rfl : u7 = _ := p7
                obtain rfl : u5 = _ := p5
                refine ob_c (by first | rfl | (simp [wantE, dstOf, zx1]; done)) ?_ hst rfl
                go_simp
                try with_reducible rfl
              · -- 9: t36 := Op.slice 22 (t33) none (some (t35)) none
                intro zx1 zx2 zx3 zx4 L V W hL hd hw hst u6 e6 p6 u8 e8 p8 u5 e5 p5
                obtain rfl : u6 = _ := p6
                obtain rfl : u8 = _ := p8
                obtain rfl : u5 = _ := p5
                refine ob_c (by first | rfl | (simp [wantE, dstOf, zx1]; done)) ?_ hst rfl
                go_simp
                try with_reducible rfl
              · -- 10: t37 := Op.convert 22 9 (t36)
                intro zx1 zx2 zx3 zx4 L V W hL hd hw hst u9 e9 p9 u5 e5 p5
                obtain rfl : u9 = _ := p9
                obtain rfl : u5 = _ := p5
                refine ob_c (by first | rfl | (simp [wantE, dstOf, zx1]; done)) ?_ hst rfl
                exact run_conv rfl (by simp [zx1]) (str_of2 HSZ.out ((hst.base 0 rfl : IsBytes _ _ _).sub (mask_is _ _)))
              · -- 11: t38 := Op.move (t6)
                intro zx1 zx2 zx3 zx4 L V W hL hd hw hst u5 e5 p5
                obtain rfl : u5 = _ := p5
                refine ob_c (by first | rfl | (simp [wantE, dstOf, zx1]; done)) ?_ hst rfl
                go_simp
                try with_reducible rfl
              · -- 12: t39 := Op.convert 22 9 (t38)
                intro zx1 zx2 zx3 zx4 L V W hL hd hw hst u11 e11 p11 u5 e5 p5
                obtain rfl : u11 = _ := p11
                obtain rfl : u5 = _ := p5
                refine ob_c (by first | rfl | (simp [wantE, dstOf, zx1]; done)) ?_ hst rfl
                exact run_conv rfl (by simp [zx1]) (str_of2 HSX.out ((hst.base 1 rfl : IsBytes _ _ _).sub (mask_is _ _)))
              · -- 13: t40 := Op.binOp BinOp.eql 9 (t37) (t39) 9
                intro zx1 zx2 zx3 zx4 L V W hL hd hw hst u10 e10 p10 u12 e12 p12 u5 e5 p5
                obtain rfl : u10 = _ := p10
                obtain rfl : u12 = _ := p12
                obtain rfl : u5 = _ := p5
                refine ob_c (by first | rfl | (simp [wantE, dstOf, zx1]; done)) ?_ hst rfl
                go_simp
                try simp [heq]
              · -- 14: t41 := Op.pick (t32) (t40) (const (bool false))
                intro zx1 zx2 zx3 zx4 L V W hL hd hw hst u5 e5 p5 u13 e13 p13
                obtain rfl : u5 = _ := p5
                obtain rfl : u13 = _ := p13
                refine ob_c rfl ?_ hst rfl
                go_simp
                try with_reducible rfl
              · -- 15: t9 := Op.assign (t41)
                intro zx1 zx2 zx3 zx4 L V W hL hd hw hst u14 e14 p14
                obtain rfl : u14 = _ := p14
                refine ob_c rfl ?_ hst rfl
                go_simp
                try with_reducible rfl
            case en =>
              intro V W hst u0 e0 p0 u1 e1 p1 u2 e2 p2 u3 e3 p3 u4 e4 p4 u5 e5 p5 u6 e6 p6 u7 e7 p7 u8 e8 p8 u9 e9 p9 u10 e10 p10 u11 e11 p11 u12 e12 p12 u13 e13 p13 u14 e14 p14 u15 e15 p15
              obtain rfl : u0 = _ := p0
              obtain rfl : u1 = _ := p1
              obtain rfl : u2 = _ := p2
              obtain rfl : u3 = _ := p3
              obtain rfl : u4 = _ := p4
              obtain rfl : u5 = _ := p5
              obtain rfl : u6 = _ := p6
              obtain rfl : u7 = _ := p7
              obtain rfl : u8 = _ := p8
              obtain rfl : u9 = _ := p9
              obtain rfl : u10 = _ := p10
              obtain rfl : u11 = _ := p11
              obtain rfl : u12 = _ := p12
              obtain rfl : u13 = _ := p13
              obtain rfl : u14 = _ := p14
              obtain rfl : u15 = _ := p15
              simp only [EndAll, Act.put, List.getElem_toArray, List.getElem_cons_succ, List.getElem_cons_zero, List.setIfInBounds_toArray, List.set_cons_zero, List.set_cons_succ]
              rw [show osC [((w.heap.size + 1), .cells #[.string gs, .int .i64 gq, .int .i64 gk, .int .i64 gr, .string gt, .string gy, .int .i64 ge, .slice gb gn gc] 27 (0, 0)), (w.heap.size, .cells #[.string fs, .int .i64 fq, .int .i64 fk, .int .i64 fr, .string ft, .string fy, .int .i64 fe, .slice fb fn fc] 27 (0, 0))] (fun _ => true) V = [((w.heap.size + 1), .cells #[.string gs, .int .i64 gq, .int .i64 gk, .int .i64 gr, .string gt, .string gy, .int .i64 ge, .slice gb gn gc] 27 (0, 0)), (w.heap.size, .cells #[.string fs, .int .i64 fq, .int .i64 fk, .int .i64 fr, .string ft, .string fy, .int .i64 fe, .slice fb fn fc] 27 (0, 0))] from rfl] at hst
              have h9 := hst.facts (fs' := [(IsBytes · (.slice xb nx xc) X), (IsBytes · (.slice yb ny yc) Y)]) (fun P hP => by simp only [List.mem_cons, List.not_mem_nil, or_false] at hP ⊢; rcases hP with rfl | rfl <;> simp)
              clear hst e0 e1 e2 e3 e4 e5 e6 e7 e8 e9 e10 e11 e12 e13 e14 e15
              have c1 := str_of2 HSX.out (h9.is 0 rfl : IsBytes _ _ _)
              have c2 := str_of2 HSY.out (h9.is 1 rfl : IsBytes _ _ _)
              go_wp2_with fail
              go_ret
              exact ⟨rfl, h9.below⟩
          · have hle : ¬ (nx : Int) ≤ (ny : Int) := by omega
            have h8 := h6
            go_upto_region 6 with fail
            refine wp_region_st [pVal ?c6xc_0, pVal ?c6xc_1, pVal ?c6xc_2, pVal ?c6xc_3, pVal (.bool false), pVal ?c6xc_5, pVal ?c6xc_6, pVal ?c6xc_7, pVal ?c6xc_8, pVal ?c6xc_9, pVal ?c6xc_10, pVal ?c6xc_11, pVal ?c6xc_12, pVal ?c6xc_13, pVal ?c6xc_14, pVal ?c6xc_15] (osC [((w.heap.size + 1), .cells #[.string gs, .int .i64 gq, .int .i64 gk, .int .i64 gr, .string gt, .string gy, .int .i64 ge, .slice gb gn gc] 27 (0, 0)), (w.heap.size, .cells #[.string fs, .int .i64 fq, .int .i64 fk, .int .i64 fr, .string ft, .string fy, .int .i64 fe, .slice fb fn fc] 27 (0, 0))]) 57 [0, 1, 0, 4, 15, 31, 63, 63, 191, 511, 1023, 63, 2111, 8191, 16383, 32767] [[], [(0, 27)], [], [(2, 29)], [(3, 30), (1, 28)], [(4, 31)], [(5, 32)], [(5, 32)], [(5, 32), (7, 34)], [(5, 32), (8, 35), (6, 33)], [(5, 32), (9, 36)], [(5, 32)], [(5, 32), (11, 38)], [(5, 32), (12, 39), (10, 37)], [(13, 40), (5, 32)], [(14, 41)]] [(0, 27), (1, 28), (2, 29), (3, 30), (4, 31), (5, 32), (6, 33), (7, 34), (8, 35), (9, 36), (10, 37), (11, 38), (12, 39), (13, 40), (14, 41), (15, 9)] (by kernel_rfl) (by kernel_rfl) rfl rfl h8 osC0 osC1 ?ob ?en
            case ob =>
              refine ⟨?_, ?_, ?_, ?_, ?_, ?_, ?_, ?_, ?_, ?_, ?_, ?_, ?_, ?_, ?_, ?_, trivial⟩
              · -- 0: t27 := Op.move (t6)
                intro zx1 zx2 zx3 zx4 L V W hL hd hw hst 
                refine ob_c rfl ?_ hst rfl
                go_simp
                try with_reducible rfl
              · -- 1: t28 := Op.call { callee := builtin Builtin.len, args := #[t27], argTypes := #[22] }
                intro zx1 zx2 zx3 zx4 L V W hL hd hw hst u0 e0 p0
                obtain rfl : u0 = _ := p0
                refine ob_c rfl ?_ hst rfl
                go_simp
                try with_reducible rfl
              · -- 2: t29 := Op.move (t7)
                intro zx1 zx2 zx3 zx4 L V W hL hd hw hst 
                refine ob_c rfl ?_ hst rfl
                go_simp
                try with_reducible rfl
              · -- 3: t30 := Op.call { callee := builtin Builtin.len, args := #[t29], argTypes := #[22] }
                intro zx1 zx2 zx3 zx4 L V W hL hd hw hst u2 e2 p2
                obtain rfl : u2 = _ := p2
                refine ob_c rfl ?_ hst rfl
                go_simp
                try with_reducible rfl
              · -- 4: t31 := Op.binOp BinOp.leq 3 (t28) (t30) 3
                intro zx1 zx2 zx3 zx4 L V W hL hd hw hst u1 e1 p1 u3 e3 p3
                obtain rfl : u1 = _ := p1
                obtain rfl : u3 = _ := p3
                refine ob_c rfl ?_ hst rfl
                go_simp
                try simp [hle]
              · -- 5: t32 := Op.move (t31)
                intro zx1 zx2 zx3 zx4 L V W hL hd hw hst u4 e4 p4
                obtain rfl : u4 = _ := p4
                refine ob_c rfl ?_ hst rfl
                go_simp
                try with_reducible rfl
              · -- 6: t33 := Op.move (t7)
                intro zx1 zx2 zx3 zx4 L V W hL hd hw hst u5 e5 p5
                obtain rfl : u5 = _ := p5
                refine ob_o ?_ hst ?_
                · first | rfl | (simp [wantE, dstOf, zx1]; done)
                · rfl
              · -- 7: t34 := Op.move (t6)
                intro zx1 zx2 zx3 zx4 L V W hL hd hw hst u5 e5 p5
                obtain rfl : u5 = _ := p5
                refine ob_o ?_ hst ?_
                · first | rfl | (simp [wantE, dstOf, zx1]; done)
                · rfl
              · -- 8: t35 := Op.call { callee := builtin Builtin.len, args := #[t34], argTypes := #[22] }
                intro zx1 zx2 zx3 zx4 L V W hL hd hw hst u7 e7 p7 u5 e5 p5
                obtain rfl : u7 = _ := p7
                obtain rfl : u5 = _ := p5
                refine ob_o ?_ hst ?_
                · first | rfl | (simp [wantE, dstOf, zx1]; done)
                · rfl
              · -- 9: t36 := Op.slice 22 (t33) none (some (t35)) none
                intro zx1 zx2 zx3 zx4 L V W hL hd hw hst u6 e6 p6 u8 e8 p8 u5 e5 p5
                obtain rfl : u6 = _ := p6
                obtain rfl : u8 = _ := p8
                obtain rfl : u5 = _ := p5
                refine ob_o ?_ hst ?_
                · first | rfl | (simp [wantE, dstOf, zx1]; done)
                · rfl
              · -- 10: t37 := Op.convert 22 9 (t36)
                intro zx1 zx2 zx3 zx4 L V W hL hd hw hst u9 e9 p9 u5 e5 p5
                obtain rfl : u9 = _ := p9
                obtain rfl : u5 = _ := p5
                refine ob_o ?_ hst ?_
                · first | rfl | (simp [wantE, dstOf, zx1]; done)
                · rfl
              · -- 11: t38 := Op.move (t6)
                intro zx1 zx2 zx3 zx4 L V W hL hd hw hst u5 e5 p5
                obtain rfl : u5 = _ := p5
                refine ob_o ?_ hst ?_
                · first | rfl | (simp [wantE, dstOf, zx1]; done)
                · rfl
              · -- 12: t39 := Op.convert 22 9 (t38)
                intro zx1 zx2 zx3 zx4 L V W hL hd hw hst u11 e11 p11 u5 e5 p5
                obtain rfl : u11 = _ := p11
                obtain rfl : u5 = _ := p5
                refine ob_o ?_ hst ?_
                · first | rfl | (simp [wantE, dstOf, zx1]; done)
                · rfl
              · -- 13: t40 := Op.binOp BinOp.eql 9 (t37) (t39) 9
                intro zx1 zx2 zx3 zx4 L V W hL hd hw hst u10 e10 p10 u12 e12 p12 u5 e5 p5
                obtain rfl : u10 = _ := p10
                obtain rfl : u12 = _ := p12
                obtain rfl : u5 = _ := p5
                refine ob_o ?_ hst ?_
                · first | rfl | (simp [wantE, dstOf, zx1]; done)
                · rfl
              · -- 14: t41 := Op.pick (t32) (t40) (const (bool false))
                intro zx1 zx2 zx3 zx4 L V W hL hd hw hst u5 e5 p5 u13 e13 p13
                obtain rfl : u5 = _ := p5
                obtain rfl : u13 = _ := p13
                refine ob_c rfl ?_ hst rfl
                go_simp
                try with_reducible rfl
              · -- 15: t9 := Op.assign (t41)
                intro zx1 zx2 zx3 zx4 L V W hL hd hw hst u14 e14 p14
                obtain rfl : u14 = _ := p14
                refine ob_c rfl ?_ hst rfl
                go_simp
                try with_reducible rfl
            case en =>
              intro V W hst u0 e0 p0 u1 e1 p1 u2 e2 p2 u3 e3 p3 u4 e4 p4 u5 e5 p5 u6 e6 p6 u7 e7 p7 u8 e8 p8 u9 e9 p9 u10 e10 p10 u11 e11 p11 u12 e12 p12 u13 e13 p13 u14 e14 p14 u15 e15 p15
              obtain rfl : u0 = _ := p0
              obtain rfl : u1 = _ := p1
              obtain rfl : u2 = _ := p2
              obtain rfl : u3 = _ := p3
              obtain rfl : u4 = _ := p4
              obtain rfl : u5 = _ := p5
              obtain rfl : u6 = _ := p6
              obtain rfl : u7 = _ := p7
              obtain rfl : u8 = _ := p8
              obtain rfl : u9 = _ := p9
              obtain rfl : u10 = _ := p10
              obtain rfl : u11 = _ := p11
              obtain rfl : u12 = _ := p12
              obtain rfl : u13 = _ := p13
              obtain rfl : u14 = _ := p14
              obtain rfl : u15 = _ := p15
              simp only [EndAll, Act.put, List.getElem_toArray, List.getElem_cons_succ, List.getElem_cons_zero, List.setIfInBounds_toArray, List.set_cons_zero, List.set_cons_succ]
              rw [show osC [((w.heap.size + 1), .cells #[.string gs, .int .i64 gq, .int .i64 gk, .int .i64 gr, .string gt, .string gy, .int .i64 ge, .slice gb gn gc] 27 (0, 0)), (w.heap.size, .cells #[.string fs, .int .i64 fq, .int .i64 fk, .int .i64 fr, .string ft, .string fy, .int .i64 fe, .slice fb fn fc] 27 (0, 0))] (fun _ => true) V = [((w.heap.size + 1), .cells #[.string gs, .int .i64 gq, .int .i64 gk, .int .i64 gr, .string gt, .string gy, .int .i64 ge, .slice gb gn gc] 27 (0, 0)), (w.heap.size, .cells #[.string fs, .int .i64 fq, .int .i64 fk, .int .i64 fr, .string ft, .string fy, .int .i64 fe, .slice fb fn fc] 27 (0, 0))] from rfl] at hst
              have h9 := hst.facts (fs' := [(IsBytes · (.slice xb nx xc) X), (IsBytes · (.slice yb ny yc) Y)]) (fun P hP => by simp only [List.mem_cons, List.not_mem_nil, or_false] at hP ⊢; rcases hP with rfl | rfl <;> simp)
              clear hst e0 e1 e2 e3 e4 e5 e6 e7 e8 e9 e10 e11 e12 e13 e14 e15
              have c1 := str_of2 HSX.out (h9.is 0 rfl : IsBytes _ _ _)
              have c2 := str_of2 HSY.out (h9.is 1 rfl : IsBytes _ _ _)
              go_wp2_with fail
              go_ret
              exact ⟨rfl, h9.below⟩
end Go.Proofs.Ytfpkibfofainaaa
