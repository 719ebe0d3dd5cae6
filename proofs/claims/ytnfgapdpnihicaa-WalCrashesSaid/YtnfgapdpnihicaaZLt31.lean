/- The walk over WalRetries. -/
import Derived.Test.YtnfgapdpnihicaaZLb31
import Derived.Test.YtnfgapdpnihicaaZOp31
set_option linter.unusedVariables false
set_option linter.unusedSimpArgs false
namespace Go.Proofs.Ytnfgapdpnihicaa
open Go Go.RowKit

theorem fail_p {w0 W : World} {os : List (Nat × Obj)} {fs : List (World → Prop)} (h : St w0 W os fs) {v : Value} {d D : Dk} {l t x : Int} (hc : d.fail l t = (D, x)) (hv : IsDk (sm os W) v d) :
    Calls Try.prog 29 #[v, .int .i64 l, .int .i64 t] W fun e w' => ∃ v, e = .returned v ∧ St w0 w' os ((pDkT D x).p v :: fs) :=
  (fail_s h hc hv).mono fun e w' ⟨bs, q, he, hs⟩ => ⟨_, he, hs.head (pDkT D x) _ fun hx => ⟨bs, q, rfl, hx⟩⟩
theorem run_cv_op {P : Program} {ρ : Operand → Value} {o : Oper} {W : World} {src dst : TypeId} {x : Operand} {v u : Value} (ho : o.op = .convert src dst x) (hx : ρ x = v) (h : (convert src dst v).run P W = .ok u W) : (execOp ρ o).run P W = .ok (.value u) W := by
  unfold execOp
  simp only [ho, hx, Sem.run_bind, h, Result.andThen_ok, Sem.run_pure]
theorem prs_at {w : World} {b : Option Addr} {n q : Nat} {l : List (UInt8 × UInt8)} (h : IsPrs w (.slice b n q) l) (i : Nat) (hi : i < l.length) : ∃ g o, b = some ⟨g, o, none⟩ ∧ w.cell? ⟨g, o + i * 2, none⟩ = some (u8v (l[i]).1) ∧ w.cell? ⟨g, o + i * 2 + 1, none⟩ = some (u8v (l[i]).2) := by
  obtain ⟨g, o, cs, h1, h2, h3, h4⟩ := IsSeq.at_ h (by omega) i hi
  unfold rdPr at h4
  subst h4
  have e0 := h3 0 (by omega)
  have e1 := h3 1 (by omega)
  exact ⟨g, o, h1, by simpa using e0, by simpa [Nat.add_assoc] using e1⟩

set_option maxRecDepth 8000 in
set_option maxHeartbeats 8000000 in
theorem retries_walk (w : World) (v : Value) (l : List (List UInt8)) (hv : IsLists w v l) (hsz : ∀ r ∈ l, r.length ≤ 140737488351232) (pl : List (UInt8 × UInt8)) (pb : Option Addr) (pq : Nat) (hp : IsPrs w (.slice pb pl.length pq) pl) :
    Calls Try.prog 7 #[v, .slice pb pl.length pq] w fun e w' => e = .returned (.bool true) ∧ Below w.heap.size w w' := by
  obtain ⟨lb, lq, rfl, hq1, hq2, -, -⟩ := id hv.out
  unfold maxLen at hq2
  obtain ⟨N, hN⟩ : ∃ N, l.length = N := ⟨_, rfl⟩
  rw [hN] at hv hq1 ⊢
  obtain ⟨P, hP⟩ : ∃ N, pl.length = N := ⟨_, rfl⟩
  have hpq : P ≤ 9223372036854775807 := by
    obtain ⟨_, _, e, k1, k2, -⟩ := IsSeq.shape hp
    unfold maxLen at k2
    omega
  rw [hP] at hp ⊢
  have HN := Lib.hid hN
  have HP := Lib.hid hP
  have HSZ := Lib.hid hsz
  have h0 := ((St.start w).putOld (P := (IsPrs · (.slice pb P pq) pl)) (Mono.seq rdPr_up _ _) hp).putOld (P := (IsLists · (.slice lb N lq) l)) (Mono.lists _ _) hv
  clear hv hsz hN hP hp
  go_enter Try.func7, Try.ntmps7
  go_wp2_with fail
  refine (Calls.sV h0 (example_any _)).mono ?_
  rintro e w1 ⟨rfl, h1⟩
  clear h0
  obtain ⟨D0, hD0⟩ : ∃ D, Dk.made 64 = D := ⟨_, rfl⟩
  have hlv := live_made (n := 64) (f := 0) (m := 64) (by omega) (by omega) (by omega) (by omega)
  rw [hD0] at hlv
  have XD := Lib.hid hD0
  have XL := Lib.hid hlv
  clear hD0 hlv
  go_wp2_with fail
  refine (empty_s h1 64 0 64 (by omega) (by omega) (by omega) (by omega) XD.out).mono ?_
  rintro e w2 ⟨b0, q0, rfl, h2⟩
  clear h1
  go_upto_region 3 with (refine wpList_store_row rfl 24 (.tmp 6) (.tmp 20) rfl w2.heap.size (dkA b0 q0 D0) rfl rfl 24 _ (heap_alloc_new _ _) disk_info rfl (one4 rfl _ _ _) ?_)
  have h3 := h2.newVar #[.slice none 0 0, .int .i64 0, .int .i64 0, .bool false] (dkA b0 q0 D0) 24
  clear h2
  generalize World.setRow _ _ _ = W3 at h3 ⊢
  generalize w2.heap.size = g6 at h3 ⊢
  obtain ⟨r, hr⟩ : ∃ r, smallB D0 l = r := ⟨_, rfl⟩
  obtain ⟨c0, c1, c2, c3, -⟩ := dkO_cells (h3.at_ 0 rfl)
  go_wp2_with fail
  refine (small_s h3 hr (h3.is 0 rfl) (h3.is 1 rfl)).mono ?_
  rintro e w4 ⟨rfl, h4⟩
  clear h3 c0 c1 c2 c3
  cases r with
  | false =>
    clear hr
    go_wp2_with fail
    go_ret
    exact ⟨rfl, h4.below⟩
  | true =>
    obtain ⟨-, hn200, -, hall⟩ := smallB_use hr (ok_secs XL.out.reg.ok) (fun r h => Nat.le_trans (HSZ.out r h) (by omega))
    rw [HN.out] at hn200
    have HA := Lib.hid (fun r h => Nat.le_trans (hall r h) (show 40000 ≤ 1048576 by omega))
    clear hr hall
    by_cases hN0 : N = 0
    · subst hN0
      go_wp2_with fail
      go_ret
      exact ⟨rfl, h4.below⟩
    · have hNb : ((N : Int) == 0) = false := beq_of (by omega)
      by_cases hP6 : 6 < P
      · have hP6i : (6 : Int) < (P : Int) := by omega
        go_wp2_with fail
        go_ret
        exact ⟨rfl, h4.below⟩
      · have hP6i : ¬ (6 : Int) < (P : Int) := by omega
        go_wp2_with fail
        go_loopw [8, 9] (fun dv iv wr => ∃ (k m : Nat) (D : Dk) (b : Option Addr) (q E : Nat), k ≤ P ∧ m ≤ k ∧ dv = .int .i64 m ∧ iv = .int .i64 k ∧ Hid (D.Live 0 64 (rep m l) E) ∧ St w wr [(g6, dkB b q D)] [(IsDk · (dkS b q D) D), (IsLists · (.slice lb N lq) l), (IsPrs · (.slice pb P pq) pl)]) (fun _ iv _ => P - (intOf iv).toNat)
        case atStart => exact ⟨0, 0, D0, b0, q0, 0, by omega, by omega, rfl, rfl, XL, h4⟩
        case round =>
          clear h4
          obtain ⟨k, m, D, b, q, E, hk, hmk, rfl, rfl, HV, hst⟩ := hrel
          by_cases hlt : k < P
          · have hkl : k < pl.length := by rw [HP.out]; exact hlt
            have hlti : (k : Int) < (P : Int) := by omega
            obtain ⟨gp, op, rfl, x1, x2⟩ := prs_at (hst.get 2 rfl) k hkl
            obtain ⟨⟨x, y⟩, hxy⟩ : ∃ p, pl[k] = p := ⟨_, rfl⟩
            rw [hxy] at x1 x2
            simp only [u8v] at x1 x2
            have hx := x.toNat_lt
            have hy := y.toNat_lt
            obtain ⟨X, hX⟩ : ∃ X, x.toNat = X := ⟨_, rfl⟩
            obtain ⟨Y, hY⟩ : ∃ X, y.toNat = X := ⟨_, rfl⟩
            rw [hX] at x1 hx
            rw [hY] at x2 hy
            obtain ⟨T, hT⟩ : ∃ T, D.fail ((X % 12 : Nat) : Int) ((Y % 129 : Nat) : Int) = (T, 0) := ⟨_, (dk_fail_ok HV.out.reg.ok HV.out.runs _ _ (by omega) (by omega) (by omega) (by omega)).1⟩
            obtain ⟨⟨Z, c⟩, hZ⟩ : ∃ r, T.app 0 64 l = r := ⟨_, rfl⟩
            have XT := Lib.hid hT
            have XZ := Lib.hid hZ
            have h5 := (hst.put (P := fun x => x.cell? ⟨gp, op + k * 2, none⟩ = some (.int .u8 X)) (Mono.cell _ _) x1).put (P := fun x => x.cell? ⟨gp, op + k * 2 + 1, none⟩ = some (.int .u8 Y)) (Mono.cell _ _) x2
            have r1 : (X : Int).tmod 12 = ((X % 12 : Nat) : Int) := (Int.ofNat_tmod X 12).symm
            have r2 : (Y : Int).tmod 129 = ((Y % 129 : Nat) : Int) := (Int.ofNat_tmod Y 129).symm
            clear hxy hX hY hst x1 x2 hT hZ
            go_upto_region 9 with fail
            refine wp_region_st [pVal (dkS b q D), pVal ?c9_1, pVal ?c9_2, pVal (.pointer (some ⟨gp, op + k * 2, none⟩)), pVal (.pointer (some ⟨gp, op + k * 2, none⟩)), pVal (.int .u8 X), pVal (.int .u8 ((X % 12 : Nat) : Int)), pVal (.int .i64 ((X % 12 : Nat) : Int)), pVal ?c9_8, pVal ?c9_9, pVal (.pointer (some ⟨gp, op + k * 2, none⟩)), pVal (.pointer (some ⟨gp, op + k * 2 + 1, none⟩)), pVal (.int .u8 Y), pVal (.int .i64 (Y : Int)), pVal (.int .i64 ((Y % 129 : Nat) : Int)), pDkT T 0, pDkT T 0, pDk T, pVal (.int .i64 0), pPtr, pAny, pVal ?c9_21] (osN 19 20 17 24 (.cells #[.slice none 0 0, .int .i64 0, .int .i64 0, .bool false] 24 (0, 0)) [(g6, dkB b q D)]) 151 [0, 0, 0, 6, 14, 30, 62, 126, 0, 0, 768, 1792, 3840, 7936, 16128, 32767, 65535, 131071, 131071, 0, 786431, 2097151] [[], [], [], [(2, 53), (1, 52)], [(3, 54)], [(4, 55)], [(5, 56)], [(6, 57)], [], [], [(9, 60), (8, 59)], [(10, 61)], [(11, 62)], [(12, 63)], [(13, 64)], [(14, 65), (7, 58), (0, 51)], [(15, 66)], [(16, 50)], [(16, 50)], [], [(17, 67), (19, 10)], [(18, 68)]] [(0, 51), (1, 52), (2, 53), (3, 54), (4, 55), (5, 56), (6, 57), (7, 58), (8, 59), (9, 60), (10, 61), (11, 62), (12, 63), (13, 64), (14, 65), (15, 66), (16, 50), (17, 67), (18, 68), (19, 10), (21, 11)] (by kernel_rfl) (by kernel_rfl) rfl rfl h5 osN0 (osN1 (by decide) (by decide)) ?ob ?en
            case ob =>
              refine ⟨?_, ?_, ?_, ?_, ?_, ?_, ?_, ?_, ?_, ?_, ?_, ?_, ?_, ?_, ?_, ?_, ?_, ?_, ?_, ?_, ?_, ?_, trivial⟩
              · -- 0: t51 := Op.load 24 (t6)
                intro zx1 zx2 zx3 zx4 L V W hL hd hw hst 
                refine ob_c (by first | rfl | (simp [wantE, dstOf, zx1]; done)) ?_ hst rfl
                have hg := hst.find (g := g6) (o := dkB b q D) (osN_mem (by simp) _ _)
                exact run_load_own rfl rfl hg Try.underlying24 rfl disk_info
              · -- 1: t52 := Op.move (t1)
                intro zx1 zx2 zx3 zx4 L V W hL hd hw hst 
                refine ob_c rfl ?_ hst rfl
                go_simp
                try with_reducible rfl
              · -- 2: t53 := Op.move (t9)
                intro zx1 zx2 zx3 zx4 L V W hL hd hw hst 
                refine ob_c rfl ?_ hst rfl
                go_simp
                try with_reducible rfl
              · -- 3: t54 := Op.indexAddr 46 (t52) (t53)
                intro zx1 zx2 zx3 zx4 L V W hL hd hw hst u1 e1 p1 u2 e2 p2
                obtain rfl : u1 = _ := p1
                obtain rfl : u2 = _ := p2
                refine ob_c (by first | rfl | (simp [wantE, dstOf, zx1]; done)) ?_ hst rfl
                go_simp
                all_goals (skip)
              · -- 4: t55 := Op.indexAddr 49 (t54) (const (int IntKind.i64 0))
                intro zx1 zx2 zx3 zx4 L V W hL hd hw hst u3 e3 p3
                obtain rfl : u3 = _ := p3
                refine ob_c (by first | rfl | (simp [wantE, dstOf, zx1]; done)) ?_ hst rfl
                go_simp
                all_goals (skip)
              · -- 5: t56 := Op.load 5 (t55)
                intro zx1 zx2 zx3 zx4 L V W hL hd hw hst u4 e4 p4
                obtain rfl : u4 = _ := p4
                have hz := mask_is _ _ _ _ (hst.base 1 rfl : World.cell? _ _ = some _)
                refine ob_c (by first | rfl | (simp [wantE, dstOf, zx1]; done)) ?_ hst rfl
                go_simp
                try with_reducible rfl
              · -- 6: t57 := Op.binOp BinOp.rem 5 (t56) (const (int IntKind.u8 12)) 5
                intro zx1 zx2 zx3 zx4 L V W hL hd hw hst u5 e5 p5
                obtain rfl : u5 = _ := p5
                refine ob_c (by first | rfl | (simp [wantE, dstOf, zx1]; done)) ?_ hst rfl
                go_simp
                all_goals (skip)
              · -- 7: t58 := Op.convert 5 3 (t57)
                intro zx1 zx2 zx3 zx4 L V W hL hd hw hst u6 e6 p6
                obtain rfl : u6 = _ := p6
                refine ob_c (by first | rfl | (simp [wantE, dstOf, zx1]; done)) ?_ hst rfl
                go_simp
                all_goals (rw [IntKind.wrap_i64]; omega)
              · -- 8: t59 := Op.move (t1)
                intro zx1 zx2 zx3 zx4 L V W hL hd hw hst 
                refine ob_c rfl ?_ hst rfl
                go_simp
                try with_reducible rfl
              · -- 9: t60 := Op.move (t9)
                intro zx1 zx2 zx3 zx4 L V W hL hd hw hst 
                refine ob_c rfl ?_ hst rfl
                go_simp
                try with_reducible rfl
              · -- 10: t61 := Op.indexAddr 46 (t59) (t60)
                intro zx1 zx2 zx3 zx4 L V W hL hd hw hst u8 e8 p8 u9 e9 p9
                obtain rfl : u8 = _ := p8
                obtain rfl : u9 = _ := p9
                refine ob_c (by first | rfl | (simp [wantE, dstOf, zx1]; done)) ?_ hst rfl
                go_simp
                all_goals (skip)
              · -- 11: t62 := Op.indexAddr 49 (t61) (const (int IntKind.i64 1))
                intro zx1 zx2 zx3 zx4 L V W hL hd hw hst u10 e10 p10
                obtain rfl : u10 = _ := p10
                refine ob_c (by first | rfl | (simp [wantE, dstOf, zx1]; done)) ?_ hst rfl
                go_simp
                all_goals (skip)
              · -- 12: t63 := Op.load 5 (t62)
                intro zx1 zx2 zx3 zx4 L V W hL hd hw hst u11 e11 p11
                obtain rfl : u11 = _ := p11
                have hz := mask_is _ _ _ _ (hst.base 0 rfl : World.cell? _ _ = some _)
                refine ob_c (by first | rfl | (simp [wantE, dstOf, zx1]; done)) ?_ hst rfl
                go_simp
                try with_reducible rfl
              · -- 13: t64 := Op.convert 5 3 (t63)
                intro zx1 zx2 zx3 zx4 L V W hL hd hw hst u12 e12 p12
                obtain rfl : u12 = _ := p12
                refine ob_c (by first | rfl | (simp [wantE, dstOf, zx1]; done)) ?_ hst rfl
                go_simp
                all_goals (rw [IntKind.wrap_i64]; omega)
              · -- 14: t65 := Op.binOp BinOp.rem 3 (t64) (const (int IntKind.i64 129)) 3
                intro zx1 zx2 zx3 zx4 L V W hL hd hw hst u13 e13 p13
                obtain rfl : u13 = _ := p13
                refine ob_c (by first | rfl | (simp [wantE, dstOf, zx1]; done)) ?_ hst rfl
                go_simp
                all_goals (skip)
              · -- 15: t66 := Op.call { callee := value (func 29), args := #[t51, t58, t65], argTypes := #[24, 3, 3] }
                intro zx1 zx2 zx3 zx4 L V W hL hd hw hst u0 e0 p0 u7 e7 p7 u14 e14 p14
                obtain rfl : u0 = _ := p0
                obtain rfl : u7 = _ := p7
                obtain rfl : u14 = _ := p14
                refine ob_call (by first | rfl | (simp [wantE, dstOf, zx1]; done)) ?_ (fail_p hst (d := D) XT.out (hst.base 2 rfl))
                go_simp
                try rfl
              · -- 16: t50 := Op.move (t66)
                intro zx1 zx2 zx3 zx4 L V W hL hd hw hst u15 e15 p15
                refine ob_v u15 rfl ?_ hst rfl p15
                go_simp
              · -- 17: t67 := Op.extract (t50) 0
                intro zx1 zx2 zx3 zx4 L V W hL hd hw hst u16 e16 p16
                obtain ⟨bm, qm, rfl, kmm⟩ := p16
                refine ob_v (dkS bm qm T) rfl ?_ hst (osN_keep (hw 20 rfl (by decide)) (by decide) (by decide)) ⟨bm, qm, rfl, kmm⟩
                go_simp
              · -- 18: t68 := Op.extract (t50) 1
                intro zx1 zx2 zx3 zx4 L V W hL hd hw hst u16 e16 p16
                obtain ⟨bm, qm, rfl, kmm⟩ := p16
                refine ob_c rfl ?_ hst rfl
                go_simp
                try with_reducible rfl
              · -- 19: t10 := Op.alloc 24
                intro zx1 zx2 zx3 zx4 L V W hL hd hw hst 
                exact ob_new _ rfl rfl dk_zero_var rfl (by decide) hL (hw 20 rfl (by decide)) rfl hst
              · -- 20: tNone := Op.store 24 (t10) (t67)
                intro zx1 zx2 zx3 zx4 L V W hL hd hw hst u19 e19 p19 u17 e17 p17
                obtain ⟨g19, rfl⟩ := p19
                obtain ⟨bx9, qx9, rfl, kx⟩ := p17
                exact ob_put (ia := 19) (k := 17) (z := .agg #[.slice none 0 0, .int .i64 0, .int .i64 0, .bool false]) rfl rfl rfl rfl e19 e17 rfl (by decide) (by decide) (hd 19 rfl) hL rfl disk_info (one4 rfl _ _ _) hst
              · -- 21: t11 := Op.assign (t68)
                intro zx1 zx2 zx3 zx4 L V W hL hd hw hst u18 e18 p18
                obtain rfl : u18 = _ := p18
                refine ob_c rfl ?_ hst rfl
                go_simp
                try with_reducible rfl
            case en =>
              intro V W hst u0 e0 p0 u1 e1 p1 u2 e2 p2 u3 e3 p3 u4 e4 p4 u5 e5 p5 u6 e6 p6 u7 e7 p7 u8 e8 p8 u9 e9 p9 u10 e10 p10 u11 e11 p11 u12 e12 p12 u13 e13 p13 u14 e14 p14 u15 e15 p15 u16 e16 p16 u17 e17 p17 u18 e18 p18 u19 e19 p19 u21 e21 p21
              obtain rfl : u0 = _ := p0
              obtain rfl : u1 = _ := p1
              obtain rfl : u2 = _ := p2
              obtain rfl : u3 = _ := p3
              obtain rfl : u4 = _ := p4
              obtain rfl : u5 = _ := p5
              obtain rfl : u6 = _ := p6
              obtain rfl : u7 = _ := p7
              obtain rfl : u8 = _ := p8
              obtain rfl : u9 = _ := p9
              obtain rfl : u10 = _ := p10
              obtain rfl : u11 = _ := p11
              obtain rfl : u12 = _ := p12
              obtain rfl : u13 = _ := p13
              obtain rfl : u14 = _ := p14
              obtain ⟨ba, qa, rfl, ka⟩ := p15
              obtain ⟨bm, qm, rfl, kmm⟩ := p16
              obtain ⟨bx9, qx9, rfl, kx⟩ := p17
              obtain rfl : u18 = _ := p18
              obtain ⟨g19, rfl⟩ := p19
              obtain rfl : u21 = _ := p21
              simp only [EndAll, Act.put, List.getElem_toArray, List.getElem_cons_succ, List.getElem_cons_zero, List.setIfInBounds_toArray, List.set_cons_zero, List.set_cons_succ]
              have h6 := hst.put (Mono.dk _ _) kx
              rw [osN_end e19 e17] at h6
              replace h6 := h6.shut
              clear hst kx kmm ka
              generalize g19 = g10 at h6 ⊢
              generalize bx9 = b10 at h6 ⊢
              generalize qx9 = q10 at h6 ⊢
              go_wp2_with (refine wpList_load_mid rfl 24 (.tmp 10) rfl g10 0 rfl [.slice b10 T.sec.length q10, .int .i64 T.left, .int .i64 T.tear, .bool T.stopped] _ (h6.is 0 rfl : IsCells _ _ _).range Try.underlying24 rfl rfl ?_)
              refine (app_s h6 (d := T) (f := 0) (m := 64) XZ.out (by omega) (by omega) (h6.get 1 rfl) (h6.is 5 rfl) (by rw [HN.out]; omega) HA.out).mono ?_
              rintro e w7 ⟨b12, q12, rfl, h7⟩
              clear h6
              go_upto_region 13 with (refine wpList_store_row rfl 24 (.tmp 12) (.tmp 75) rfl w7.heap.size (dkA b12 q12 Z) rfl rfl 24 _ (heap_alloc_new _ _) disk_info rfl (one4 rfl _ _ _) ?_)
              have h8 := (h7.newVar #[.slice none 0 0, .int .i64 0, .int .i64 0, .bool false] (dkA b12 q12 Z) 24).shut
              clear h7
              generalize World.setRow _ _ _ = W8 at h8 ⊢
              generalize w7.heap.size = g12 at h8 ⊢
              by_cases hc : c = 0 ∨ c = 300
              · obtain ⟨m2, E2, hlv2, hm2⟩ := retries_plain HV.out (by rw [HN.out]; omega) HA.out XT.out XZ.out (fun h => hN0 (by rw [← HN.out, h]; rfl)) hc
                have hl2 : (rep m2 l).length = m2 * N := by rw [rep_len, HN.out]
                have hm26 : m2 ≤ 6 := by omega
                obtain ⟨Y2, hY2⟩ : ∃ Y, Z.restart = Y := ⟨_, rfl⟩
                rw [hY2] at hlv2
                have XY := Lib.hid hY2
                have HV2 := Lib.hid hlv2
                obtain ⟨LL, hLL⟩ : ∃ LL, m2 * N = LL := ⟨_, rfl⟩
                rw [hLL] at hl2
                have HLL := Lib.hid (And.intro hl2 hLL)
                have hcode : (((c != 0) = false ∧ (c == 0) = true) ∨ ((c != 0) = true ∧ (c != 300) = false ∧ (c == 0) = false)) := by
                  rcases hc with rfl | rfl <;> simp
                have HC := Lib.hid (And.intro hcode hm2)
                clear hlv2 hY2 hl2 hLL hcode hm2 hc
                skip
                have hc13 := HC.out.1
                have hS : Hid (c = 0 ∨ c ≠ 0) := Lib.hid (by omega)
                rcases hc13 with ⟨n1, n2⟩ | ⟨n1, n2, n3⟩
                · skip
                  go_wp2_with (refine wpList_load_mid rfl 24 (.tmp 12) rfl g12 0 rfl [.slice b12 Z.sec.length q12, .int .i64 Z.left, .int .i64 Z.tear, .bool Z.stopped] _ (h8.is 0 rfl : IsCells _ _ _).range Try.underlying24 rfl rfl ?_)
                  refine (restart_s h8 (d := Z) XY.out (h8.get 1 rfl)).mono ?_
                  rintro e w9 ⟨b9, q9, rfl, h9⟩
                  clear h8
                  have h10 := (h9.setRow (os1 := []) (cs' := dkA b9 q9 Y2)).facts (fs' := [(IsDk · (dkS b9 q9 Y2) Y2), (IsLists · (.slice lb N lq) l), (IsPrs · (.slice (some ⟨gp, op, none⟩) P pq) pl)]) (fun P hP => by simp only [List.mem_cons, List.not_mem_nil, or_false] at hP ⊢; rcases hP with rfl | rfl | rfl <;> simp)
                  go_upto_region 16 with (refine wpList_store_row rfl 24 (.tmp 6) (.tmp 85) rfl g6 (dkA b9 q9 Y2) rfl rfl 24 _ (h9.at_ 0 rfl) disk_info rfl (one4 rfl _ _ _) ?_)
                  clear h9
                  generalize World.setRow _ _ _ = W10 at h10 ⊢
                  go_wp2_with (refine wpList_load_row rfl 24 (.tmp 6) rfl g6 rfl 24 _ (0, 0) _ (h10.at_ 0 rfl) Try.underlying24 rfl disk_info ?_)
                  refine (read_s h10 (d := Y2) (f := 0) (m := 64) HV2.out.is (by omega) (by omega) (h10.is 0 rfl)).mono ?_
                  rintro e w11 ⟨b11, q11, rfl, h11⟩
                  clear h10
                  rw [HLL.out.1] at h11 ⊢
                  have hm3 : m2 = m + 1 := by have := HC.out.2; have hz := beq_iff_eq.1 n2; omega
                  obtain ⟨A, hA1⟩ : ∃ A, m * N = A := ⟨_, rfl⟩
                  obtain ⟨B, hB1⟩ : ∃ B, (m + 1) * N = B := ⟨_, rfl⟩
                  have hAB : B = A + N := by rw [← hA1, ← hB1, Nat.succ_mul]
                  have hA2 : A ≤ 1200 := by rw [← hA1]; exact Nat.le_trans (Nat.mul_le_mul (show m ≤ 6 by omega) hn200) (by omega)
                  have HAB := Lib.hid (And.intro hA1 (And.intro hB1 (show A ≤ 1200 ∧ B ≤ 1400 by omega)))
                  obtain rfl : LL = B := by rw [← HLL.out.2, hm3, hB1]
                  have y1 : ((LL : Int) != (A : Int)) = true := bne_of (by omega)
                  have y2 : ((LL : Int) == (A : Int)) = false := beq_of (by omega)
                  have y3 : ((LL : Int) != (LL : Int)) = false := by simp
                  clear hA1 hB1 hAB hA2
                  have e1 : IntKind.i64.wrap ((m : Int) * (N : Int)) = (A : Int) := by rw [IntKind.wrap_i64, ← Int.natCast_mul, HAB.out.1]; have := HAB.out.2.2; omega
                  have e2 : IntKind.i64.wrap ((m : Int) + 1) = (m : Int) + 1 := by rw [IntKind.wrap_i64]; omega
                  have e3 : IntKind.i64.wrap (((m : Int) + 1) * (N : Int)) = (LL : Int) := by rw [show ((m : Int) + 1) * (N : Int) = (((m + 1) * N : Nat) : Int) by rw [Int.natCast_mul]; rfl, HAB.out.2.1, IntKind.wrap_i64]; have := HAB.out.2.2; omega
                  have e4 : (LL : Int).tdiv (N : Int) = (m2 : Int) := by rw [← HLL.out.2, Int.natCast_mul]; exact Int.mul_tdiv_cancel _ (by omega)
                  have e6 : (LL : Int) / (N : Int) = (m2 : Int) := by rw [← HLL.out.2, Int.natCast_mul]; exact Int.mul_ediv_cancel _ (by omega)
                  have e5 : IntKind.i64.wrap (m2 : Int) = (m2 : Int) := by rw [IntKind.wrap_i64]; omega
                  go_wp2_with fail
                  clear e1 e2 e3 e4 e5 e6 y1 y2 y3
                  go_loopw [16] (fun jv wr => ∃ j : Nat, j ≤ LL ∧ jv = .int .i64 j ∧ St w wr [(g6, dkB b9 q9 Y2)] [(IsLists · (.slice b11 LL q11) (rep m2 l)), (IsDk · (dkS b9 q9 Y2) Y2), (IsLists · (.slice lb N lq) l), (IsPrs · (.slice (some ⟨gp, op, none⟩) P pq) pl)]) (fun jv _ => LL - (intOf jv).toNat)
                  case atStart => exact ⟨0, by omega, rfl, h11⟩
                  case round =>
                    clear h11
                    obtain ⟨j, hj, rfl, hst⟩ := hrel
                    by_cases hjl : j < LL
                    · have hjli : (j : Int) < (LL : Int) := by omega
                      have hj2 : j < (rep m2 l).length := by rw [HLL.out.1]; exact hjl
                      have hmod : j % N < N := Nat.mod_lt _ (by omega)
                      have hj3 : j % N < l.length := by rw [HN.out]; exact hmod
                      obtain ⟨_, _, ee, -, -, -, hat⟩ := (hst.get 0 rfl : IsLists _ _ _).out
                      rw [HLL.out.1] at ee
                      cases ee
                      obtain ⟨ga, oa, ua, rfl, xa, ya⟩ := hat j hj2
                      obtain ⟨_, _, ee, -, -, -, hat2⟩ := (hst.get 2 rfl : IsLists _ _ _).out
                      rw [HN.out] at ee
                      cases ee
                      obtain ⟨gc, oc, uc, rfl, xc, yc⟩ := hat2 (j % N) hj3
                      have hrg := rep_get (r := l) (by rw [HN.out]; omega) m2 j hj2
                      have hrg2 : (rep m2 l)[j] = l[j % N]'hj3 := by rw [hrg]; simp only [HN.out]
                      rw [hrg2] at ya
                      obtain ⟨R, hR⟩ : ∃ R, l[j % N]'hj3 = R := ⟨_, rfl⟩
                      rw [hR] at ya yc
                      have hjm : (j : Int).tmod (N : Int) = ((j % N : Nat) : Int) := (Int.ofNat_tmod j N).symm
                      have hjb : j ≤ 1200 := by have h1 := HLL.out.2; have h2 : m2 * N ≤ 6 * 200 := Nat.mul_le_mul hm26 hn200; omega
                      obtain ⟨jm, hjmm⟩ : ∃ x, j % N = x := ⟨_, rfl⟩
                      rw [hjmm] at xc hmod hjm
                      have hwm : IntKind.i64.wrap (jm : Int) = (jm : Int) := by rw [IntKind.wrap_i64]; omega
                      have h12 := (((hst.put (P := fun x => x.cell? ⟨ga, oa + j, none⟩ = some ua) (Mono.cell _ _) xa).put (P := (IsBytes · ua R)) (Mono.bytes _ _) ya).put (P := fun x => x.cell? ⟨gc, oc + jm, none⟩ = some uc) (Mono.cell _ _) xc).put (P := (IsBytes · uc R)) (Mono.bytes _ _) yc
                      clear hat hat2 hrg hrg2 hR hjmm xa ya xc yc
                      go_upto_region 23 with fail
                      refine wp_region_st [pVal ?c23x_0, pVal ?c23x_1, pVal ?c23x_2, pVal (ua), pVal (.string ⟨R.toArray⟩), pVal ?c23x_5, pVal ?c23x_6, pVal ?c23x_7, pVal ?c23x_8, pVal (.int .i64 (jm : Int)), pVal ?c23x_10, pVal (uc), pVal (.string ⟨R.toArray⟩), pVal (.bool false)] (osC [(g6, dkB b9 q9 Y2)]) 151 [0, 0, 3, 7, 15, 0, 0, 0, 128, 448, 992, 2016, 4064, 8191] [[], [], [(1, 137), (0, 136)], [(2, 138)], [(3, 139)], [], [], [], [(7, 143)], [(8, 144), (6, 142)], [(9, 145), (5, 141)], [(10, 146)], [(11, 147)], [(12, 148), (4, 140)]] [(0, 136), (1, 137), (2, 138), (3, 139), (4, 140), (5, 141), (6, 142), (7, 143), (8, 144), (9, 145), (10, 146), (11, 147), (12, 148), (13, 149)] (by kernel_rfl) (by kernel_rfl) rfl rfl h12 osC0 osC1 ?ob ?en
                      case ob =>
                        refine ⟨?_, ?_, ?_, ?_, ?_, ?_, ?_, ?_, ?_, ?_, ?_, ?_, ?_, ?_, trivial⟩
                        · -- 0: t136 := Op.move (t14)
                          intro zx1 zx2 zx3 zx4 L V W hL hd hw hst 
                          refine ob_c rfl ?_ hst rfl
                          go_simp
                          try with_reducible rfl
                        · -- 1: t137 := Op.move (t16)
                          intro zx1 zx2 zx3 zx4 L V W hL hd hw hst 
                          refine ob_c rfl ?_ hst rfl
                          go_simp
                          try with_reducible rfl
                        · -- 2: t138 := Op.indexAddr 22 (t136) (t137)
                          intro zx1 zx2 zx3 zx4 L V W hL hd hw hst u0 e0 p0 u1 e1 p1
                          obtain rfl : u0 = _ := p0
                          obtain rfl : u1 = _ := p1
                          refine ob_c rfl ?_ hst rfl
                          go_simp
                          try with_reducible rfl
                        · -- 3: t139 := Op.load 42 (t138)
                          intro zx1 zx2 zx3 zx4 L V W hL hd hw hst u2 e2 p2
                          obtain rfl : u2 = _ := p2
                          have hz := mask_is _ _ _ _ (hst.base 3 rfl : World.cell? _ _ = some _)
                          refine ob_c (by first | rfl | (simp [wantE, dstOf, zx1]; done)) ?_ hst rfl
                          go_simp
                          try with_reducible rfl
                        · -- 4: t140 := Op.convert 42 9 (t139)
                          intro zx1 zx2 zx3 zx4 L V W hL hd hw hst u3 e3 p3
                          obtain rfl : u3 = _ := p3
                          exact ob_c (by first | rfl | (simp [wantE, dstOf, zx1]; done)) (run_cv_op rfl rfl (bytesStr ((hst.base 2 rfl : IsBytes _ _ _).sub (mask_is _ _)))) hst rfl
                        · -- 5: t141 := Op.move (t0)
                          intro zx1 zx2 zx3 zx4 L V W hL hd hw hst 
                          refine ob_c rfl ?_ hst rfl
                          go_simp
                          try with_reducible rfl
                        · -- 6: t142 := Op.move (t16)
                          intro zx1 zx2 zx3 zx4 L V W hL hd hw hst 
                          refine ob_c rfl ?_ hst rfl
                          go_simp
                          try with_reducible rfl
                        · -- 7: t143 := Op.move (t0)
                          intro zx1 zx2 zx3 zx4 L V W hL hd hw hst 
                          refine ob_c rfl ?_ hst rfl
                          go_simp
                          try with_reducible rfl
                        · -- 8: t144 := Op.call { callee := builtin Builtin.len, args := #[t143], argTypes := #[22] }
                          intro zx1 zx2 zx3 zx4 L V W hL hd hw hst u7 e7 p7
                          obtain rfl : u7 = _ := p7
                          refine ob_c rfl ?_ hst rfl
                          go_simp
                          try with_reducible rfl
                        · -- 9: t145 := Op.binOp BinOp.rem 3 (t142) (t144) 3
                          intro zx1 zx2 zx3 zx4 L V W hL hd hw hst u6 e6 p6 u8 e8 p8
                          obtain rfl : u6 = _ := p6
                          obtain rfl : u8 = _ := p8
                          refine ob_c (by first | rfl | (simp [wantE, dstOf, zx1]; done)) ?_ hst rfl
                          go_simp
                          all_goals (skip)
                        · -- 10: t146 := Op.indexAddr 22 (t141) (t145)
                          intro zx1 zx2 zx3 zx4 L V W hL hd hw hst u5 e5 p5 u9 e9 p9
                          obtain rfl : u5 = _ := p5
                          obtain rfl : u9 = _ := p9
                          refine ob_c rfl ?_ hst rfl
                          go_simp
                          try with_reducible rfl
                        · -- 11: t147 := Op.load 42 (t146)
                          intro zx1 zx2 zx3 zx4 L V W hL hd hw hst u10 e10 p10
                          obtain rfl : u10 = _ := p10
                          have hz := mask_is _ _ _ _ (hst.base 1 rfl : World.cell? _ _ = some _)
                          refine ob_c (by first | rfl | (simp [wantE, dstOf, zx1]; done)) ?_ hst rfl
                          go_simp
                          try with_reducible rfl
                        · -- 12: t148 := Op.convert 42 9 (t147)
                          intro zx1 zx2 zx3 zx4 L V W hL hd hw hst u11 e11 p11
                          obtain rfl : u11 = _ := p11
                          exact ob_c (by first | rfl | (simp [wantE, dstOf, zx1]; done)) (run_cv_op rfl rfl (bytesStr ((hst.base 0 rfl : IsBytes _ _ _).sub (mask_is _ _)))) hst rfl
                        · -- 13: t149 := Op.binOp BinOp.neq 9 (t140) (t148) 9
                          intro zx1 zx2 zx3 zx4 L V W hL hd hw hst u4 e4 p4 u12 e12 p12
                          obtain rfl : u4 = _ := p4
                          obtain rfl : u12 = _ := p12
                          refine ob_c (by first | rfl | (simp [wantE, dstOf, zx1]; done)) ?_ hst rfl
                          go_simp
                          all_goals (skip)
                      case en =>
                        intro V W hst u0 e0 p0 u1 e1 p1 u2 e2 p2 u3 e3 p3 u4 e4 p4 u5 e5 p5 u6 e6 p6 u7 e7 p7 u8 e8 p8 u9 e9 p9 u10 e10 p10 u11 e11 p11 u12 e12 p12 u13 e13 p13
                        obtain rfl : u0 = _ := p0
                        obtain rfl : u1 = _ := p1
                        obtain rfl : u2 = _ := p2
                        obtain rfl : u3 = _ := p3
                        obtain rfl : u4 = _ := p4
                        obtain rfl : u5 = _ := p5
                        obtain rfl : u6 = _ := p6
                        obtain rfl : u7 = _ := p7
                        obtain rfl : u8 = _ := p8
                        obtain rfl : u9 = _ := p9
                        obtain rfl : u10 = _ := p10
                        obtain rfl : u11 = _ := p11
                        obtain rfl : u12 = _ := p12
                        obtain rfl : u13 = _ := p13
                        simp only [EndAll, Act.put, List.getElem_toArray, List.getElem_cons_succ, List.getElem_cons_zero, List.setIfInBounds_toArray, List.set_cons_zero, List.set_cons_succ]
                        have h13 := hst.facts (fs' := [(IsLists · (.slice (some ⟨ga, oa, none⟩) LL q11) (rep m2 l)), (IsDk · (dkS b9 q9 Y2) Y2), (IsLists · (.slice (some ⟨gc, oc, none⟩) N lq) l), (IsPrs · (.slice (some ⟨gp, op, none⟩) P pq) pl)]) (fun P hP => by simp only [List.mem_cons, List.not_mem_nil, or_false] at hP ⊢; rcases hP with rfl | rfl | rfl | rfl <;> simp)
                        clear hst h12
                        go_wp2_with fail
                        go_roundw
                        case rel => exact ⟨j + 1, by omega, by go_num, h13⟩
                        case measure => simp [intOf]; omega
                    · have hjli : ¬ (j : Int) < (LL : Int) := by omega
                      clear hjl
                      go_wp2_with fail
                      go_roundw
                      case rel => exact ⟨k + 1, m2, Y2, b9, q9, E2, by omega, by have := HC.out.2; omega, by go_num, by go_num, HV2, hst.pop⟩
                      case measure => simp [intOf]; omega
                · rcases HC.out.2 with hmm | ⟨hmm, -⟩
                  · skip
                    go_wp2_with (refine wpList_load_mid rfl 24 (.tmp 12) rfl g12 0 rfl [.slice b12 Z.sec.length q12, .int .i64 Z.left, .int .i64 Z.tear, .bool Z.stopped] _ (h8.is 0 rfl : IsCells _ _ _).range Try.underlying24 rfl rfl ?_)
                    refine (restart_s h8 (d := Z) XY.out (h8.get 1 rfl)).mono ?_
                    rintro e w9 ⟨b9, q9, rfl, h9⟩
                    clear h8
                    have h10 := (h9.setRow (os1 := []) (cs' := dkA b9 q9 Y2)).facts (fs' := [(IsDk · (dkS b9 q9 Y2) Y2), (IsLists · (.slice lb N lq) l), (IsPrs · (.slice (some ⟨gp, op, none⟩) P pq) pl)]) (fun P hP => by simp only [List.mem_cons, List.not_mem_nil, or_false] at hP ⊢; rcases hP with rfl | rfl | rfl <;> simp)
                    go_upto_region 16 with (refine wpList_store_row rfl 24 (.tmp 6) (.tmp 85) rfl g6 (dkA b9 q9 Y2) rfl rfl 24 _ (h9.at_ 0 rfl) disk_info rfl (one4 rfl _ _ _) ?_)
                    clear h9
                    generalize World.setRow _ _ _ = W10 at h10 ⊢
                    go_wp2_with (refine wpList_load_row rfl 24 (.tmp 6) rfl g6 rfl 24 _ (0, 0) _ (h10.at_ 0 rfl) Try.underlying24 rfl disk_info ?_)
                    refine (read_s h10 (d := Y2) (f := 0) (m := 64) HV2.out.is (by omega) (by omega) (h10.is 0 rfl)).mono ?_
                    rintro e w11 ⟨b11, q11, rfl, h11⟩
                    clear h10
                    rw [HLL.out.1] at h11 ⊢
                    obtain ⟨A, hA1⟩ : ∃ A, m * N = A := ⟨_, rfl⟩
                    obtain ⟨B, hB1⟩ : ∃ B, (m + 1) * N = B := ⟨_, rfl⟩
                    have hAB : B = A + N := by rw [← hA1, ← hB1, Nat.succ_mul]
                    have hA2 : A ≤ 1200 := by rw [← hA1]; exact Nat.le_trans (Nat.mul_le_mul (show m ≤ 6 by omega) hn200) (by omega)
                    have HAB := Lib.hid (And.intro hA1 (And.intro hB1 (show A ≤ 1200 ∧ B ≤ 1400 by omega)))
                    obtain rfl : LL = B := by rw [← HLL.out.2, hmm, hB1]
                    have y1 : ((LL : Int) != (A : Int)) = true := bne_of (by omega)
                    have y2 : ((LL : Int) == (A : Int)) = false := beq_of (by omega)
                    have y3 : ((LL : Int) != (LL : Int)) = false := by simp
                    clear hA1 hB1 hAB hA2
                    have e1 : IntKind.i64.wrap ((m : Int) * (N : Int)) = (A : Int) := by rw [IntKind.wrap_i64, ← Int.natCast_mul, HAB.out.1]; have := HAB.out.2.2; omega
                    have e2 : IntKind.i64.wrap ((m : Int) + 1) = (m : Int) + 1 := by rw [IntKind.wrap_i64]; omega
                    have e3 : IntKind.i64.wrap (((m : Int) + 1) * (N : Int)) = (LL : Int) := by rw [show ((m : Int) + 1) * (N : Int) = (((m + 1) * N : Nat) : Int) by rw [Int.natCast_mul]; rfl, HAB.out.2.1, IntKind.wrap_i64]; have := HAB.out.2.2; omega
                    have e4 : (LL : Int).tdiv (N : Int) = (m2 : Int) := by rw [← HLL.out.2, Int.natCast_mul]; exact Int.mul_tdiv_cancel _ (by omega)
                    have e6 : (LL : Int) / (N : Int) = (m2 : Int) := by rw [← HLL.out.2, Int.natCast_mul]; exact Int.mul_ediv_cancel _ (by omega)
                    have e5 : IntKind.i64.wrap (m2 : Int) = (m2 : Int) := by rw [IntKind.wrap_i64]; omega
                    go_wp2_with fail
                    clear e1 e2 e3 e4 e5 e6 y1 y2 y3
                    go_loopw [16] (fun jv wr => ∃ j : Nat, j ≤ LL ∧ jv = .int .i64 j ∧ St w wr [(g6, dkB b9 q9 Y2)] [(IsLists · (.slice b11 LL q11) (rep m2 l)), (IsDk · (dkS b9 q9 Y2) Y2), (IsLists · (.slice lb N lq) l), (IsPrs · (.slice (some ⟨gp, op, none⟩) P pq) pl)]) (fun jv _ => LL - (intOf jv).toNat)
                    case atStart => exact ⟨0, by omega, rfl, h11⟩
                    case round =>
                      clear h11
                      obtain ⟨j, hj, rfl, hst⟩ := hrel
                      by_cases hjl : j < LL
                      · have hjli : (j : Int) < (LL : Int) := by omega
                        have hj2 : j < (rep m2 l).length := by rw [HLL.out.1]; exact hjl
                        have hmod : j % N < N := Nat.mod_lt _ (by omega)
                        have hj3 : j % N < l.length := by rw [HN.out]; exact hmod
                        obtain ⟨_, _, ee, -, -, -, hat⟩ := (hst.get 0 rfl : IsLists _ _ _).out
                        rw [HLL.out.1] at ee
                        cases ee
                        obtain ⟨ga, oa, ua, rfl, xa, ya⟩ := hat j hj2
                        obtain ⟨_, _, ee, -, -, -, hat2⟩ := (hst.get 2 rfl : IsLists _ _ _).out
                        rw [HN.out] at ee
                        cases ee
                        obtain ⟨gc, oc, uc, rfl, xc, yc⟩ := hat2 (j % N) hj3
                        have hrg := rep_get (r := l) (by rw [HN.out]; omega) m2 j hj2
                        have hrg2 : (rep m2 l)[j] = l[j % N]'hj3 := by rw [hrg]; simp only [HN.out]
                        rw [hrg2] at ya
                        obtain ⟨R, hR⟩ : ∃ R, l[j % N]'hj3 = R := ⟨_, rfl⟩
                        rw [hR] at ya yc
                        have hjm : (j : Int).tmod (N : Int) = ((j % N : Nat) : Int) := (Int.ofNat_tmod j N).symm
                        have hjb : j ≤ 1200 := by have h1 := HLL.out.2; have h2 : m2 * N ≤ 6 * 200 := Nat.mul_le_mul hm26 hn200; omega
                        obtain ⟨jm, hjmm⟩ : ∃ x, j % N = x := ⟨_, rfl⟩
                        rw [hjmm] at xc hmod hjm
                        have hwm : IntKind.i64.wrap (jm : Int) = (jm : Int) := by rw [IntKind.wrap_i64]; omega
                        have h12 := (((hst.put (P := fun x => x.cell? ⟨ga, oa + j, none⟩ = some ua) (Mono.cell _ _) xa).put (P := (IsBytes · ua R)) (Mono.bytes _ _) ya).put (P := fun x => x.cell? ⟨gc, oc + jm, none⟩ = some uc) (Mono.cell _ _) xc).put (P := (IsBytes · uc R)) (Mono.bytes _ _) yc
                        clear hat hat2 hrg hrg2 hR hjmm xa ya xc yc
                        go_upto_region 23 with fail
                        refine wp_region_st [pVal ?c23y1_0, pVal ?c23y1_1, pVal ?c23y1_2, pVal (ua), pVal (.string ⟨R.toArray⟩), pVal ?c23y1_5, pVal ?c23y1_6, pVal ?c23y1_7, pVal ?c23y1_8, pVal (.int .i64 (jm : Int)), pVal ?c23y1_10, pVal (uc), pVal (.string ⟨R.toArray⟩), pVal (.bool false)] (osC [(g6, dkB b9 q9 Y2)]) 151 [0, 0, 3, 7, 15, 0, 0, 0, 128, 448, 992, 2016, 4064, 8191] [[], [], [(1, 137), (0, 136)], [(2, 138)], [(3, 139)], [], [], [], [(7, 143)], [(8, 144), (6, 142)], [(9, 145), (5, 141)], [(10, 146)], [(11, 147)], [(12, 148), (4, 140)]] [(0, 136), (1, 137), (2, 138), (3, 139), (4, 140), (5, 141), (6, 142), (7, 143), (8, 144), (9, 145), (10, 146), (11, 147), (12, 148), (13, 149)] (by kernel_rfl) (by kernel_rfl) rfl rfl h12 osC0 osC1 ?ob ?en
                        case ob =>
                          refine ⟨?_, ?_, ?_, ?_, ?_, ?_, ?_, ?_, ?_, ?_, ?_, ?_, ?_, ?_, trivial⟩
                          · -- 0: t136 := Op.move (t14)
                            intro zx1 zx2 zx3 zx4 L V W hL hd hw hst 
                            refine ob_c rfl ?_ hst rfl
                            go_simp
                            try with_reducible rfl
                          · -- 1: t137 := Op.move (t16)
                            intro zx1 zx2 zx3 zx4 L V W hL hd hw hst 
                            refine ob_c rfl ?_ hst rfl
                            go_simp
                            try with_reducible rfl
                          · -- 2: t138 := Op.indexAddr 22 (t136) (t137)
                            intro zx1 zx2 zx3 zx4 L V W hL hd hw hst u0 e0 p0 u1 e1 p1
                            obtain rfl : u0 = _ := p0
                            obtain rfl : u1 = _ := p1
                            refine ob_c rfl ?_ hst rfl
                            go_simp
                            try with_reducible rfl
                          · -- 3: t139 := Op.load 42 (t138)
                            intro zx1 zx2 zx3 zx4 L V W hL hd hw hst u2 e2 p2
                            obtain rfl : u2 = _ := p2
                            have hz := mask_is _ _ _ _ (hst.base 3 rfl : World.cell? _ _ = some _)
                            refine ob_c (by first | rfl | (simp [wantE, dstOf, zx1]; done)) ?_ hst rfl
                            go_simp
                            try with_reducible rfl
                          · -- 4: t140 := Op.convert 42 9 (t139)
                            intro zx1 zx2 zx3 zx4 L V W hL hd hw hst u3 e3 p3
                            obtain rfl : u3 = _ := p3
                            exact ob_c (by first | rfl | (simp [wantE, dstOf, zx1]; done)) (run_cv_op rfl rfl (bytesStr ((hst.base 2 rfl : IsBytes _ _ _).sub (mask_is _ _)))) hst rfl
                          · -- 5: t141 := Op.move (t0)
                            intro zx1 zx2 zx3 zx4 L V W hL hd hw hst 
                            refine ob_c rfl ?_ hst rfl
                            go_simp
                            try with_reducible rfl
                          · -- 6: t142 := Op.move (t16)
                            intro zx1 zx2 zx3 zx4 L V W hL hd hw hst 
                            refine ob_c rfl ?_ hst rfl
                            go_simp
                            try with_reducible rfl
                          · -- 7: t143 := Op.move (t0)
                            intro zx1 zx2 zx3 zx4 L V W hL hd hw hst 
                            refine ob_c rfl ?_ hst rfl
                            go_simp
                            try with_reducible rfl
                          · -- 8: t144 := Op.call { callee := builtin Builtin.len, args := #[t143], argTypes := #[22] }
                            intro zx1 zx2 zx3 zx4 L V W hL hd hw hst u7 e7 p7
                            obtain rfl : u7 = _ := p7
                            refine ob_c rfl ?_ hst rfl
                            go_simp
                            try with_reducible rfl
                          · -- 9: t145 := Op.binOp BinOp.rem 3 (t142) (t144) 3
                            intro zx1 zx2 zx3 zx4 L V W hL hd hw hst u6 e6 p6 u8 e8 p8
                            obtain rfl : u6 = _ := p6
                            obtain rfl : u8 = _ := p8
                            refine ob_c (by first | rfl | (simp [wantE, dstOf, zx1]; done)) ?_ hst rfl
                            go_simp
                            all_goals (skip)
                          · -- 10: t146 := Op.indexAddr 22 (t141) (t145)
                            intro zx1 zx2 zx3 zx4 L V W hL hd hw hst u5 e5 p5 u9 e9 p9
                            obtain rfl : u5 = _ := p5
                            obtain rfl : u9 = _ := p9
                            refine ob_c rfl ?_ hst rfl
                            go_simp
                            try with_reducible rfl
                          · -- 11: t147 := Op.load 42 (t146)
                            intro zx1 zx2 zx3 zx4 L V W hL hd hw hst u10 e10 p10
                            obtain rfl : u10 = _ := p10
                            have hz := mask_is _ _ _ _ (hst.base 1 rfl : World.cell? _ _ = some _)
                            refine ob_c (by first | rfl | (simp [wantE, dstOf, zx1]; done)) ?_ hst rfl
                            go_simp
                            try with_reducible rfl
                          · -- 12: t148 := Op.convert 42 9 (t147)
                            intro zx1 zx2 zx3 zx4 L V W hL hd hw hst u11 e11 p11
                            obtain rfl : u11 = _ := p11
                            exact ob_c (by first | rfl | (simp [wantE, dstOf, zx1]; done)) (run_cv_op rfl rfl (bytesStr ((hst.base 0 rfl : IsBytes _ _ _).sub (mask_is _ _)))) hst rfl
                          · -- 13: t149 := Op.binOp BinOp.neq 9 (t140) (t148) 9
                            intro zx1 zx2 zx3 zx4 L V W hL hd hw hst u4 e4 p4 u12 e12 p12
                            obtain rfl : u4 = _ := p4
                            obtain rfl : u12 = _ := p12
                            refine ob_c (by first | rfl | (simp [wantE, dstOf, zx1]; done)) ?_ hst rfl
                            go_simp
                            all_goals (skip)
                        case en =>
                          intro V W hst u0 e0 p0 u1 e1 p1 u2 e2 p2 u3 e3 p3 u4 e4 p4 u5 e5 p5 u6 e6 p6 u7 e7 p7 u8 e8 p8 u9 e9 p9 u10 e10 p10 u11 e11 p11 u12 e12 p12 u13 e13 p13
                          obtain rfl : u0 = _ := p0
                          obtain rfl : u1 = _ := p1
                          obtain rfl : u2 = _ := p2
                          obtain rfl : u3 = _ := p3
                          obtain rfl : u4 = _ := p4
                          obtain rfl : u5 = _ := p5
                          obtain rfl : u6 = _ := p6
                          obtain rfl : u7 = _ := p7
                          obtain rfl : u8 = _ := p8
                          obtain rfl : u9 = _ := p9
                          obtain rfl : u10 = _ := p10
                          obtain rfl : u11 = _ := p11
                          obtain rfl : u12 = _ := p12
                          obtain rfl : u13 = _ := p13
                          simp only [EndAll, Act.put, List.getElem_toArray, List.getElem_cons_succ, List.getElem_cons_zero, List.setIfInBounds_toArray, List.set_cons_zero, List.set_cons_succ]
                          have h13 := hst.facts (fs' := [(IsLists · (.slice (some ⟨ga, oa, none⟩) LL q11) (rep m2 l)), (IsDk · (dkS b9 q9 Y2) Y2), (IsLists · (.slice (some ⟨gc, oc, none⟩) N lq) l), (IsPrs · (.slice (some ⟨gp, op, none⟩) P pq) pl)]) (fun P hP => by simp only [List.mem_cons, List.not_mem_nil, or_false] at hP ⊢; rcases hP with rfl | rfl | rfl | rfl <;> simp)
                          clear hst h12
                          go_wp2_with fail
                          go_roundw
                          case rel => exact ⟨j + 1, by omega, by go_num, h13⟩
                          case measure => simp [intOf]; omega
                      · have hjli : ¬ (j : Int) < (LL : Int) := by omega
                        clear hjl
                        go_wp2_with fail
                        go_roundw
                        case rel => exact ⟨k + 1, m2, Y2, b9, q9, E2, by omega, by have := HC.out.2; omega, by go_num, by go_num, HV2, hst.pop⟩
                        case measure => simp [intOf]; omega
                  · skip
                    go_wp2_with (refine wpList_load_mid rfl 24 (.tmp 12) rfl g12 0 rfl [.slice b12 Z.sec.length q12, .int .i64 Z.left, .int .i64 Z.tear, .bool Z.stopped] _ (h8.is 0 rfl : IsCells _ _ _).range Try.underlying24 rfl rfl ?_)
                    refine (restart_s h8 (d := Z) XY.out (h8.get 1 rfl)).mono ?_
                    rintro e w9 ⟨b9, q9, rfl, h9⟩
                    clear h8
                    have h10 := (h9.setRow (os1 := []) (cs' := dkA b9 q9 Y2)).facts (fs' := [(IsDk · (dkS b9 q9 Y2) Y2), (IsLists · (.slice lb N lq) l), (IsPrs · (.slice (some ⟨gp, op, none⟩) P pq) pl)]) (fun P hP => by simp only [List.mem_cons, List.not_mem_nil, or_false] at hP ⊢; rcases hP with rfl | rfl | rfl <;> simp)
                    go_upto_region 16 with (refine wpList_store_row rfl 24 (.tmp 6) (.tmp 85) rfl g6 (dkA b9 q9 Y2) rfl rfl 24 _ (h9.at_ 0 rfl) disk_info rfl (one4 rfl _ _ _) ?_)
                    clear h9
                    generalize World.setRow _ _ _ = W10 at h10 ⊢
                    go_wp2_with (refine wpList_load_row rfl 24 (.tmp 6) rfl g6 rfl 24 _ (0, 0) _ (h10.at_ 0 rfl) Try.underlying24 rfl disk_info ?_)
                    refine (read_s h10 (d := Y2) (f := 0) (m := 64) HV2.out.is (by omega) (by omega) (h10.is 0 rfl)).mono ?_
                    rintro e w11 ⟨b11, q11, rfl, h11⟩
                    clear h10
                    rw [HLL.out.1] at h11 ⊢
                    obtain ⟨A, hA1⟩ : ∃ A, m * N = A := ⟨_, rfl⟩
                    obtain ⟨B, hB1⟩ : ∃ B, (m + 1) * N = B := ⟨_, rfl⟩
                    have hAB : B = A + N := by rw [← hA1, ← hB1, Nat.succ_mul]
                    have hA2 : A ≤ 1200 := by rw [← hA1]; exact Nat.le_trans (Nat.mul_le_mul (show m ≤ 6 by omega) hn200) (by omega)
                    have HAB := Lib.hid (And.intro hA1 (And.intro hB1 (show A ≤ 1200 ∧ B ≤ 1400 by omega)))
                    obtain rfl : LL = A := by rw [← HLL.out.2, hmm, hA1]
                    have y1 : ((LL : Int) != (LL : Int)) = false := by simp
                    have y2 : ((LL : Int) == (LL : Int)) = true := by simp
                    have y3 : ((LL : Int) != (B : Int)) = true := bne_of (by omega)
                    clear hA1 hB1 hAB hA2
                    have e1 : IntKind.i64.wrap ((m : Int) * (N : Int)) = (LL : Int) := by rw [IntKind.wrap_i64, ← Int.natCast_mul, HAB.out.1]; have := HAB.out.2.2; omega
                    have e2 : IntKind.i64.wrap ((m : Int) + 1) = (m : Int) + 1 := by rw [IntKind.wrap_i64]; omega
                    have e3 : IntKind.i64.wrap (((m : Int) + 1) * (N : Int)) = (B : Int) := by rw [show ((m : Int) + 1) * (N : Int) = (((m + 1) * N : Nat) : Int) by rw [Int.natCast_mul]; rfl, HAB.out.2.1, IntKind.wrap_i64]; have := HAB.out.2.2; omega
                    have e4 : (LL : Int).tdiv (N : Int) = (m2 : Int) := by rw [← HLL.out.2, Int.natCast_mul]; exact Int.mul_tdiv_cancel _ (by omega)
                    have e6 : (LL : Int) / (N : Int) = (m2 : Int) := by rw [← HLL.out.2, Int.natCast_mul]; exact Int.mul_ediv_cancel _ (by omega)
                    have e5 : IntKind.i64.wrap (m2 : Int) = (m2 : Int) := by rw [IntKind.wrap_i64]; omega
                    go_wp2_with fail
                    clear e1 e2 e3 e4 e5 e6 y1 y2 y3
                    go_loopw [16] (fun jv wr => ∃ j : Nat, j ≤ LL ∧ jv = .int .i64 j ∧ St w wr [(g6, dkB b9 q9 Y2)] [(IsLists · (.slice b11 LL q11) (rep m2 l)), (IsDk · (dkS b9 q9 Y2) Y2), (IsLists · (.slice lb N lq) l), (IsPrs · (.slice (some ⟨gp, op, none⟩) P pq) pl)]) (fun jv _ => LL - (intOf jv).toNat)
                    case atStart => exact ⟨0, by omega, rfl, h11⟩
                    case round =>
                      clear h11
                      obtain ⟨j, hj, rfl, hst⟩ := hrel
                      by_cases hjl : j < LL
                      · have hjli : (j : Int) < (LL : Int) := by omega
                        have hj2 : j < (rep m2 l).length := by rw [HLL.out.1]; exact hjl
                        have hmod : j % N < N := Nat.mod_lt _ (by omega)
                        have hj3 : j % N < l.length := by rw [HN.out]; exact hmod
                        obtain ⟨_, _, ee, -, -, -, hat⟩ := (hst.get 0 rfl : IsLists _ _ _).out
                        rw [HLL.out.1] at ee
                        cases ee
                        obtain ⟨ga, oa, ua, rfl, xa, ya⟩ := hat j hj2
                        obtain ⟨_, _, ee, -, -, -, hat2⟩ := (hst.get 2 rfl : IsLists _ _ _).out
                        rw [HN.out] at ee
                        cases ee
                        obtain ⟨gc, oc, uc, rfl, xc, yc⟩ := hat2 (j % N) hj3
                        have hrg := rep_get (r := l) (by rw [HN.out]; omega) m2 j hj2
                        have hrg2 : (rep m2 l)[j] = l[j % N]'hj3 := by rw [hrg]; simp only [HN.out]
                        rw [hrg2] at ya
                        obtain ⟨R, hR⟩ : ∃ R, l[j % N]'hj3 = R := ⟨_, rfl⟩
                        rw [hR] at ya yc
                        have hjm : (j : Int).tmod (N : Int) = ((j % N : Nat) : Int) := (Int.ofNat_tmod j N).symm
                        have hjb : j ≤ 1200 := by have h1 := HLL.out.2; have h2 : m2 * N ≤ 6 * 200 := Nat.mul_le_mul hm26 hn200; omega
                        obtain ⟨jm, hjmm⟩ : ∃ x, j % N = x := ⟨_, rfl⟩
                        rw [hjmm] at xc hmod hjm
                        have hwm : IntKind.i64.wrap (jm : Int) = (jm : Int) := by rw [IntKind.wrap_i64]; omega
                        have h12 := (((hst.put (P := fun x => x.cell? ⟨ga, oa + j, none⟩ = some ua) (Mono.cell _ _) xa).put (P := (IsBytes · ua R)) (Mono.bytes _ _) ya).put (P := fun x => x.cell? ⟨gc, oc + jm, none⟩ = some uc) (Mono.cell _ _) xc).put (P := (IsBytes · uc R)) (Mono.bytes _ _) yc
                        clear hat hat2 hrg hrg2 hR hjmm xa ya xc yc
                        go_upto_region 23 with fail
                        refine wp_region_st [pVal ?c23y2_0, pVal ?c23y2_1, pVal ?c23y2_2, pVal (ua), pVal (.string ⟨R.toArray⟩), pVal ?c23y2_5, pVal ?c23y2_6, pVal ?c23y2_7, pVal ?c23y2_8, pVal (.int .i64 (jm : Int)), pVal ?c23y2_10, pVal (uc), pVal (.string ⟨R.toArray⟩), pVal (.bool false)] (osC [(g6, dkB b9 q9 Y2)]) 151 [0, 0, 3, 7, 15, 0, 0, 0, 128, 448, 992, 2016, 4064, 8191] [[], [], [(1, 137), (0, 136)], [(2, 138)], [(3, 139)], [], [], [], [(7, 143)], [(8, 144), (6, 142)], [(9, 145), (5, 141)], [(10, 146)], [(11, 147)], [(12, 148), (4, 140)]] [(0, 136), (1, 137), (2, 138), (3, 139), (4, 140), (5, 141), (6, 142), (7, 143), (8, 144), (9, 145), (10, 146), (11, 147), (12, 148), (13, 149)] (by kernel_rfl) (by kernel_rfl) rfl rfl h12 osC0 osC1 ?ob ?en
                        case ob =>
                          refine ⟨?_, ?_, ?_, ?_, ?_, ?_, ?_, ?_, ?_, ?_, ?_, ?_, ?_, ?_, trivial⟩
                          · -- 0: t136 := Op.move (t14)
                            intro zx1 zx2 zx3 zx4 L V W hL hd hw hst 
                            refine ob_c rfl ?_ hst rfl
                            go_simp
                            try with_reducible rfl
                          · -- 1: t137 := Op.move (t16)
                            intro zx1 zx2 zx3 zx4 L V W hL hd hw hst 
                            refine ob_c rfl ?_ hst rfl
                            go_simp
                            try with_reducible rfl
                          · -- 2: t138 := Op.indexAddr 22 (t136) (t137)
                            intro zx1 zx2 zx3 zx4 L V W hL hd hw hst u0 e0 p0 u1 e1 p1
                            obtain rfl : u0 = _ := p0
                            obtain rfl : u1 = _ := p1
                            refine ob_c rfl ?_ hst rfl
                            go_simp
                            try with_reducible rfl
                          · -- 3: t139 := Op.load 42 (t138)
                            intro zx1 zx2 zx3 zx4 L V W hL hd hw hst u2 e2 p2
                            obtain rfl : u2 = _ := p2
                            have hz := mask_is _ _ _ _ (hst.base 3 rfl : World.cell? _ _ = some _)
                            refine ob_c (by first | rfl | (simp [wantE, dstOf, zx1]; done)) ?_ hst rfl
                            go_simp
                            try with_reducible rfl
                          · -- 4: t140 := Op.convert 42 9 (t139)
                            intro zx1 zx2 zx3 zx4 L V W hL hd hw hst u3 e3 p3
                            obtain rfl : u3 = _ := p3
                            exact ob_c (by first | rfl | (simp [wantE, dstOf, zx1]; done)) (run_cv_op rfl rfl (bytesStr ((hst.base 2 rfl : IsBytes _ _ _).sub (mask_is _ _)))) hst rfl
                          · -- 5: t141 := Op.move (t0)
                            intro zx1 zx2 zx3 zx4 L V W hL hd hw hst 
                            refine ob_c rfl ?_ hst rfl
                            go_simp
                            try with_reducible rfl
                          · -- 6: t142 := Op.move (t16)
                            intro zx1 zx2 zx3 zx4 L V W hL hd hw hst 
                            refine ob_c rfl ?_ hst rfl
                            go_simp
                            try with_reducible rfl
                          · -- 7: t143 := Op.move (t0)
                            intro zx1 zx2 zx3 zx4 L V W hL hd hw hst 
                            refine ob_c rfl ?_ hst rfl
                            go_simp
                            try with_reducible rfl
                          · -- 8: t144 := Op.call { callee := builtin Builtin.len, args := #[t143], argTypes := #[22] }
                            intro zx1 zx2 zx3 zx4 L V W hL hd hw hst u7 e7 p7
                            obtain rfl : u7 = _ := p7
                            refine ob_c rfl ?_ hst rfl
                            go_simp
                            try with_reducible rfl
                          · -- 9: t145 := Op.binOp BinOp.rem 3 (t142) (t144) 3
                            intro zx1 zx2 zx3 zx4 L V W hL hd hw hst u6 e6 p6 u8 e8 p8
                            obtain rfl : u6 = _ := p6
                            obtain rfl : u8 = _ := p8
                            refine ob_c (by first | rfl | (simp [wantE, dstOf, zx1]; done)) ?_ hst rfl
                            go_simp
                            all_goals (skip)
                          · -- 10: t146 := Op.indexAddr 22 (t141) (t145)
                            intro zx1 zx2 zx3 zx4 L V W hL hd hw hst u5 e5 p5 u9 e9 p9
                            obtain rfl : u5 = _ := p5
                            obtain rfl : u9 = _ := p9
                            refine ob_c rfl ?_ hst rfl
                            go_simp
                            try with_reducible rfl
                          · -- 11: t147 := Op.load 42 (t146)
                            intro zx1 zx2 zx3 zx4 L V W hL hd hw hst u10 e10 p10
                            obtain rfl : u10 = _ := p10
                            have hz := mask_is _ _ _ _ (hst.base 1 rfl : World.cell? _ _ = some _)
                            refine ob_c (by first | rfl | (simp [wantE, dstOf, zx1]; done)) ?_ hst rfl
                            go_simp
                            try with_reducible rfl
                          · -- 12: t148 := Op.convert 42 9 (t147)
                            intro zx1 zx2 zx3 zx4 L V W hL hd hw hst u11 e11 p11
                            obtain rfl : u11 = _ := p11
                            exact ob_c (by first | rfl | (simp [wantE, dstOf, zx1]; done)) (run_cv_op rfl rfl (bytesStr ((hst.base 0 rfl : IsBytes _ _ _).sub (mask_is _ _)))) hst rfl
                          · -- 13: t149 := Op.binOp BinOp.neq 9 (t140) (t148) 9
                            intro zx1 zx2 zx3 zx4 L V W hL hd hw hst u4 e4 p4 u12 e12 p12
                            obtain rfl : u4 = _ := p4
                            obtain rfl : u12 = _ := p12
                            refine ob_c (by first | rfl | (simp [wantE, dstOf, zx1]; done)) ?_ hst rfl
                            go_simp
                            all_goals (skip)
                        case en =>
                          intro V W hst u0 e0 p0 u1 e1 p1 u2 e2 p2 u3 e3 p3 u4 e4 p4 u5 e5 p5 u6 e6 p6 u7 e7 p7 u8 e8 p8 u9 e9 p9 u10 e10 p10 u11 e11 p11 u12 e12 p12 u13 e13 p13
                          obtain rfl : u0 = _ := p0
                          obtain rfl : u1 = _ := p1
                          obtain rfl : u2 = _ := p2
                          obtain rfl : u3 = _ := p3
                          obtain rfl : u4 = _ := p4
                          obtain rfl : u5 = _ := p5
                          obtain rfl : u6 = _ := p6
                          obtain rfl : u7 = _ := p7
                          obtain rfl : u8 = _ := p8
                          obtain rfl : u9 = _ := p9
                          obtain rfl : u10 = _ := p10
                          obtain rfl : u11 = _ := p11
                          obtain rfl : u12 = _ := p12
                          obtain rfl : u13 = _ := p13
                          simp only [EndAll, Act.put, List.getElem_toArray, List.getElem_cons_succ, List.getElem_cons_zero, List.setIfInBounds_toArray, List.set_cons_zero, List.set_cons_succ]
                          have h13 := hst.facts (fs' := [(IsLists · (.slice (some ⟨ga, oa, none⟩) LL q11) (rep m2 l)), (IsDk · (dkS b9 q9 Y2) Y2), (IsLists · (.slice (some ⟨gc, oc, none⟩) N lq) l), (IsPrs · (.slice (some ⟨gp, op, none⟩) P pq) pl)]) (fun P hP => by simp only [List.mem_cons, List.not_mem_nil, or_false] at hP ⊢; rcases hP with rfl | rfl | rfl | rfl <;> simp)
                          clear hst h12
                          go_wp2_with fail
                          go_roundw
                          case rel => exact ⟨j + 1, by omega, by go_num, h13⟩
                          case measure => simp [intOf]; omega
                      · have hjli : ¬ (j : Int) < (LL : Int) := by omega
                        clear hjl
                        go_wp2_with fail
                        go_roundw
                        case rel => exact ⟨k + 1, m2, Y2, b9, q9, E2, by omega, by have := HC.out.2; omega, by go_num, by go_num, HV2, hst.pop⟩
                        case measure => simp [intOf]; omega
              · have n1 : (c != 0) = true := bne_of (fun h => hc (.inl h))
                have n2 : (c != 300) = true := bne_of (fun h => hc (.inr h))
                have hb := h8.below
                go_wp2_with fail
                go_ret
                exact ⟨rfl, hb⟩
          · have hlti : ¬ (k : Int) < (P : Int) := by omega
            have hb := hst.below
            clear hst hlt
            go_wp2_with fail
            go_ret
            exact ⟨rfl, hb⟩
end Go.Proofs.Ytnfgapdpnihicaa
