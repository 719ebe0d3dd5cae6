/- The walk over asofref31.Sectors. -/
import Derived.Test.YtnfgapdpnihicaaZRa31
import Derived.Test.YtnfgapdpnihicaaZGB
set_option linter.unusedVariables false
set_option linter.unusedSimpArgs false
namespace Go.Proofs.Ytnfgapdpnihicaa
open Go Go.RowKit
open Wl
theorem content_sum {rs : List (List UInt8)} {N : Nat} (hN : rs.length = N) : ∃ T : Nat → Nat, T 0 = 0 ∧ (∀ k (h : k < rs.length), T (k + 1) = T k + (rs[k]).length + (Wire.encU (rs[k]).length).length) ∧ T N + (Wire.encU N).length = (content rs).length ∧ ∀ k, k ≤ N → T k ≤ (content rs).length := by
  refine ⟨fun k => ((rs.take k).flatMap Wire.encT).length, by simp, fun k h => ?_, ?_, fun k hk => ?_⟩
  · simp only
    rw [flat_take h, List.length_append]
    unfold Wire.encT
    rw [List.length_append]
    omega
  · unfold content
    simp only
    rw [hN, ← hN, List.take_length, List.length_append]
    omega
  · unfold content
    simp only [List.length_append]
    have h1 : rs.flatMap Wire.encT = (rs.take k).flatMap Wire.encT ++ (rs.drop k).flatMap Wire.encT := by rw [← List.flatMap_append, List.take_append_drop]
    rw [h1, List.length_append]
    omega

set_option maxRecDepth 8000 in
set_option maxHeartbeats 4000000 in
theorem refSectors_any (w : World) (rv : Value) (rs : List (List UInt8)) (hv : IsLists w rv rs) (hn : rs.length ≤ 1048576) (hr : ∀ r ∈ rs, r.length ≤ 1048576) :
    Calls Try.prog 25 #[rv] w fun e w' => e = .returned (.int .i64 (needs (stream rs).length : Int)) ∧ Below w.heap.size w w' := by
  obtain ⟨base, cap, rfl, hl1, hcap, -, -⟩ := hv.out
  obtain ⟨N, hN⟩ : ∃ N, rs.length = N := ⟨_, rfl⟩
  obtain ⟨T, q0, q1, q2, q3⟩ := content_sum hN
  have hcl := content_len hn hr
  have hss := stream_size rs
  obtain ⟨C, hC⟩ : ∃ C, (content rs).length = C := ⟨_, rfl⟩
  obtain ⟨SL, hSL⟩ : ∃ C, (stream rs).length = C := ⟨_, rfl⟩
  rw [hC] at q2 q3 hcl hss
  rw [hSL] at hss ⊢
  rw [hN] at hv hn ⊢
  have h0 := (St.start w).putOld (P := (IsLists · (.slice base N cap) rs)) (Mono.lists _ _) hv
  have HN := Lib.hid hN
  have HR := Lib.hid hr
  have HP := Lib.hid (And.intro q0 (And.intro q1 (And.intro q2 (And.intro q3 hss))))
  have hs64 : (N : Int) < 18446744073709551616 := by omega
  clear hv hN hr q0 q1 q2 q3 hl1 hC hSL hss
  go_enter Try.func25, Try.ntmps25
  go_wp2_with fail
  go_loopw [3, 4] (fun nv iv wr => ∃ k : Nat, k ≤ N ∧ nv = .int .i64 (T k) ∧ iv = .int .i64 k ∧ St w wr [] [(IsLists · (.slice base N cap) rs)]) (fun _ iv _ => N - (intOf iv).toNat)
  case atStart => exact ⟨0, by omega, by rw [HP.out.1]; rfl, rfl, h0⟩
  case round =>
    clear h0
    obtain ⟨k, hk, rfl, rfl, hst⟩ := hrel
    have htk := HP.out.2.2.2.1 k hk
    obtain ⟨tk, htkk⟩ : ∃ t, T k = t := ⟨_, rfl⟩
    rw [htkk] at htk ⊢
    have HT := Lib.hid htkk
    clear htkk
    by_cases hlt : k < N
    · have hlti : (k : Int) < (N : Int) := by omega
      have hki : ¬ (N : Int) ≤ (k : Int) := by omega
      have hkl : k < rs.length := by rw [HN.out]; exact hlt
      obtain ⟨_, _, e, -, -, -, hat⟩ := (hst.is 0 rfl : IsLists _ _ _).out
      rw [HN.out] at e
      cases e
      obtain ⟨gb, off, u, rfl, hcell, hu⟩ := hat k hkl
      obtain ⟨ub, uc, rfl, -⟩ := hu.out
      have hs := HP.out.2.1 k hkl
      have hrk := HR.out _ (List.getElem_mem hkl)
      have htk1 := HP.out.2.2.2.1 (k + 1) (by omega)
      obtain ⟨m, hm⟩ : ∃ m, (rs[k]).length = m := ⟨_, rfl⟩
      rw [hm] at hcell hrk hs
      rw [HT.out] at hs
      have he10 := Wire.encU_len10 (n := m) (by omega)
      have hm64 : (m : Int) < 18446744073709551616 := by omega
      obtain ⟨Q, hQ⟩ : ∃ Q, tk + m = Q := ⟨_, rfl⟩
      obtain ⟨R, hR⟩ : ∃ R, T (k + 1) = R := ⟨_, rfl⟩
      rw [hR] at hs
      have hw12 : IntKind.u64.wrap (m : Int) = (m : Int) := by rw [IntKind.wrap_u64]; omega
      have hw6 : IntKind.i64.wrap ((tk : Int) + (m : Int)) = (Q : Int) := by rw [IntKind.wrap_i64]; omega
      have hw15 : IntKind.i64.wrap ((Q : Int) + ((Wire.encU m).length : Int)) = (R : Int) := by rw [IntKind.wrap_i64]; omega
      have HQ := Lib.hid (And.intro hQ hR)
      clear hs hm hQ hR hu hat
      go_upto_region 5 with fail
      have h2 := hst.keep (P := fun x => x.cell? ⟨gb, off + k, none⟩ = some (.slice ub m uc)) (Mono.cell _ _) hcell
      clear hst hcell
      refine wp_region_st [pVal ?c5_0, pVal ?c5_1, pVal ?c5_2, pVal (.pointer (some ⟨gb, off + k, none⟩)), pVal (.slice ub m uc), pVal ?c5_5, pVal (.int .i64 Q), pVal ?c5_7, pVal ?c5_8, pVal (.pointer (some ⟨gb, off + k, none⟩)), pVal (.slice ub m uc), pVal ?c5_11, pVal (.int .u64 m), pBytes (Wire.encU m), pVal (.int .i64 (Wire.encU m).length), pVal (.int .i64 R), pVal ?c5_16] (osC []) 42 [0, 0, 0, 6, 14, 30, 63, 0, 0, 384, 896, 1920, 3968, 8064, 16256, 32767, 65535] [[], [], [], [(2, 13), (1, 12)], [(3, 14)], [(4, 15)], [(5, 16), (0, 11)], [], [], [(8, 19), (7, 18)], [(9, 20)], [(10, 21)], [(11, 22)], [(12, 23)], [(13, 24)], [(14, 25), (6, 17)], [(15, 26)]] [(0, 11), (1, 12), (2, 13), (3, 14), (4, 15), (5, 16), (6, 17), (7, 18), (8, 19), (9, 20), (10, 21), (11, 22), (12, 23), (13, 24), (14, 25), (15, 26), (16, 3)] (by kernel_rfl) (by kernel_rfl) rfl rfl h2 osC0 osC1 ?ob ?en
      case ob =>
        refine ⟨?_, ?_, ?_, ?_, ?_, ?_, ?_, ?_, ?_, ?_, ?_, ?_, ?_, ?_, ?_, ?_, ?_, trivial⟩
        · -- 0: t11 := Op.move (t3)
          intro zx1 zx2 zx3 zx4 L V W hL hd hw hst 
          refine ob_c rfl ?_ hst rfl
          go_simp
          try with_reducible rfl
        · -- 1: t12 := Op.move (t0)
          intro zx1 zx2 zx3 zx4 L V W hL hd hw hst 
          refine ob_c rfl ?_ hst rfl
          go_simp
          try with_reducible rfl
        · -- 2: t13 := Op.move (t4)
          intro zx1 zx2 zx3 zx4 L V W hL hd hw hst 
          refine ob_c rfl ?_ hst rfl
          go_simp
          try with_reducible rfl
        · -- 3: t14 := Op.indexAddr 22 (t12) (t13)
          intro zx1 zx2 zx3 zx4 L V W hL hd hw hst u1 e1 p1 u2 e2 p2
          obtain rfl : u1 = _ := p1
          obtain rfl : u2 = _ := p2
          refine ob_c (by first | rfl | (simp [wantE, dstOf, zx1]; done)) ?_ hst rfl
          go_simp
          all_goals (exact fun h => absurd h (by omega))
        · -- 4: t15 := Op.load 42 (t14)
          intro zx1 zx2 zx3 zx4 L V W hL hd hw hst u3 e3 p3
          obtain rfl : u3 = _ := p3
          have hz := mask_is _ _ _ _ (hst.base 0 rfl : World.cell? _ _ = some _)
          refine ob_c (by first | rfl | (simp [wantE, dstOf, zx1]; done)) ?_ hst rfl
          go_simp
          try with_reducible rfl
        · -- 5: t16 := Op.call { callee := builtin Builtin.len, args := #[t15], argTypes := #[42] }
          intro zx1 zx2 zx3 zx4 L V W hL hd hw hst u4 e4 p4
          obtain rfl : u4 = _ := p4
          refine ob_c rfl ?_ hst rfl
          go_simp
          try with_reducible rfl
        · -- 6: t17 := Op.binOp BinOp.add 3 (t11) (t16) 3
          intro zx1 zx2 zx3 zx4 L V W hL hd hw hst u0 e0 p0 u5 e5 p5
          obtain rfl : u0 = _ := p0
          obtain rfl : u5 = _ := p5
          refine ob_c (by first | rfl | (simp [wantE, dstOf, zx1]; done)) ?_ hst rfl
          go_simp
          try rw [hw6]
        · -- 7: t18 := Op.move (t0)
          intro zx1 zx2 zx3 zx4 L V W hL hd hw hst 
          refine ob_c rfl ?_ hst rfl
          go_simp
          try with_reducible rfl
        · -- 8: t19 := Op.move (t4)
          intro zx1 zx2 zx3 zx4 L V W hL hd hw hst 
          refine ob_c rfl ?_ hst rfl
          go_simp
          try with_reducible rfl
        · -- 9: t20 := Op.indexAddr 22 (t18) (t19)
          intro zx1 zx2 zx3 zx4 L V W hL hd hw hst u7 e7 p7 u8 e8 p8
          obtain rfl : u7 = _ := p7
          obtain rfl : u8 = _ := p8
          refine ob_c (by first | rfl | (simp [wantE, dstOf, zx1]; done)) ?_ hst rfl
          go_simp
          all_goals (exact fun h => absurd h (by omega))
        · -- 10: t21 := Op.load 42 (t20)
          intro zx1 zx2 zx3 zx4 L V W hL hd hw hst u9 e9 p9
          obtain rfl : u9 = _ := p9
          have hz := mask_is _ _ _ _ (hst.base 0 rfl : World.cell? _ _ = some _)
          refine ob_c (by first | rfl | (simp [wantE, dstOf, zx1]; done)) ?_ hst rfl
          go_simp
          try with_reducible rfl
        · -- 11: t22 := Op.call { callee := builtin Builtin.len, args := #[t21], argTypes := #[42] }
          intro zx1 zx2 zx3 zx4 L V W hL hd hw hst u10 e10 p10
          obtain rfl : u10 = _ := p10
          refine ob_c rfl ?_ hst rfl
          go_simp
          try with_reducible rfl
        · -- 12: t23 := Op.convert 3 53 (t22)
          intro zx1 zx2 zx3 zx4 L V W hL hd hw hst u11 e11 p11
          obtain rfl : u11 = _ := p11
          refine ob_c (by first | rfl | (simp [wantE, dstOf, zx1]; done)) ?_ hst rfl
          go_simp
          try rw [hw12]
        · -- 13: t24 := Op.call { callee := value (func 52), args := #[t23], argTypes := #[53] }
          intro zx1 zx2 zx3 zx4 L V W hL hd hw hst u12 e12 p12
          obtain rfl : u12 = _ := p12
          refine ob_call (by first | rfl | (simp [wantE, dstOf, zx1]; done)) ?_ (Calls.pB hst (refUint_any _ m (by omega)))
          go_simp
          try rfl
        · -- 14: t25 := Op.call { callee := builtin Builtin.len, args := #[t24], argTypes := #[42] }
          intro zx1 zx2 zx3 zx4 L V W hL hd hw hst u13 e13 p13
          obtain ⟨bE, qE, rfl, kE⟩ := p13
          refine ob_c rfl ?_ hst rfl
          go_simp
          try with_reducible rfl
        · -- 15: t26 := Op.binOp BinOp.add 3 (t17) (t25) 3
          intro zx1 zx2 zx3 zx4 L V W hL hd hw hst u6 e6 p6 u14 e14 p14
          obtain rfl : u6 = _ := p6
          obtain rfl : u14 = _ := p14
          refine ob_c (by first | rfl | (simp [wantE, dstOf, zx1]; done)) ?_ hst rfl
          go_simp
          try rw [hw15]
        · -- 16: t3 := Op.assign (t26)
          intro zx1 zx2 zx3 zx4 L V W hL hd hw hst u15 e15 p15
          obtain rfl : u15 = _ := p15
          refine ob_c rfl ?_ hst rfl
          go_simp
          try with_reducible rfl
      case en =>
        intro V W hst u0 e0 p0 u1 e1 p1 u2 e2 p2 u3 e3 p3 u4 e4 p4 u5 e5 p5 u6 e6 p6 u7 e7 p7 u8 e8 p8 u9 e9 p9 u10 e10 p10 u11 e11 p11 u12 e12 p12 u13 e13 p13 u14 e14 p14 u15 e15 p15 u16 e16 p16
        obtain rfl : u0 = _ := p0
        obtain rfl : u1 = _ := p1
        obtain rfl : u2 = _ := p2
        obtain rfl : u3 = _ := p3
        obtain rfl : u4 = _ := p4
        obtain rfl : u5 = _ := p5
        obtain rfl : u6 = _ := p6
        obtain rfl : u7 = _ := p7
        obtain rfl : u8 = _ := p8
        obtain rfl : u9 = _ := p9
        obtain rfl : u10 = _ := p10
        obtain rfl : u11 = _ := p11
        obtain rfl : u12 = _ := p12
        obtain ⟨bE, qE, rfl, kE⟩ := p13
        obtain rfl : u14 = _ := p14
        obtain rfl : u15 = _ := p15
        obtain rfl : u16 = _ := p16
        simp only [EndAll, Act.put, List.getElem_toArray, List.getElem_cons_succ, List.getElem_cons_zero, List.setIfInBounds_toArray, List.set_cons_zero, List.set_cons_succ]
        have h3 := hst.pop
        clear hst h2
        go_wp2_with fail
        go_roundw
        case rel => exact ⟨k + 1, by omega, by rw [HQ.out.2], by go_num, h3⟩
        case measure => simp [intOf]; omega
    · obtain rfl : N = k := by omega
      have hlti : ¬ (N : Int) < (N : Int) := by omega
      obtain ⟨x1, x2⟩ : tk + (Wire.encU N).length = C ∧ SL = (Wire.encU C).length + C + 4 := by
        have h1 := HP.out.2.2.1
        rw [HT.out] at h1
        exact ⟨h1, HP.out.2.2.2.2⟩
      have he10 := Wire.encU_len10 (n := N) (by omega)
      have hec := Wire.encU_len10 (n := C) (by omega)
      go_wp2_with fail
      refine (Calls.sB hst (refUint_any _ N (by omega))).mono ?_
      rintro e w1 ⟨v1, rfl, h1⟩
      obtain ⟨bE, qE, rfl, -⟩ := (h1.is 0 rfl : IsBytes _ _ _).out
      clear hst
      obtain ⟨E1, hE1⟩ : ∃ E, (Wire.encU N).length = E := ⟨_, rfl⟩
      rw [hE1] at x1 he10 ⊢
      have hw33 : IntKind.i64.wrap ((tk : Int) + (E1 : Int)) = (C : Int) := by rw [IntKind.wrap_i64]; omega
      have hc64 : (C : Int) < 18446744073709551616 := by omega
      have X1 := Lib.hid x1
      clear x1 hE1
      go_wp2_with fail
      refine (Calls.sB h1 (refUint_any _ C (by omega))).mono ?_
      rintro e w2 ⟨v2, rfl, h2⟩
      obtain ⟨bF, qF, rfl, -⟩ := (h2.is 0 rfl : IsBytes _ _ _).out
      clear h1
      obtain ⟨E2, hE2⟩ : ∃ E, (Wire.encU C).length = E := ⟨_, rfl⟩
      rw [hE2] at x2 hec ⊢
      have hw39 : IntKind.i64.wrap ((C : Int) + (E2 : Int)) = ((C + E2 : Nat) : Int) := by rw [IntKind.wrap_i64]; omega
      have hw40 : IntKind.i64.wrap (((C + E2 : Nat) : Int) + 4) = (SL : Int) := by rw [IntKind.wrap_i64]; omega
      have X2 := Lib.hid x2
      have hsl : SL ≤ 4611686018427387904 := by omega
      clear x2 hE2
      obtain ⟨CE, hCE⟩ : ∃ x, C + E2 = x := ⟨_, rfl⟩
      rw [hCE] at hw39 hw40
      have HCE := Lib.hid hCE
      clear hCE
      go_wp2_with fail
      refine (Calls.sV' h2 (refNeeds_any _ SL hsl)).mono ?_
      rintro e w3 ⟨rfl, h3⟩
      clear h2
      go_wp2_with fail
      go_ret
      exact ⟨rfl, h3.below⟩
end Go.Proofs.Ytnfgapdpnihicaa
