/- The walk over WalBatches. -/
import Derived.Test.YtnfgapdpnihicaaZEx31
import Derived.Test.YtnfgapdpnihicaaZGH
import Derived.Deep.CutRange
set_option linter.unusedVariables false
set_option linter.unusedSimpArgs false
namespace Go.Proofs.Ytnfgapdpnihicaa
open Go Go.RowKit

theorem ok_secs {d : Dk} (h : d.Ok) : ∀ s ∈ d.sec, s.length ≤ 140737488355328 := fun s hs => by
  obtain ⟨i, hi, rfl⟩ := List.mem_iff_getElem.1 hs
  rw [h.size i hi]
  omega
theorem IsLists.upto {w : World} {b : Option Addr} {n q : Nat} {l : List (List UInt8)} (h : IsLists w (.slice b n q) l) (hn : l.length = n) (k : Nat) (hk : k ≤ n) : IsLists w (.slice b k q) (l.take k) := by
  subst hn
  obtain ⟨xs, hr, he⟩ := elems_of h
  obtain ⟨_, _, e, hcap, -⟩ := h.out
  cases e
  have h1 := hr.part 0 k q (by omega) hk (by omega) (Nat.le_refl _)
  have e1 : b.map (fun x => x.add 0) = b := by cases b <;> simp [Addr.add]
  rw [Nat.zero_mul, e1, ite_self, List.drop_zero, Nat.sub_zero, Nat.sub_zero] at h1
  exact lists_of h1 (he.take k hk) (by rw [List.length_take]; omega)
theorem IsLists.from_ {w : World} {b : Option Addr} {n q : Nat} {l : List (List UInt8)} (h : IsLists w (.slice b n q) l) (hn : l.length = n) (k : Nat) (hk : k ≤ n) : IsLists w (.slice (if q = k then b else b.map (·.add k)) (n - k) (q - k)) (l.drop k) := by
  subst hn
  obtain ⟨xs, hr, he⟩ := elems_of h
  obtain ⟨_, _, e, hcap, -⟩ := h.out
  cases e
  have h1 := hr.part k l.length q hk (Nat.le_refl _) hcap (Nat.le_refl _)
  rw [Nat.mul_one, Nat.mul_one, List.take_of_length_le (by have := he.1; omega)] at h1
  have h2 := he.drop k hk
  rw [Nat.mul_one] at h2
  exact lists_of h1 h2 (by rw [List.length_drop])

set_option maxRecDepth 8000 in
set_option maxHeartbeats 8000000 in
theorem batches_walk (w : World) (v : Value) (l : List (List UInt8)) (hv : IsLists w v l) (hsz : ∀ r ∈ l, r.length ≤ 140737488351232) (cut : Int) (hcut : -9223372036854775808 ≤ cut ∧ cut ≤ 9223372036854775807) :
    Calls Try.prog 9 #[v, .int .i64 cut] w fun e w' => e = .returned (.bool true) ∧ Below w.heap.size w w' := by
  obtain ⟨lb, lq, rfl, hq1, hq2, -, -⟩ := id hv.out
  unfold maxLen at hq2
  obtain ⟨N, hN⟩ : ∃ N, l.length = N := ⟨_, rfl⟩
  rw [hN] at hv hq1 ⊢
  have HN := Lib.hid hN
  have HSZ := Lib.hid hsz
  have h0 := (St.start w).putOld (P := (IsLists · (.slice lb N lq) l)) (Mono.lists _ _) hv
  clear hv hsz hN
  go_enter Try.func9, Try.ntmps9
  go_wp2_with fail
  refine (Calls.sV h0 (example_any _)).mono ?_
  rintro e w1 ⟨rfl, h1⟩
  clear h0
  obtain ⟨D0, hD0⟩ : ∃ D, Dk.made 100 = D := ⟨_, rfl⟩
  have hok0 := (dk_made_ok 100 (by omega) (by omega)).1
  rw [hD0] at hok0
  have XD := Lib.hid hD0
  have XO := Lib.hid hok0
  clear hD0 hok0
  go_wp2_with fail
  refine (empty_s h1 100 10 80 (by omega) (by omega) (by omega) (by omega) XD.out).mono ?_
  rintro e w2 ⟨b0, q0, rfl, h2⟩
  clear h1
  go_upto_region 3 with (refine wpList_store_row rfl 24 (.tmp 6) (.tmp 20) rfl w2.heap.size (dkA b0 q0 D0) rfl rfl 24 _ (heap_alloc_new _ _) disk_info rfl (one4 rfl _ _ _) ?_)
  have h3 := (h2.newVar #[.slice none 0 0, .int .i64 0, .int .i64 0, .bool false] (dkA b0 q0 D0) 24).shut
  clear h2
  generalize World.setRow _ _ _ = W3 at h3 ⊢
  generalize w2.heap.size = g6 at h3 ⊢
  obtain ⟨r, hr⟩ : ∃ r, smallB D0 l = r := ⟨_, rfl⟩
  obtain ⟨c0, c1, c2, c3⟩ := (h3.is 0 rfl : IsCells _ _ _).c4
  go_wp2_with fail
  refine (small_s h3 hr (h3.is 1 rfl) (h3.is 2 rfl)).mono ?_
  rintro e w4 ⟨rfl, h4⟩
  clear h3 c0 c1 c2 c3
  cases r with
  | false =>
    clear hr
    go_wp2_with fail
    go_ret
    exact ⟨rfl, h4.below⟩
  | true =>
    obtain ⟨-, hn200, -, hall⟩ := smallB_use hr (ok_secs XO.out) (fun r h => Nat.le_trans (HSZ.out r h) (by omega))
    rw [HN.out] at hn200
    have HA := Lib.hid (fun r h => Nat.le_trans (hall r h) (show 40000 ≤ 1048576 by omega))
    clear hr hall
    by_cases hN0 : N = 0
    · subst hN0
      go_wp2_with fail
      go_ret
      exact ⟨rfl, h4.below⟩
    · have hNb : ((N : Int) == 0) = false := beq_of (by omega)
      have hNl := Int.tmod_lt_of_pos cut (show (0 : Int) < N by omega)
      have hNg := Int.lt_tmod_of_pos cut (show (0 : Int) < N by omega)
      obtain ⟨c, hc⟩ : ∃ c, cut.tmod (N : Int) = c := ⟨_, rfl⟩
      rw [hc] at hNl hNg
      have hwc : IntKind.i64.wrap c = c := by rw [IntKind.wrap_i64]; omega
      go_upto_if 44 with fail
      go_cut [8] from 44 to 48 (fun kv wr => ∃ k : Nat, k < N ∧ kv = .int .i64 k ∧ St w wr [] [IsCells g6 (dkA b0 q0 D0), (IsDk · (dkS b0 q0 D0) D0), (IsLists · (.slice lb N lq) l)])
      case first =>
        by_cases hneg : c < 0
        · obtain ⟨k, hk⟩ : ∃ k : Nat, c + (N : Int) = k := ⟨(c + N).toNat, by omega⟩
          have hwk : IntKind.i64.wrap (c + (N : Int)) = (k : Int) := by rw [IntKind.wrap_i64]; omega
          go_wp2_with fail
          go_meet
          case rel => exact ⟨k, by omega, (by first | rfl | rw [hwk] | simp [hwc, hwk]), h4⟩
        · obtain ⟨k, rfl⟩ : ∃ k : Nat, c = k := ⟨c.toNat, by omega⟩
          go_wp2_with fail
          go_meet
          case rel => exact ⟨k, by omega, by go_num, h4⟩
      case rest =>
      clear h4 hNl hNg hwc
      obtain ⟨k, hkN, rfl, h4⟩ := hcut
      obtain ⟨⟨D1, c1⟩, hap1⟩ : ∃ r, D0.app 10 80 l = r := ⟨_, rfl⟩
      obtain ⟨⟨D2, c2⟩, hap2⟩ : ∃ r, D0.app 10 80 (l.take k) = r := ⟨_, rfl⟩
      obtain ⟨⟨D3, c3⟩, hap3⟩ : ∃ r : Dk × Int, (c2 = 0 ∧ D2.app 10 80 (l.drop k) = r) ∨ (c2 ≠ 0 ∧ r = (D2, c2)) := by
        by_cases h : c2 = 0
        · exact ⟨_, .inl ⟨h, rfl⟩⟩
        · exact ⟨_, .inr ⟨h, rfl⟩⟩
      have hpl := batches_plain (l := l) (k := k) (by rw [HN.out]; omega) HA.out (fun h => hN0 (by rw [← HN.out, h]; rfl)) (XD.out.symm ▸ hap1) (XD.out.symm ▸ hap2) (by
        rcases hap3 with ⟨a, b⟩ | ⟨a, b⟩
        · exact .inl ⟨a, b⟩
        · cases b; exact .inr ⟨a, rfl, rfl⟩)
      have HP := Lib.hid hpl
      have X1 := Lib.hid hap1
      have X2 := Lib.hid hap2
      have X3 := Lib.hid hap3
      have hl1 : l.length ≤ 1048576 := by rw [HN.out]; omega
      have hl2 : (l.take k).length ≤ 1048576 := by rw [List.length_take]; omega
      have hl3 : (l.drop k).length ≤ 1048576 := by rw [List.length_drop]; omega
      have HL := Lib.hid (And.intro hl1 (And.intro hl2 hl3))
      have HA2 := Lib.hid (fun r (h : r ∈ l.take k) => HA.out r (List.mem_of_mem_take h))
      have HA3 := Lib.hid (fun r (h : r ∈ l.drop k) => HA.out r (List.mem_of_mem_drop h))
      clear hpl hap1 hap2 hap3 hl1 hl2 hl3
      go_wp2_with (refine wpList_load_mid rfl 24 (.tmp 6) rfl g6 0 rfl [.slice b0 D0.sec.length q0, .int .i64 D0.left, .int .i64 D0.tear, .bool D0.stopped] _ (h4.is 0 rfl : IsCells _ _ _).range Try.underlying24 rfl rfl ?_)
      refine (app_s h4 (d := D0) (f := 10) (m := 80) X1.out (by omega) (by omega) (h4.get 1 rfl) (h4.is 2 rfl) HL.out.1 HA.out).mono ?_
      rintro e w5 ⟨b1, q1, rfl, h5⟩
      clear h4
      go_upto_region 9 with (refine wpList_store_row rfl 24 (.tmp 9) (.tmp 53) rfl w5.heap.size (dkA b1 q1 D1) rfl rfl 24 _ (heap_alloc_new _ _) disk_info rfl (one4 rfl _ _ _) ?_)
      have h6 := (h5.newVar #[.slice none 0 0, .int .i64 0, .int .i64 0, .bool false] (dkA b1 q1 D1) 24).shut
      clear h5
      generalize World.setRow _ _ _ = W6 at h6 ⊢
      generalize w5.heap.size = g9 at h6 ⊢
      have i1 : (k : Int) ≤ (lq : Int) := by omega
      have i2 : (0 : Int) ≤ (k : Int) := by omega
      have i3 : (k : Int) ≤ (N : Int) := by omega
      refine wp_region_st [pVal (dkS b0 q0 D0), pVal ?c9_1, pVal ?c9_2, pVal (.slice lb k lq), pDkT D2 c2, pDkT D2 c2, pDk D2, pVal (.int .i64 c2), pPtr, pAny, pVal ?c9_10] (osN 8 9 6 24 (.cells #[.slice none 0 0, .int .i64 0, .int .i64 0, .bool false] 24 (0, 0)) []) 121 [0, 0, 0, 6, 15, 31, 63, 63, 0, 383, 1023] [[], [], [], [(2, 58), (1, 57)], [(3, 59), (0, 56)], [(4, 60)], [(5, 55)], [(5, 55)], [], [(6, 61), (8, 11)], [(7, 62)]] [(0, 56), (1, 57), (2, 58), (3, 59), (4, 60), (5, 55), (6, 61), (7, 62), (8, 11), (10, 12)] (by kernel_rfl) (by kernel_rfl) rfl rfl h6 osN0 (osN1 (by decide) (by decide)) ?ob ?en
      case ob =>
        refine ⟨?_, ?_, ?_, ?_, ?_, ?_, ?_, ?_, ?_, ?_, ?_, trivial⟩
        · -- 0: t56 := Op.load 24 (t6)
          intro zx1 zx2 zx3 zx4 L V W hL hd hw hst 
          exact ob_c (by first | rfl | (simp [wantE, dstOf, zx1]; done)) (run_load_mid rfl rfl ((hst.base 2 rfl : IsCells _ _ _) |> Mono.cells _ _ _ _ (mask_is _ _) |>.range) Try.underlying24 rfl rfl) hst rfl
        · -- 1: t57 := Op.move (t0)
          intro zx1 zx2 zx3 zx4 L V W hL hd hw hst 
          refine ob_c rfl ?_ hst rfl
          go_simp
          try with_reducible rfl
        · -- 2: t58 := Op.move (t8)
          intro zx1 zx2 zx3 zx4 L V W hL hd hw hst 
          refine ob_c rfl ?_ hst rfl
          go_simp
          try with_reducible rfl
        · -- 3: t59 := Op.slice 22 (t57) none (some (t58)) none
          intro zx1 zx2 zx3 zx4 L V W hL hd hw hst u1 e1 p1 u2 e2 p2
          obtain rfl : u1 = _ := p1
          obtain rfl : u2 = _ := p2
          refine ob_c (by first | rfl | (simp [wantE, dstOf, zx1]; done)) ?_ hst rfl
          go_simp
          all_goals (exact fun h => absurd h (by omega))
        · -- 4: t60 := Op.call { callee := value (func 21), args := #[t56, const (int IntKind.i64 10), const (int IntKind.i64 80), t59], argTypes := #[24, 3, 3, 22] }
          intro zx1 zx2 zx3 zx4 L V W hL hd hw hst u0 e0 p0 u3 e3 p3
          obtain rfl : u0 = _ := p0
          obtain rfl : u3 = _ := p3
          refine ob_call (by first | rfl | (simp [wantE, dstOf, zx1]; done)) ?_ (app_p hst (d := D0) (f := 10) (m := 80) X2.out (by omega) (by omega) (hst.base 3 rfl) (((hst.base 4 rfl : IsLists _ _ _).sub (mask_is _ _)).upto HN.out k (by omega)) HL.out.2.1 HA2.out)
          go_simp
          try rfl
        · -- 5: t55 := Op.move (t60)
          intro zx1 zx2 zx3 zx4 L V W hL hd hw hst u4 e4 p4
          refine ob_v u4 rfl ?_ hst rfl p4
          go_simp
        · -- 6: t61 := Op.extract (t55) 0
          intro zx1 zx2 zx3 zx4 L V W hL hd hw hst u5 e5 p5
          obtain ⟨bm, qm, rfl, kmm⟩ := p5
          refine ob_v (dkS bm qm D2) rfl ?_ hst (osN_keep (hw 9 rfl (by decide)) (by decide) (by decide)) ⟨bm, qm, rfl, kmm⟩
          go_simp
        · -- 7: t62 := Op.extract (t55) 1
          intro zx1 zx2 zx3 zx4 L V W hL hd hw hst u5 e5 p5
          obtain ⟨bm, qm, rfl, kmm⟩ := p5
          refine ob_c rfl ?_ hst rfl
          go_simp
          try with_reducible rfl
        · -- 8: t11 := Op.alloc 24
          intro zx1 zx2 zx3 zx4 L V W hL hd hw hst 
          exact ob_new _ rfl rfl dk_zero_var rfl (by decide) hL (hw 9 rfl (by decide)) rfl hst
        · -- 9: tNone := Op.store 24 (t11) (t61)
          intro zx1 zx2 zx3 zx4 L V W hL hd hw hst u8 e8 p8 u6 e6 p6
          obtain ⟨g8, rfl⟩ := p8
          obtain ⟨bx9, qx9, rfl, kx⟩ := p6
          exact ob_put (ia := 8) (k := 6) (z := .agg #[.slice none 0 0, .int .i64 0, .int .i64 0, .bool false]) rfl rfl rfl rfl e8 e6 rfl (by decide) (by decide) (hd 8 rfl) hL rfl disk_info (one4 rfl _ _ _) hst
        · -- 10: t12 := Op.assign (t62)
          intro zx1 zx2 zx3 zx4 L V W hL hd hw hst u7 e7 p7
          obtain rfl : u7 = _ := p7
          refine ob_c rfl ?_ hst rfl
          go_simp
          try with_reducible rfl
      case en =>
        intro V W hst u0 e0 p0 u1 e1 p1 u2 e2 p2 u3 e3 p3 u4 e4 p4 u5 e5 p5 u6 e6 p6 u7 e7 p7 u8 e8 p8 u10 e10 p10
        obtain rfl : u0 = _ := p0
        obtain rfl : u1 = _ := p1
        obtain rfl : u2 = _ := p2
        obtain rfl : u3 = _ := p3
        obtain ⟨ba, qa, rfl, ka⟩ := p4
        obtain ⟨bm, qm, rfl, kmm⟩ := p5
        obtain ⟨bx9, qx9, rfl, kx⟩ := p6
        obtain rfl : u7 = _ := p7
        obtain ⟨g8, rfl⟩ := p8
        obtain rfl : u10 = _ := p10
        simp only [EndAll, Act.put, List.getElem_toArray, List.getElem_cons_succ, List.getElem_cons_zero, List.setIfInBounds_toArray, List.set_cons_zero, List.set_cons_succ]
        have h7 := hst.put (Mono.dk _ _) kx
        rw [osN_end e8 e6] at h7
        clear hst kx kmm ka
        go_upto_if 64 with fail
        go_cut [12] from 64 to 72 (fun cv wr => ∃ (b3 : Option Addr) (q3 : Nat), cv = .int .i64 c3 ∧ St w wr [(g8, dkB b3 q3 D3)] [(IsDk · (dkS b3 q3 D3) D3), IsCells g9 (dkA b1 q1 D1), (IsDk · (dkS b1 q1 D1) D1), (IsLists · (.slice lb N lq) l)])
        case first =>
          rcases X3.out with ⟨hc2, hap3⟩ | ⟨hc2, he⟩
          · subst hc2
            have X3X := Lib.hid hap3
            clear hap3
            go_upto_region 11 with fail
            refine wp_region_st [pVal (dkS bx9 qx9 D2), pVal ?c11_1, pVal ?c11_2, pVal (.slice (if lq = k then lb else lb.map (·.add k)) (N - k) (lq - k)), pDkT D3 c3, pDkT D3 c3, pDk D3, pVal (.int .i64 c3), pAny, pVal ?c11_9] (osS 8 6 24 g8 (.cells #[.slice bx9 D2.sec.length qx9, .int .i64 D2.left, .int .i64 D2.tear, .bool D2.stopped] 24 (0, 0)) [] []) 121 [0, 0, 0, 6, 15, 31, 63, 63, 127, 511] [[], [], [], [(2, 68), (1, 67)], [(3, 69), (0, 66)], [(4, 70)], [(5, 65)], [(5, 65)], [(6, 71)], [(7, 72)]] [(0, 66), (1, 67), (2, 68), (3, 69), (4, 70), (5, 65), (6, 71), (7, 72), (9, 12)] (by kernel_rfl) (by kernel_rfl) rfl rfl h7 osS0 (osS1 (by decide)) ?ob ?en
            case ob =>
              refine ⟨?_, ?_, ?_, ?_, ?_, ?_, ?_, ?_, ?_, ?_, trivial⟩
              · -- 0: t66 := Op.load 24 (t11)
                intro zx1 zx2 zx3 zx4 L V W hL hd hw hst 
                refine ob_c (by first | rfl | (simp [wantE, dstOf, zx1]; done)) ?_ hst (osS_keep (hw 8 rfl (by decide)) (by decide))
                have hg := hst.find (g := g8) (o := dkB bx9 qx9 D2) (by rw [osS_old (hw 8 rfl (by decide))]; simp)
                exact run_load_own rfl rfl hg Try.underlying24 rfl disk_info
              · -- 1: t67 := Op.move (t0)
                intro zx1 zx2 zx3 zx4 L V W hL hd hw hst 
                refine ob_c (by first | rfl | (simp [wantE, dstOf, zx1]; done)) ?_ hst (osS_keep (hw 8 rfl (by decide)) (by decide))
                go_simp
                try with_reducible rfl
              · -- 2: t68 := Op.move (t8)
                intro zx1 zx2 zx3 zx4 L V W hL hd hw hst 
                refine ob_c (by first | rfl | (simp [wantE, dstOf, zx1]; done)) ?_ hst (osS_keep (hw 8 rfl (by decide)) (by decide))
                go_simp
                try with_reducible rfl
              · -- 3: t69 := Op.slice 22 (t67) (some (t68)) none none
                intro zx1 zx2 zx3 zx4 L V W hL hd hw hst u1 e1 p1 u2 e2 p2
                obtain rfl : u1 = _ := p1
                obtain rfl : u2 = _ := p2
                refine ob_c (by first | rfl | (simp [wantE, dstOf, zx1]; done)) ?_ hst (osS_keep (hw 8 rfl (by decide)) (by decide))
                go_simp
                all_goals (exact fun h => absurd (h (by omega)) (by omega))
              · -- 4: t70 := Op.call { callee := value (func 21), args := #[t66, const (int IntKind.i64 10), const (int IntKind.i64 80), t69], argTypes := #[24, 3, 3, 22] }
                intro zx1 zx2 zx3 zx4 L V W hL hd hw hst u0 e0 p0 u3 e3 p3
                obtain rfl : u0 = _ := p0
                obtain rfl : u3 = _ := p3
                refine ob_call (by first | rfl | (simp [wantE, dstOf, zx1]; done)) ?_ (app_p hst (d := D2) (f := 10) (m := 80) X3X.out (by omega) (by omega) (hst.base 0 rfl) (((hst.base 5 rfl : IsLists _ _ _).sub (mask_is _ _)).from_ HN.out k (by omega)) HL.out.2.2 HA3.out)
                go_simp
                try rfl
              · -- 5: t65 := Op.move (t70)
                intro zx1 zx2 zx3 zx4 L V W hL hd hw hst u4 e4 p4
                refine ob_v u4 rfl ?_ hst (osS_keep (hw 8 rfl (by decide)) (by decide)) p4
                go_simp
              · -- 6: t71 := Op.extract (t65) 0
                intro zx1 zx2 zx3 zx4 L V W hL hd hw hst u5 e5 p5
                obtain ⟨bm, qm, rfl, kmm⟩ := p5
                refine ob_v (dkS bm qm D3) rfl ?_ hst (osS_keep (hw 8 rfl (by decide)) (by decide)) ⟨bm, qm, rfl, kmm⟩
                go_simp
              · -- 7: t72 := Op.extract (t65) 1
                intro zx1 zx2 zx3 zx4 L V W hL hd hw hst u5 e5 p5
                obtain ⟨bm, qm, rfl, kmm⟩ := p5
                refine ob_c rfl ?_ hst rfl
                go_simp
                try with_reducible rfl
              · -- 8: tNone := Op.store 24 (t11) (t71)
                intro zx1 zx2 zx3 zx4 L V W hL hd hw hst u6 e6 p6
                obtain ⟨bx11, qx11, rfl, kx⟩ := p6
                exact ob_set (k := 6) (g := g8) rfl rfl rfl rfl e6 rfl (by decide) hL rfl disk_info (one4 rfl _ _ _) hst
              · -- 9: t12 := Op.assign (t72)
                intro zx1 zx2 zx3 zx4 L V W hL hd hw hst u7 e7 p7
                obtain rfl : u7 = _ := p7
                refine ob_c rfl ?_ hst rfl
                go_simp
                try with_reducible rfl
            case en =>
              intro V W hst u0 e0 p0 u1 e1 p1 u2 e2 p2 u3 e3 p3 u4 e4 p4 u5 e5 p5 u6 e6 p6 u7 e7 p7 u9 e9 p9
              obtain rfl : u0 = _ := p0
              obtain rfl : u1 = _ := p1
              obtain rfl : u2 = _ := p2
              obtain rfl : u3 = _ := p3
              obtain ⟨ba, qa, rfl, ka⟩ := p4
              obtain ⟨bm, qm, rfl, kmm⟩ := p5
              obtain ⟨bx11, qx11, rfl, kx⟩ := p6
              obtain rfl : u7 = _ := p7
              obtain rfl : u9 = _ := p9
              simp only [EndAll, Act.put, List.getElem_toArray, List.getElem_cons_succ, List.getElem_cons_zero, List.setIfInBounds_toArray, List.set_cons_zero, List.set_cons_succ]
              have h8a := hst.put (Mono.dk _ _) kx
              rw [osS_end e6] at h8a
              clear hst kx kmm ka
              have h8 := h8a.facts (fs' := [(IsDk · (dkS bx11 qx11 D3) D3), IsCells g9 (dkA b1 q1 D1), (IsDk · (dkS b1 q1 D1) D1), (IsLists · (.slice lb N lq) l)]) (fun P hP => by simp only [List.mem_cons, List.not_mem_nil, or_false] at hP ⊢; rcases hP with rfl | rfl | rfl | rfl <;> simp)
              go_wp2_with fail
              go_meet
              case rel => exact ⟨bx11, qx11, rfl, h8⟩
          · cases he
            have hb := beq_of hc2
            have h8 := h7.facts (fs' := [(IsDk · (dkS bx9 qx9 D2) D2), IsCells g9 (dkA b1 q1 D1), (IsDk · (dkS b1 q1 D1) D1), (IsLists · (.slice lb N lq) l)]) (fun P hP => by simp only [List.mem_cons, List.not_mem_nil, or_false] at hP ⊢; rcases hP with rfl | rfl | rfl | rfl <;> simp)
            go_wp2_with fail
            go_meet
            case rel => exact ⟨bx9, qx9, rfl, h8⟩
        case rest =>
        obtain ⟨b3, q3, rfl, h8⟩ := hcut
        clear h7 X3 X2 X1
        by_cases e1 : c1 = 0
        · subst e1
          by_cases e3 : c3 = 0
          · subst e3
            obtain ⟨E1, E3, s1, s3⟩ := HP.out.2 rfl rfl
            have S1 := Lib.hid s1
            have S3 := Lib.hid s3
            have h9 := h8.shut
            clear s1 s3 h8 HP
            go_wp2_with (refine wpList_load_mid rfl 24 (.tmp 9) rfl g9 0 rfl [.slice b1 D1.sec.length q1, .int .i64 D1.left, .int .i64 D1.tear, .bool D1.stopped] _ (h9.is 2 rfl : IsCells _ _ _).range Try.underlying24 rfl rfl ?_)
            refine (read_s h9 (d := D1) (f := 10) (m := 80) S1.out (by omega) (by omega) (h9.is 3 rfl)).mono ?_
            rintro e w10 ⟨b10, q10, rfl, h10⟩
            rw [HN.out] at h10 ⊢
            clear h9
            go_wp2_with (refine wpList_load_mid rfl 24 (.tmp 11) rfl g8 0 rfl [.slice b3 D3.sec.length q3, .int .i64 D3.left, .int .i64 D3.tear, .bool D3.stopped] _ (h10.is 1 rfl : IsCells _ _ _).range Try.underlying24 rfl rfl ?_)
            refine (read_s h10 (d := D3) (f := 10) (m := 80) S3.out (by omega) (by omega) (h10.is 2 rfl)).mono ?_
            rintro e w11 ⟨b11, q11, rfl, h11⟩
            rw [HN.out] at h11 ⊢
            clear h10
            go_wp2_with fail
            refine (same_s h11 (a := l) (b := l) (decide_eq_true rfl) (h11.is 1 rfl) (h11.is 0 rfl)).mono ?_
            rintro e w12 ⟨rfl, h12⟩
            clear h11
            go_wp2_with fail
            refine (same_s h12 (a := l) (b := l) (decide_eq_true rfl) (h12.is 1 rfl) (h12.is 6 rfl)).mono ?_
            rintro e w13 ⟨rfl, h13⟩
            clear h12
            go_wp2_with fail
            go_ret
            exact ⟨rfl, h13.below⟩
          · have n3 := bne_of e3
            have n4 := beq_of e3
            have hb := h8.below
            clear HP h8
            go_wp2_with fail
            go_ret
            exact ⟨rfl, hb⟩
        · have n1 := bne_of e1
          have n2 := beq_of e1
          have hb := h8.below
          by_cases e3 : c3 = 0
          · obtain rfl : c1 = 310 := HP.out.1 e1 e3
            subst e3
            clear HP h8
            go_wp2_with fail
            go_ret
            exact ⟨rfl, hb⟩
          · have n3 := bne_of e3
            have n4 := beq_of e3
            clear HP h8
            go_wp2_with fail
            go_ret
            exact ⟨rfl, hb⟩
end Go.Proofs.Ytnfgapdpnihicaa
