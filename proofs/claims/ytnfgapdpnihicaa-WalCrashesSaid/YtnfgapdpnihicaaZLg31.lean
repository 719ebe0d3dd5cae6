/- The walk over WalRegions. -/
import Derived.Test.YtnfgapdpnihicaaZLt31
set_option linter.unusedVariables false
set_option linter.unusedSimpArgs false
namespace Go.Proofs.Ytnfgapdpnihicaa
open Go Go.RowKit

theorem bats_at {w : World} {b : Option Addr} {n q : Nat} {l : List (List (List UInt8))} (h : IsBats w (.slice b n q) l) (i : Nat) (hi : i < l.length) : ∃ g o u, b = some ⟨g, o, none⟩ ∧ w.cell? ⟨g, o + i, none⟩ = some u ∧ IsLists w u l[i] := by
  obtain ⟨g, o, cs, h1, h2, h3, u, h4, h5⟩ := IsSeq.at_ h (by omega) i hi
  subst h4
  have e0 := h3 0 (by omega)
  exact ⟨g, o, u, h1, by simpa using e0, h5⟩
theorem small_p {w0 W : World} {os : List (Nat × Obj)} {fs : List (World → Prop)} (h : St w0 W os fs) {v rv : Value} {d : Dk} {rs : List (List UInt8)} {r : Bool} (hr : smallB d rs = r) (hv : IsDk W v d) (hrs : IsLists W rv rs) :
    Calls Try.prog 13 #[v, rv] W fun e w' => ∃ v, e = .returned v ∧ St w0 w' os ((pVal (.bool r)).p v :: fs) :=
  (small_s h hr hv hrs).mono fun e w' ⟨he, hs⟩ => ⟨_, he, hs.put ((pVal _).mono _) rfl⟩
theorem joined_pp {w0 W : World} {os : List (Nat × Obj)} {fs : List (World → Prop)} (h : St w0 W os fs) {va vb : Value} {a b l : List (List UInt8)} (hl : a ++ b = l) (ha : IsLists (sm os W) va a) (hb : IsLists (sm os W) vb b) (hn : a.length + b.length ≤ 1099511627776) :
    Calls Try.prog 28 #[va, vb] W fun e w' => ∃ v, e = .returned v ∧ St w0 w' os ((pLs l).p v :: fs) := joined_p h hl ha hb hn

set_option maxRecDepth 8000 in
set_option maxHeartbeats 16000000 in
theorem regions_walk (w : World) (la : List (List (List UInt8))) (ab : Option Addr) (aq : Nat) (ha : IsBats w (.slice ab la.length aq) la) (hsa : ∀ a ∈ la, ∀ r ∈ a, r.length ≤ 140737488351232) (lb : List (List (List UInt8))) (bb : Option Addr) (bq : Nat) (hb : IsBats w (.slice bb lb.length bq) lb) (hsb : ∀ a ∈ lb, ∀ r ∈ a, r.length ≤ 140737488351232) :
    Calls Try.prog 10 #[.slice ab la.length aq, .slice bb lb.length bq] w fun e w' => e = .returned (.bool true) ∧ Below w.heap.size w w' := by
  obtain ⟨A, hA⟩ : ∃ N, la.length = N := ⟨_, rfl⟩
  obtain ⟨B, hB⟩ : ∃ N, lb.length = N := ⟨_, rfl⟩
  have hqa : A ≤ 9223372036854775807 := by
    obtain ⟨_, _, e, k1, k2, -⟩ := IsSeq.shape ha
    unfold maxLen at k2
    omega
  have hqb : B ≤ 9223372036854775807 := by
    obtain ⟨_, _, e, k1, k2, -⟩ := IsSeq.shape hb
    unfold maxLen at k2
    omega
  rw [hA] at ha ⊢
  rw [hB] at hb ⊢
  have HAL := Lib.hid hA
  have HBL := Lib.hid hB
  have HSA := Lib.hid hsa
  have HSB := Lib.hid hsb
  have h0 := ((St.start w).putOld (P := (IsBats · (.slice bb B bq) lb)) (Mono.seq rdLs_up _ _) hb).putOld (P := (IsBats · (.slice ab A aq) la)) (Mono.seq rdLs_up _ _) ha
  clear ha hb hsa hsb hA hB
  go_enter Try.func10, Try.ntmps10
  go_wp2_with fail
  refine (Calls.sV h0 (example_any _)).mono ?_
  rintro e w1 ⟨rfl, h1⟩
  clear h0
  obtain ⟨D0, hD0⟩ : ∃ D, Dk.made 80 = D := ⟨_, rfl⟩
  have htw := two_made
  have hfm := format_made (n := 80) (f := 40) (m := 40) (by omega) (by omega) (by omega) (by omega)
  rw [hD0] at htw hfm
  have XD := Lib.hid hD0
  have XT := Lib.hid htw
  have XF := Lib.hid hfm
  clear hD0 htw hfm
  go_wp2_with fail
  refine (empty_s h1 80 0 40 (by omega) (by omega) (by omega) (by omega) XD.out).mono ?_
  rintro e w2 ⟨b0, q0, rfl, h2⟩
  clear h1
  go_upto_region 3 with (refine wpList_store_row rfl 24 (.tmp 6) (.tmp 23) rfl w2.heap.size (dkA b0 q0 D0) rfl rfl 24 _ (heap_alloc_new _ _) disk_info rfl (one4 rfl _ _ _) ?_)
  have h3 := h2.newVar #[.slice none 0 0, .int .i64 0, .int .i64 0, .bool false] (dkA b0 q0 D0) 24
  clear h2
  generalize World.setRow _ _ _ = W3 at h3 ⊢
  generalize w2.heap.size = g6 at h3 ⊢
  by_cases ha10 : 10 < A
  · have i1 : (10 : Int) < (A : Int) := by omega
    go_wp2_with fail
    go_ret
    exact ⟨rfl, h3.below⟩
  have i1 : ¬ (10 : Int) < (A : Int) := by omega
  by_cases hb10 : 10 < B
  · have i2 : (10 : Int) < (B : Int) := by omega
    go_wp2_with fail
    go_ret
    exact ⟨rfl, h3.below⟩
  have i2 : ¬ (10 : Int) < (B : Int) := by omega
  go_wp2_with (refine wpList_load_row rfl 24 (.tmp 6) rfl g6 rfl 24 _ (0, 0) _ (h3.at_ 0 rfl) Try.underlying24 rfl disk_info ?_)
  refine (fmt_s h3 (d := D0) (f := 40) (m := 40) XF.out (by omega) (by omega) (h3.get 0 rfl)).mono ?_
  rintro e w4 ⟨b4, q4, rfl, h4⟩
  have h5 := (h4.setRow (os1 := []) (cs' := dkA b4 q4 D0)).facts (fs' := [(IsDk · (dkS b4 q4 D0) D0), (IsBats · (.slice ab A aq) la), (IsBats · (.slice bb B bq) lb)]) (fun P hP => by simp only [List.mem_cons, List.not_mem_nil, or_false] at hP ⊢; rcases hP with rfl | rfl | rfl <;> simp)
  go_upto_region 6 with (refine wpList_store_row rfl 24 (.tmp 6) (.tmp 44) rfl g6 (dkA b4 q4 D0) rfl rfl 24 _ (h4.at_ 0 rfl) disk_info rfl (one4 rfl _ _ _) ?_)
  clear h3 h4
  generalize World.setRow _ _ _ = W5 at h5 ⊢
  have h6 := ((h5.put (P := (IsLists · (.slice none 0 0) [])) (Mono.lists _ _) (lists_nil _)).put (P := (IsLists · (.slice none 0 0) [])) (Mono.lists _ _) (lists_nil _)).facts (fs' := [(IsDk · (dkS b4 q4 D0) D0), (IsLists · (.slice none 0 0) []), (IsLists · (.slice none 0 0) []), (IsBats · (.slice ab A aq) la), (IsBats · (.slice bb B bq) lb)]) (fun P hP => by simp only [List.mem_cons, List.not_mem_nil, or_false] at hP ⊢; rcases hP with rfl | rfl | rfl | rfl | rfl <;> simp)
  clear h5
  go_wp2_with fail
  go_loopw [9, 10, 11] (fun xv yv iv wr => ∃ (k : Nat) (D : Dk) (b : Option Addr) (q : Nat) (X : List (List UInt8)) (xb : Option Addr) (NX xq : Nat) (Y : List (List UInt8)) (yb : Option Addr) (NY yq : Nat), k ≤ 10 ∧ iv = .int .i64 k ∧ xv = .slice xb NX xq ∧ yv = .slice yb NY yq ∧ Hid (X.length = NX ∧ NX ≤ 200 * k ∧ Y.length = NY ∧ NY ≤ 200 * k) ∧ Hid (D.Two X Y) ∧ St w wr [(g6, dkB b q D)] [(IsDk · (dkS b q D) D), (IsLists · (.slice xb NX xq) X), (IsLists · (.slice yb NY yq) Y), (IsBats · (.slice ab A aq) la), (IsBats · (.slice bb B bq) lb)]) (fun _ _ iv _ => 10 - (intOf iv).toNat)
  case atStart => exact ⟨0, D0, b4, q4, [], none, 0, 0, [], none, 0, 0, by omega, rfl, rfl, rfl, Lib.hid ⟨rfl, by omega, rfl, by omega⟩, XT, h6⟩
  case round =>
    clear h6
    obtain ⟨k, D, b, q, X, xb, NX, xq, Y, yb, NY, yq, hk, rfl, rfl, rfl, HXY, HT, hst⟩ := hrel
    by_cases hlt : k < A ∨ k < B
    · have hk10 : k < 10 := by omega
      go_upto_region 10 with fail
      go_cut [57] from 48 to 56 (fun c wx => c = .bool true ∧ St w wx [(g6, dkB b q D)] [(IsDk · (dkS b q D) D), (IsLists · (.slice xb NX xq) X), (IsLists · (.slice yb NY yq) Y), (IsBats · (.slice ab A aq) la), (IsBats · (.slice bb B bq) lb)])
      case first =>
        by_cases hkA : k < A
        · have hkAi : (k : Int) < (A : Int) := by omega
          go_wp2_with fail
          go_meet
          case rel => exact ⟨rfl, hst⟩
        · have hkAi : ¬ (k : Int) < (A : Int) := by omega
          have hkBi : (k : Int) < (B : Int) := by omega
          go_wp2_with fail
          go_meet
          case rel => exact ⟨rfl, hst⟩
      case rest =>
      clear hst
      obtain ⟨rfl, hst⟩ := hcut
      go_upto_region 12 with fail
      go_cut [71] from 60 to 70 (fun c wx => ∃ r : Bool, c = .bool r ∧ Hid (r = true → ∃ h : k < la.length, smallB D la[k] = true) ∧ St w wx [(g6, dkB b q D)] [(IsDk · (dkS b q D) D), (IsLists · (.slice xb NX xq) X), (IsLists · (.slice yb NY yq) Y), (IsBats · (.slice ab A aq) la), (IsBats · (.slice bb B bq) lb)])
      case first =>
        by_cases hkA : k < A
        · have hkAi : (k : Int) < (A : Int) := by omega
          have hkl : k < la.length := by rw [HAL.out]; exact hkA
          obtain ⟨gA, oA, uA, rfl, xA, yA⟩ := bats_at (hst.get 3 rfl) k hkl
          obtain ⟨ub, uq, rfl⟩ := yA.shape
          obtain ⟨R, hR⟩ : ∃ R, la[k] = R := ⟨_, rfl⟩
          rw [hR] at xA yA
          obtain ⟨NR, hNR⟩ : ∃ n, R.length = n := ⟨_, rfl⟩
          rw [hNR] at xA yA
          obtain ⟨r, hr⟩ : ∃ r, smallB D R = r := ⟨_, rfl⟩
          have HR := Lib.hid hr
          have HLR := Lib.hid hR
          have h1 := (hst.put (P := fun x => x.cell? ⟨gA, oA + k, none⟩ = some (.slice ub NR uq)) (Mono.cell _ _) xA).put (P := (IsLists · (.slice ub NR uq) R)) (Mono.lists _ _) yA
          clear xA yA hr hR hNR hst
          refine wp_region_st [pVal ?c12a_0, pVal ?c12a_1, pVal ?c12a_2, pVal (.bool true), pVal (.bool true), pVal (dkS b q D), pVal ?c12a_6, pVal ?c12a_7, pVal (.pointer (some ⟨gA, oA + k, none⟩)), pVal (.slice ub NR uq), pVal (.bool r), pVal (.bool r)] (osC [(g6, dkB b q D)]) 149 [0, 0, 2, 7, 15, 31, 31, 31, 223, 479, 1023, 2047] [[], [], [(1, 61)], [(2, 62), (0, 60)], [(3, 63)], [(4, 64)], [(4, 64)], [(4, 64)], [(4, 64), (7, 67), (6, 66)], [(4, 64), (8, 68)], [(4, 64), (9, 69), (5, 65)], [(10, 70), (4, 64)]] [(0, 60), (1, 61), (2, 62), (3, 63), (4, 64), (5, 65), (6, 66), (7, 67), (8, 68), (9, 69), (10, 70), (11, 71)] (by kernel_rfl) (by kernel_rfl) rfl rfl h1 osC0 osC1 ?ob ?en
          case ob =>
            refine ⟨?_, ?_, ?_, ?_, ?_, ?_, ?_, ?_, ?_, ?_, ?_, ?_, trivial⟩
            · -- 0: t60 := Op.move (t11)
              intro zx1 zx2 zx3 zx4 L V W hL hd hw hst 
              refine ob_c rfl ?_ hst rfl
              go_simp
              try with_reducible rfl
            · -- 1: t61 := Op.move (t0)
              intro zx1 zx2 zx3 zx4 L V W hL hd hw hst 
              refine ob_c rfl ?_ hst rfl
              go_simp
              try with_reducible rfl
            · -- 2: t62 := Op.call { callee := builtin Builtin.len, args := #[t61], argTypes := #[40] }
              intro zx1 zx2 zx3 zx4 L V W hL hd hw hst u1 e1 p1
              obtain rfl : u1 = _ := p1
              refine ob_c rfl ?_ hst rfl
              go_simp
              try with_reducible rfl
            · -- 3: t63 := Op.binOp BinOp.lss 3 (t60) (t62) 3
              intro zx1 zx2 zx3 zx4 L V W hL hd hw hst u0 e0 p0 u2 e2 p2
              obtain rfl : u0 = _ := p0
              obtain rfl : u2 = _ := p2
              refine ob_c (by first | rfl | (simp [wantE, dstOf, zx1]; done)) ?_ hst rfl
              go_simp
              all_goals (skip)
            · -- 4: t64 := Op.move (t63)
              intro zx1 zx2 zx3 zx4 L V W hL hd hw hst u3 e3 p3
              obtain rfl : u3 = _ := p3
              refine ob_c (by first | rfl | (simp [wantE, dstOf, zx1]; done)) ?_ hst rfl
              go_simp
              all_goals (skip)
            · -- 5: t65 := Op.load 24 (t6)
              intro zx1 zx2 zx3 zx4 L V W hL hd hw hst u4 e4 p4
              obtain rfl : u4 = _ := p4
              refine ob_c (by first | rfl | (simp [wantE, dstOf, zx1]; done)) ?_ hst rfl
              have hg := hst.find (g := g6) (o := dkB b q D) (by simp [osC])
              exact run_load_own rfl rfl hg Try.underlying24 rfl disk_info
            · -- 6: t66 := Op.move (t0)
              intro zx1 zx2 zx3 zx4 L V W hL hd hw hst u4 e4 p4
              obtain rfl : u4 = _ := p4
              refine ob_c (by first | rfl | (simp [wantE, dstOf, zx1]; done)) ?_ hst rfl
              go_simp
              try with_reducible rfl
            · -- 7: t67 := Op.move (t11)
              intro zx1 zx2 zx3 zx4 L V W hL hd hw hst u4 e4 p4
              obtain rfl : u4 = _ := p4
              refine ob_c (by first | rfl | (simp [wantE, dstOf, zx1]; done)) ?_ hst rfl
              go_simp
              try with_reducible rfl
            · -- 8: t68 := Op.indexAddr 40 (t66) (t67)
              intro zx1 zx2 zx3 zx4 L V W hL hd hw hst u6 e6 p6 u7 e7 p7 u4 e4 p4
              obtain rfl : u6 = _ := p6
              obtain rfl : u7 = _ := p7
              obtain rfl : u4 = _ := p4
              refine ob_c (by first | rfl | (simp [wantE, dstOf, zx1]; done)) ?_ hst rfl
              go_simp
              all_goals (skip)
            · -- 9: t69 := Op.load 22 (t68)
              intro zx1 zx2 zx3 zx4 L V W hL hd hw hst u8 e8 p8 u4 e4 p4
              obtain rfl : u8 = _ := p8
              obtain rfl : u4 = _ := p4
              have hz := mask_is _ _ _ _ (hst.base 1 rfl : World.cell? _ _ = some _)
              refine ob_c (by first | rfl | (simp [wantE, dstOf, zx1]; done)) ?_ hst rfl
              go_simp
              try with_reducible rfl
            · -- 10: t70 := Op.call { callee := value (func 13), args := #[t65, t69], argTypes := #[24, 22] }
              intro zx1 zx2 zx3 zx4 L V W hL hd hw hst u5 e5 p5 u9 e9 p9 u4 e4 p4
              obtain rfl : u5 = _ := p5
              obtain rfl : u9 = _ := p9
              obtain rfl : u4 = _ := p4
              refine ob_call (by first | rfl | (simp [wantE, dstOf, zx1]; done)) ?_ (small_p hst HR.out ((hst.base 2 rfl : IsDk _ _ _).sub (mask_is _ _)) ((hst.base 0 rfl : IsLists _ _ _).sub (mask_is _ _)))
              go_simp
              try rfl
            · -- 11: t71 := Op.pick (t64) (t70) (const (bool false))
              intro zx1 zx2 zx3 zx4 L V W hL hd hw hst u4 e4 p4 u10 e10 p10
              obtain rfl : u4 = _ := p4
              obtain rfl : u10 = _ := p10
              refine ob_c (by first | rfl | (simp [wantE, dstOf, zx1]; done)) ?_ hst rfl
              go_simp
              all_goals (skip)
          case en =>
            intro V W hst u0 e0 p0 u1 e1 p1 u2 e2 p2 u3 e3 p3 u4 e4 p4 u5 e5 p5 u6 e6 p6 u7 e7 p7 u8 e8 p8 u9 e9 p9 u10 e10 p10 u11 e11 p11
            obtain rfl : u0 = _ := p0
            obtain rfl : u1 = _ := p1
            obtain rfl : u2 = _ := p2
            obtain rfl : u3 = _ := p3
            obtain rfl : u4 = _ := p4
            obtain rfl : u5 = _ := p5
            obtain rfl : u6 = _ := p6
            obtain rfl : u7 = _ := p7
            obtain rfl : u8 = _ := p8
            obtain rfl : u9 = _ := p9
            obtain rfl : u10 = _ := p10
            obtain rfl : u11 = _ := p11
            simp only [EndAll, Act.put, List.getElem_toArray, List.getElem_cons_succ, List.getElem_cons_zero, List.setIfInBounds_toArray, List.set_cons_zero, List.set_cons_succ]
            have h2 := hst.facts (fs' := [(IsDk · (dkS b q D) D), (IsLists · (.slice xb NX xq) X), (IsLists · (.slice yb NY yq) Y), (IsBats · (.slice (some ⟨gA, oA, none⟩) A aq) la), (IsBats · (.slice bb B bq) lb)]) (fun P hP => by simp only [List.mem_cons, List.not_mem_nil, or_false] at hP ⊢; rcases hP with rfl | rfl | rfl | rfl | rfl <;> simp)
            go_wp2_with fail
            go_meet
            case rel => exact ⟨r, rfl, Lib.hid (fun e => ⟨hkl, by rw [HLR.out, HR.out]; exact e⟩), h2⟩
        · have hkAi : ¬ (k : Int) < (A : Int) := by omega
          refine wp_region_st [pVal ?c12b_0, pVal ?c12b_1, pVal ?c12b_2, pVal (.bool false), pVal (.bool false), pVal ?c12b_5, pVal ?c12b_6, pVal ?c12b_7, pVal ?c12b_8, pVal ?c12b_9, pVal ?c12b_10, pVal (.bool false)] (osC [(g6, dkB b q D)]) 149 [0, 0, 2, 7, 15, 31, 31, 31, 223, 479, 1023, 2047] [[], [], [(1, 61)], [(2, 62), (0, 60)], [(3, 63)], [(4, 64)], [(4, 64)], [(4, 64)], [(4, 64), (7, 67), (6, 66)], [(4, 64), (8, 68)], [(4, 64), (9, 69), (5, 65)], [(10, 70), (4, 64)]] [(0, 60), (1, 61), (2, 62), (3, 63), (4, 64), (5, 65), (6, 66), (7, 67), (8, 68), (9, 69), (10, 70), (11, 71)] (by kernel_rfl) (by kernel_rfl) rfl rfl hst osC0 osC1 ?ob ?en
          case ob =>
            refine ⟨?_, ?_, ?_, ?_, ?_, ?_, ?_, ?_, ?_, ?_, ?_, ?_, trivial⟩
            · -- 0: t60 := Op.move (t11)
              intro zx1 zx2 zx3 zx4 L V W hL hd hw hst 
              refine ob_c rfl ?_ hst rfl
              go_simp
              try with_reducible rfl
            · -- 1: t61 := Op.move (t0)
              intro zx1 zx2 zx3 zx4 L V W hL hd hw hst 
              refine ob_c rfl ?_ hst rfl
              go_simp
              try with_reducible rfl
            · -- 2: t62 := Op.call { callee := builtin Builtin.len, args := #[t61], argTypes := #[40] }
              intro zx1 zx2 zx3 zx4 L V W hL hd hw hst u1 e1 p1
              obtain rfl : u1 = _ := p1
              refine ob_c rfl ?_ hst rfl
              go_simp
              try with_reducible rfl
            · -- 3: t63 := Op.binOp BinOp.lss 3 (t60) (t62) 3
              intro zx1 zx2 zx3 zx4 L V W hL hd hw hst u0 e0 p0 u2 e2 p2
              obtain rfl : u0 = _ := p0
              obtain rfl : u2 = _ := p2
              refine ob_c (by first | rfl | (simp [wantE, dstOf, zx1]; done)) ?_ hst rfl
              go_simp
              all_goals (skip)
            · -- 4: t64 := Op.move (t63)
              intro zx1 zx2 zx3 zx4 L V W hL hd hw hst u3 e3 p3
              obtain rfl : u3 = _ := p3
              refine ob_c (by first | rfl | (simp [wantE, dstOf, zx1]; done)) ?_ hst rfl
              go_simp
              all_goals (skip)
            · -- 5: t65 := Op.load 24 (t6)
              intro zx1 zx2 zx3 zx4 L V W hL hd hw hst u4 e4 p4
              obtain rfl : u4 = _ := p4
              refine ob_o ?_ hst ?_
              · first | rfl | (simp [wantE, dstOf, zx1]; done)
              · rfl
            · -- 6: t66 := Op.move (t0)
              intro zx1 zx2 zx3 zx4 L V W hL hd hw hst u4 e4 p4
              obtain rfl : u4 = _ := p4
              refine ob_o ?_ hst ?_
              · first | rfl | (simp [wantE, dstOf, zx1]; done)
              · rfl
            · -- 7: t67 := Op.move (t11)
              intro zx1 zx2 zx3 zx4 L V W hL hd hw hst u4 e4 p4
              obtain rfl : u4 = _ := p4
              refine ob_o ?_ hst ?_
              · first | rfl | (simp [wantE, dstOf, zx1]; done)
              · rfl
            · -- 8: t68 := Op.indexAddr 40 (t66) (t67)
              intro zx1 zx2 zx3 zx4 L V W hL hd hw hst u6 e6 p6 u7 e7 p7 u4 e4 p4
              obtain rfl : u6 = _ := p6
              obtain rfl : u7 = _ := p7
              obtain rfl : u4 = _ := p4
              refine ob_o ?_ hst ?_
              · first | rfl | (simp [wantE, dstOf, zx1]; done)
              · rfl
            · -- 9: t69 := Op.load 22 (t68)
              intro zx1 zx2 zx3 zx4 L V W hL hd hw hst u8 e8 p8 u4 e4 p4
              obtain rfl : u8 = _ := p8
              obtain rfl : u4 = _ := p4
              refine ob_o ?_ hst ?_
              · first | rfl | (simp [wantE, dstOf, zx1]; done)
              · rfl
            · -- 10: t70 := Op.call { callee := value (func 13), args := #[t65, t69], argTypes := #[24, 22] }
              intro zx1 zx2 zx3 zx4 L V W hL hd hw hst u5 e5 p5 u9 e9 p9 u4 e4 p4
              obtain rfl : u5 = _ := p5
              obtain rfl : u9 = _ := p9
              obtain rfl : u4 = _ := p4
              refine ob_o ?_ hst ?_
              · first | rfl | (simp [wantE, dstOf, zx1]; done)
              · rfl
            · -- 11: t71 := Op.pick (t64) (t70) (const (bool false))
              intro zx1 zx2 zx3 zx4 L V W hL hd hw hst u4 e4 p4 u10 e10 p10
              obtain rfl : u4 = _ := p4
              obtain rfl : u10 = _ := p10
              refine ob_c (by first | rfl | (simp [wantE, dstOf, zx1]; done)) ?_ hst rfl
              go_simp
              all_goals (skip)
          case en =>
            intro V W hst u0 e0 p0 u1 e1 p1 u2 e2 p2 u3 e3 p3 u4 e4 p4 u5 e5 p5 u6 e6 p6 u7 e7 p7 u8 e8 p8 u9 e9 p9 u10 e10 p10 u11 e11 p11
            obtain rfl : u0 = _ := p0
            obtain rfl : u1 = _ := p1
            obtain rfl : u2 = _ := p2
            obtain rfl : u3 = _ := p3
            obtain rfl : u4 = _ := p4
            obtain rfl : u5 = _ := p5
            obtain rfl : u6 = _ := p6
            obtain rfl : u7 = _ := p7
            obtain rfl : u8 = _ := p8
            obtain rfl : u9 = _ := p9
            obtain rfl : u10 = _ := p10
            obtain rfl : u11 = _ := p11
            simp only [EndAll, Act.put, List.getElem_toArray, List.getElem_cons_succ, List.getElem_cons_zero, List.setIfInBounds_toArray, List.set_cons_zero, List.set_cons_succ]
            go_wp2_with fail
            go_meet
            case rel => exact ⟨false, rfl, Lib.hid (fun e => by cases e), hst⟩
      case rest =>
      clear hst
      obtain ⟨r, rfl, HSM, hst⟩ := hcut
      go_upto_if 71 with fail
      go_cut [9] from 71 to 89 (fun xv wx => ∃ (D2 : Dk) (b2 : Option Addr) (q2 : Nat) (X2 : List (List UInt8)) (xb2 : Option Addr) (NX2 xq2 : Nat), xv = .slice xb2 NX2 xq2 ∧ Hid (X2.length = NX2 ∧ NX2 ≤ 200 * k + 200) ∧ Hid (D2.Two X2 Y) ∧ St w wx [(g6, dkB b2 q2 D2)] [(IsDk · (dkS b2 q2 D2) D2), (IsLists · (.slice xb2 NX2 xq2) X2), (IsLists · (.slice yb NY yq) Y), (IsBats · (.slice ab A aq) la), (IsBats · (.slice bb B bq) lb)])
      case first =>
        cases r with
        | false =>
          go_wp2_with fail
          go_meet
          case rel => exact ⟨D, b, q, X, xb, NX, xq, rfl, (Lib.hid ⟨HXY.out.1, by have := HXY.out.2.1; omega⟩ : Hid (X.length = NX ∧ NX ≤ 200 * k + 200)), HT, hst⟩
        | true =>
          obtain ⟨hkl, hsm⟩ := HSM.out rfl
          have hkA : k < A := by rw [← HAL.out]; exact hkl
          have hkAi : (k : Int) < (A : Int) := by omega
          obtain ⟨-, hn200, -, hall⟩ := smallB_use hsm (ok_secs HT.out.lo.choose_spec.reg.ok) (fun r h => Nat.le_trans (HSA.out _ (List.getElem_mem hkl) r h) (by omega))
          obtain ⟨gA, oA, uA, rfl, xA, yA⟩ := bats_at (hst.get 3 rfl) k hkl
          obtain ⟨ub, uq, rfl⟩ := yA.shape
          obtain ⟨R, hR⟩ : ∃ R, la[k] = R := ⟨_, rfl⟩
          rw [hR] at xA yA hn200 hall
          obtain ⟨NR, hNR⟩ : ∃ n, R.length = n := ⟨_, rfl⟩
          rw [hNR] at xA yA hn200
          obtain ⟨⟨Z, c⟩, hZ⟩ : ∃ r, D.app 0 40 R = r := ⟨_, rfl⟩
          have HZ := Lib.hid hZ
          have HNR := Lib.hid hNR
          have HAL2 := Lib.hid (fun r h => Nat.le_trans (hall r h) (show 40000 ≤ 1048576 by omega))
          have h1 := (hst.put (P := fun x => x.cell? ⟨gA, oA + k, none⟩ = some (.slice ub NR uq)) (Mono.cell _ _) xA).put (P := (IsLists · (.slice ub NR uq) R)) (Mono.lists _ _) yA
          clear xA yA hR hNR hst hsm hall hZ HSM
          go_upto_region 13 with fail
          refine wp_region_st [pVal (dkS b q D), pVal ?c13_1, pVal ?c13_2, pVal (.pointer (some ⟨gA, oA + k, none⟩)), pVal (.slice ub NR uq), pDkT Z c, pDkT Z c, pDk Z, pVal (.int .i64 c), pPtr, pAny, pVal ?c13_11] (osN 9 10 7 24 (.cells #[.slice none 0 0, .int .i64 0, .int .i64 0, .bool false] 24 (0, 0)) [(g6, dkB b q D)]) 149 [0, 0, 0, 6, 14, 31, 63, 127, 127, 0, 767, 2047] [[], [], [], [(2, 75), (1, 74)], [(3, 76)], [(4, 77), (0, 73)], [(5, 78)], [(6, 72)], [(6, 72)], [], [(7, 79), (9, 12)], [(8, 80)]] [(0, 73), (1, 74), (2, 75), (3, 76), (4, 77), (5, 78), (6, 72), (7, 79), (8, 80), (9, 12), (11, 13)] (by kernel_rfl) (by kernel_rfl) rfl rfl h1 osN0 (osN1 (by decide) (by decide)) ?ob ?en
          case ob =>
            refine ⟨?_, ?_, ?_, ?_, ?_, ?_, ?_, ?_, ?_, ?_, ?_, ?_, trivial⟩
            · -- 0: t73 := Op.load 24 (t6)
              intro zx1 zx2 zx3 zx4 L V W hL hd hw hst 
              refine ob_c (by first | rfl | (simp [wantE, dstOf, zx1]; done)) ?_ hst rfl
              have hg := hst.find (g := g6) (o := dkB b q D) (osN_mem (by simp) _ _)
              exact run_load_own rfl rfl hg Try.underlying24 rfl disk_info
            · -- 1: t74 := Op.move (t0)
              intro zx1 zx2 zx3 zx4 L V W hL hd hw hst 
              refine ob_c rfl ?_ hst rfl
              go_simp
              try with_reducible rfl
            · -- 2: t75 := Op.move (t11)
              intro zx1 zx2 zx3 zx4 L V W hL hd hw hst 
              refine ob_c rfl ?_ hst rfl
              go_simp
              try with_reducible rfl
            · -- 3: t76 := Op.indexAddr 40 (t74) (t75)
              intro zx1 zx2 zx3 zx4 L V W hL hd hw hst u1 e1 p1 u2 e2 p2
              obtain rfl : u1 = _ := p1
              obtain rfl : u2 = _ := p2
              refine ob_c (by first | rfl | (simp [wantE, dstOf, zx1]; done)) ?_ hst rfl
              go_simp
              all_goals (skip)
            · -- 4: t77 := Op.load 22 (t76)
              intro zx1 zx2 zx3 zx4 L V W hL hd hw hst u3 e3 p3
              obtain rfl : u3 = _ := p3
              have hz := mask_is _ _ _ _ (hst.base 1 rfl : World.cell? _ _ = some _)
              refine ob_c (by first | rfl | (simp [wantE, dstOf, zx1]; done)) ?_ hst rfl
              go_simp
              try with_reducible rfl
            · -- 5: t78 := Op.call { callee := value (func 21), args := #[t73, const (int IntKind.i64 0), const (int IntKind.i64 40), t77], argTypes := #[24, 3, 3, 22] }
              intro zx1 zx2 zx3 zx4 L V W hL hd hw hst u0 e0 p0 u4 e4 p4
              obtain rfl : u0 = _ := p0
              obtain rfl : u4 = _ := p4
              refine ob_call (by first | rfl | (simp [wantE, dstOf, zx1]; done)) ?_ (app_p hst (d := D) (f := 0) (m := 40) HZ.out (by omega) (by omega) (hst.base 2 rfl) ((hst.base 0 rfl : IsLists _ _ _).sub (mask_is _ _)) (by rw [HNR.out]; omega) HAL2.out)
              go_simp
              try rfl
            · -- 6: t72 := Op.move (t78)
              intro zx1 zx2 zx3 zx4 L V W hL hd hw hst u5 e5 p5
              refine ob_v u5 rfl ?_ hst rfl p5
              go_simp
            · -- 7: t79 := Op.extract (t72) 0
              intro zx1 zx2 zx3 zx4 L V W hL hd hw hst u6 e6 p6
              obtain ⟨bm, qm, rfl, kmm⟩ := p6
              refine ob_v (dkS bm qm Z) rfl ?_ hst (osN_keep (hw 10 rfl (by decide)) (by decide) (by decide)) ⟨bm, qm, rfl, kmm⟩
              go_simp
            · -- 8: t80 := Op.extract (t72) 1
              intro zx1 zx2 zx3 zx4 L V W hL hd hw hst u6 e6 p6
              obtain ⟨bm, qm, rfl, kmm⟩ := p6
              refine ob_c rfl ?_ hst rfl
              go_simp
              try with_reducible rfl
            · -- 9: t12 := Op.alloc 24
              intro zx1 zx2 zx3 zx4 L V W hL hd hw hst 
              exact ob_new _ rfl rfl dk_zero_var rfl (by decide) hL (hw 10 rfl (by decide)) rfl hst
            · -- 10: tNone := Op.store 24 (t12) (t79)
              intro zx1 zx2 zx3 zx4 L V W hL hd hw hst u9 e9 p9 u7 e7 p7
              obtain ⟨g9, rfl⟩ := p9
              obtain ⟨bx13, qx13, rfl, kx⟩ := p7
              exact ob_put (ia := 9) (k := 7) (z := .agg #[.slice none 0 0, .int .i64 0, .int .i64 0, .bool false]) rfl rfl rfl rfl e9 e7 rfl (by decide) (by decide) (hd 9 rfl) hL rfl disk_info (one4 rfl _ _ _) hst
            · -- 11: t13 := Op.assign (t80)
              intro zx1 zx2 zx3 zx4 L V W hL hd hw hst u8 e8 p8
              obtain rfl : u8 = _ := p8
              refine ob_c rfl ?_ hst rfl
              go_simp
              try with_reducible rfl
          case en =>
            intro V W hst u0 e0 p0 u1 e1 p1 u2 e2 p2 u3 e3 p3 u4 e4 p4 u5 e5 p5 u6 e6 p6 u7 e7 p7 u8 e8 p8 u9 e9 p9 u11 e11 p11
            obtain rfl : u0 = _ := p0
            obtain rfl : u1 = _ := p1
            obtain rfl : u2 = _ := p2
            obtain rfl : u3 = _ := p3
            obtain rfl : u4 = _ := p4
            obtain ⟨ba, qa, rfl, ka⟩ := p5
            obtain ⟨bm, qm, rfl, kmm⟩ := p6
            obtain ⟨bx13, qx13, rfl, kx⟩ := p7
            obtain rfl : u8 = _ := p8
            obtain ⟨g9, rfl⟩ := p9
            obtain rfl : u11 = _ := p11
            simp only [EndAll, Act.put, List.getElem_toArray, List.getElem_cons_succ, List.getElem_cons_zero, List.setIfInBounds_toArray, List.set_cons_zero, List.set_cons_succ]
            have h2 := hst.put (Mono.dk _ _) kx
            rw [osN_end e9 e7] at h2
            replace h2 := h2.shut
            clear hst kx kmm ka
            generalize g9 = gz at h2 ⊢
            generalize bx13 = bz at h2 ⊢
            generalize qx13 = qz at h2 ⊢
            by_cases hc : c = 0
            · subst hc
              go_upto_region 15 with fail
              refine wp_region_st [pVal (dkS bz qz Z), pVal ?c15_1, pVal ?c15_2, pVal ?c15_3, pVal (.pointer (some ⟨gA, oA + k, none⟩)), pVal (.slice ub NR uq), pLs (X ++ R), pAny, pLs (X ++ R)] (osS 7 0 24 g6 (.cells #[.slice b D.sec.length q, .int .i64 D.left, .int .i64 D.tear, .bool D.stopped] 24 (0, 0)) [] []) 149 [0, 0, 0, 0, 12, 28, 62, 127, 255] [[], [], [], [], [(3, 86), (2, 85)], [(4, 87)], [(5, 88), (1, 84)], [(0, 83)], [(6, 89)]] [(0, 83), (1, 84), (2, 85), (3, 86), (4, 87), (5, 88), (6, 89), (8, 9)] (by kernel_rfl) (by kernel_rfl) rfl rfl h2 osS0 (osS1 (by decide)) ?ob ?en
              case ob =>
                refine ⟨?_, ?_, ?_, ?_, ?_, ?_, ?_, ?_, ?_, trivial⟩
                · -- 0: t83 := Op.load 24 (t12)
                  intro zx1 zx2 zx3 zx4 L V W hL hd hw hst 
                  exact ob_c (by first | rfl | (simp [wantE, dstOf, zx1]; done)) (run_load_mid rfl rfl ((hst.base 0 rfl : IsCells _ _ _) |> Mono.cells _ _ _ _ (mask_is _ _) |>.range) Try.underlying24 rfl rfl) hst (osS_keep (hw 7 rfl (by decide)) (by decide))
                · -- 1: t84 := Op.move (t9)
                  intro zx1 zx2 zx3 zx4 L V W hL hd hw hst 
                  refine ob_c (by first | rfl | (simp [wantE, dstOf, zx1]; done)) ?_ hst (osS_keep (hw 7 rfl (by decide)) (by decide))
                  go_simp
                  try with_reducible rfl
                · -- 2: t85 := Op.move (t0)
                  intro zx1 zx2 zx3 zx4 L V W hL hd hw hst 
                  refine ob_c (by first | rfl | (simp [wantE, dstOf, zx1]; done)) ?_ hst (osS_keep (hw 7 rfl (by decide)) (by decide))
                  go_simp
                  try with_reducible rfl
                · -- 3: t86 := Op.move (t11)
                  intro zx1 zx2 zx3 zx4 L V W hL hd hw hst 
                  refine ob_c (by first | rfl | (simp [wantE, dstOf, zx1]; done)) ?_ hst (osS_keep (hw 7 rfl (by decide)) (by decide))
                  go_simp
                  try with_reducible rfl
                · -- 4: t87 := Op.indexAddr 40 (t85) (t86)
                  intro zx1 zx2 zx3 zx4 L V W hL hd hw hst u2 e2 p2 u3 e3 p3
                  obtain rfl : u2 = _ := p2
                  obtain rfl : u3 = _ := p3
                  refine ob_c (by first | rfl | (simp [wantE, dstOf, zx1]; done)) ?_ hst (osS_keep (hw 7 rfl (by decide)) (by decide))
                  go_simp
                  try with_reducible rfl
                · -- 5: t88 := Op.load 22 (t87)
                  intro zx1 zx2 zx3 zx4 L V W hL hd hw hst u4 e4 p4
                  obtain rfl : u4 = _ := p4
                  have hz := mask_is _ _ _ _ (hst.base 3 rfl : World.cell? _ _ = some _)
                  refine ob_c (by first | rfl | (simp [wantE, dstOf, zx1]; done)) ?_ hst (osS_keep (hw 7 rfl (by decide)) (by decide))
                  go_simp
                  try with_reducible rfl
                · -- 6: t89 := Op.call { callee := value (func 28), args := #[t84, t88], argTypes := #[22, 22] }
                  intro zx1 zx2 zx3 zx4 L V W hL hd hw hst u1 e1 p1 u5 e5 p5
                  obtain rfl : u1 = _ := p1
                  obtain rfl : u5 = _ := p5
                  refine ob_call (by first | rfl | (simp [wantE, dstOf, zx1]; done)) ?_ (joined_pp hst (a := X) (b := R) rfl (hst.base 5 rfl) (hst.base 2 rfl) (by rw [HXY.out.1, HNR.out]; have := HXY.out.2.1; omega))
                  go_simp
                  try rfl
                · -- 7: tNone := Op.store 24 (t6) (t83)
                  intro zx1 zx2 zx3 zx4 L V W hL hd hw hst u0 e0 p0
                  obtain rfl : u0 = _ := p0
                  exact ob_set (k := 0) (g := g6) rfl rfl rfl rfl e0 rfl (by decide) hL rfl disk_info (one4 rfl _ _ _) hst
                · -- 8: t9 := Op.assign (t89)
                  intro zx1 zx2 zx3 zx4 L V W hL hd hw hst u6 e6 p6
                  refine ob_v u6 (by first | rfl | (simp [wantE, dstOf, zx1]; done)) ?_ hst rfl p6
                  go_simp
              case en =>
                intro V W hst u0 e0 p0 u1 e1 p1 u2 e2 p2 u3 e3 p3 u4 e4 p4 u5 e5 p5 u6 e6 p6 u8 e8 p8
                obtain rfl : u0 = _ := p0
                obtain rfl : u1 = _ := p1
                obtain rfl : u2 = _ := p2
                obtain rfl : u3 = _ := p3
                obtain rfl : u4 = _ := p4
                obtain rfl : u5 = _ := p5
                obtain ⟨bl, ql, rfl, kl⟩ := p6
                obtain ⟨b8, q8, rfl, k8⟩ := p8
                simp only [EndAll, Act.put, List.getElem_toArray, List.getElem_cons_succ, List.getElem_cons_zero, List.setIfInBounds_toArray, List.set_cons_zero, List.set_cons_succ]
                have h4 := hst.put (P := (IsLists · (.slice b8 (X ++ R).length q8) (X ++ R))) (Mono.lists _ _) k8
                rw [osS_end e0] at h4
                have h5 := h4.facts (fs' := [(IsDk · (dkS bz qz Z) Z), (IsLists · (.slice b8 (X ++ R).length q8) (X ++ R)), (IsLists · (.slice yb NY yq) Y), (IsBats · (.slice (some ⟨gA, oA, none⟩) A aq) la), (IsBats · (.slice bb B bq) lb)]) (fun P hP => by simp only [List.mem_cons, List.not_mem_nil, or_false] at hP ⊢; rcases hP with rfl | rfl | rfl | rfl | rfl <;> simp)
                clear hst h4
                go_wp2_with fail
                go_meet
                case rel => exact ⟨Z, bz, qz, X ++ R, b8, _, q8, rfl, (Lib.hid ⟨rfl, by rw [List.length_append, HNR.out]; have := HXY.out; omega⟩ : Hid ((X ++ R).length = (X ++ R).length ∧ (X ++ R).length ≤ 200 * k + 200)), (Lib.hid (two_lo HT.out (by rw [HNR.out]; omega) HAL2.out HZ.out)), h5⟩
            · have hcb := beq_of hc
              have h3 := h2.facts (fs' := [(IsDk · (dkS b q D) D), (IsLists · (.slice xb NX xq) X), (IsLists · (.slice yb NY yq) Y), (IsBats · (.slice (some ⟨gA, oA, none⟩) A aq) la), (IsBats · (.slice bb B bq) lb)]) (fun P hP => by simp only [List.mem_cons, List.not_mem_nil, or_false] at hP ⊢; rcases hP with rfl | rfl | rfl | rfl | rfl <;> simp)
              clear h2
              go_wp2_with fail
              go_meet
              case rel => exact ⟨D, b, q, X, xb, NX, xq, rfl, (Lib.hid ⟨HXY.out.1, by have := HXY.out.2.1; omega⟩ : Hid (X.length = NX ∧ NX ≤ 200 * k + 200)), HT, h3⟩
      case rest =>
      clear hst HSM
      obtain ⟨D2, b2, q2, X2, xb2, NX2, xq2, rfl, HX2, HT2, hst⟩ := hcut
      clear r
      go_upto_region 16 with fail
      go_cut [101] from 90 to 100 (fun c wx => ∃ r : Bool, c = .bool r ∧ Hid (r = true → ∃ h : k < lb.length, smallB D2 lb[k] = true) ∧ St w wx [(g6, dkB b2 q2 D2)] [(IsDk · (dkS b2 q2 D2) D2), (IsLists · (.slice xb2 NX2 xq2) X2), (IsLists · (.slice yb NY yq) Y), (IsBats · (.slice ab A aq) la), (IsBats · (.slice bb B bq) lb)])
      case first =>
        by_cases hkA : k < B
        · have hkAi : (k : Int) < (B : Int) := by omega
          have hkl : k < lb.length := by rw [HBL.out]; exact hkA
          obtain ⟨gA, oA, uA, rfl, xA, yA⟩ := bats_at (hst.get 4 rfl) k hkl
          obtain ⟨ub, uq, rfl⟩ := yA.shape
          obtain ⟨R, hR⟩ : ∃ R, lb[k] = R := ⟨_, rfl⟩
          rw [hR] at xA yA
          obtain ⟨NR, hNR⟩ : ∃ n, R.length = n := ⟨_, rfl⟩
          rw [hNR] at xA yA
          obtain ⟨r, hr⟩ : ∃ r, smallB D2 R = r := ⟨_, rfl⟩
          have HR := Lib.hid hr
          have HLR := Lib.hid hR
          have h1 := (hst.put (P := fun x => x.cell? ⟨gA, oA + k, none⟩ = some (.slice ub NR uq)) (Mono.cell _ _) xA).put (P := (IsLists · (.slice ub NR uq) R)) (Mono.lists _ _) yA
          clear xA yA hr hR hNR hst
          refine wp_region_st [pVal ?c16a_0, pVal ?c16a_1, pVal ?c16a_2, pVal (.bool true), pVal (.bool true), pVal (dkS b2 q2 D2), pVal ?c16a_6, pVal ?c16a_7, pVal (.pointer (some ⟨gA, oA + k, none⟩)), pVal (.slice ub NR uq), pVal (.bool r), pVal (.bool r)] (osC [(g6, dkB b2 q2 D2)]) 149 [0, 0, 2, 7, 15, 31, 31, 31, 223, 479, 1023, 2047] [[], [], [(1, 91)], [(2, 92), (0, 90)], [(3, 93)], [(4, 94)], [(4, 94)], [(4, 94)], [(4, 94), (7, 97), (6, 96)], [(4, 94), (8, 98)], [(4, 94), (9, 99), (5, 95)], [(10, 100), (4, 94)]] [(0, 90), (1, 91), (2, 92), (3, 93), (4, 94), (5, 95), (6, 96), (7, 97), (8, 98), (9, 99), (10, 100), (11, 101)] (by kernel_rfl) (by kernel_rfl) rfl rfl h1 osC0 osC1 ?ob ?en
          case ob =>
            refine ⟨?_, ?_, ?_, ?_, ?_, ?_, ?_, ?_, ?_, ?_, ?_, ?_, trivial⟩
            · -- 0: t90 := Op.move (t11)
              intro zx1 zx2 zx3 zx4 L V W hL hd hw hst 
              refine ob_c rfl ?_ hst rfl
              go_simp
              try with_reducible rfl
            · -- 1: t91 := Op.move (t1)
              intro zx1 zx2 zx3 zx4 L V W hL hd hw hst 
              refine ob_c rfl ?_ hst rfl
              go_simp
              try with_reducible rfl
            · -- 2: t92 := Op.call { callee := builtin Builtin.len, args := #[t91], argTypes := #[40] }
              intro zx1 zx2 zx3 zx4 L V W hL hd hw hst u1 e1 p1
              obtain rfl : u1 = _ := p1
              refine ob_c rfl ?_ hst rfl
              go_simp
              try with_reducible rfl
            · -- 3: t93 := Op.binOp BinOp.lss 3 (t90) (t92) 3
              intro zx1 zx2 zx3 zx4 L V W hL hd hw hst u0 e0 p0 u2 e2 p2
              obtain rfl : u0 = _ := p0
              obtain rfl : u2 = _ := p2
              refine ob_c (by first | rfl | (simp [wantE, dstOf, zx1]; done)) ?_ hst rfl
              go_simp
              all_goals (skip)
            · -- 4: t94 := Op.move (t93)
              intro zx1 zx2 zx3 zx4 L V W hL hd hw hst u3 e3 p3
              obtain rfl : u3 = _ := p3
              refine ob_c (by first | rfl | (simp [wantE, dstOf, zx1]; done)) ?_ hst rfl
              go_simp
              all_goals (skip)
            · -- 5: t95 := Op.load 24 (t6)
              intro zx1 zx2 zx3 zx4 L V W hL hd hw hst u4 e4 p4
              obtain rfl : u4 = _ := p4
              refine ob_c (by first | rfl | (simp [wantE, dstOf, zx1]; done)) ?_ hst rfl
              have hg := hst.find (g := g6) (o := dkB b2 q2 D2) (by simp [osC])
              exact run_load_own rfl rfl hg Try.underlying24 rfl disk_info
            · -- 6: t96 := Op.move (t1)
              intro zx1 zx2 zx3 zx4 L V W hL hd hw hst u4 e4 p4
              obtain rfl : u4 = _ := p4
              refine ob_c (by first | rfl | (simp [wantE, dstOf, zx1]; done)) ?_ hst rfl
              go_simp
              try with_reducible rfl
            · -- 7: t97 := Op.move (t11)
              intro zx1 zx2 zx3 zx4 L V W hL hd hw hst u4 e4 p4
              obtain rfl : u4 = _ := p4
              refine ob_c (by first | rfl | (simp [wantE, dstOf, zx1]; done)) ?_ hst rfl
              go_simp
              try with_reducible rfl
            · -- 8: t98 := Op.indexAddr 40 (t96) (t97)
              intro zx1 zx2 zx3 zx4 L V W hL hd hw hst u6 e6 p6 u7 e7 p7 u4 e4 p4
              obtain rfl : u6 = _ := p6
              obtain rfl : u7 = _ := p7
              obtain rfl : u4 = _ := p4
              refine ob_c (by first | rfl | (simp [wantE, dstOf, zx1]; done)) ?_ hst rfl
              go_simp
              all_goals (skip)
            · -- 9: t99 := Op.load 22 (t98)
              intro zx1 zx2 zx3 zx4 L V W hL hd hw hst u8 e8 p8 u4 e4 p4
              obtain rfl : u8 = _ := p8
              obtain rfl : u4 = _ := p4
              have hz := mask_is _ _ _ _ (hst.base 1 rfl : World.cell? _ _ = some _)
              refine ob_c (by first | rfl | (simp [wantE, dstOf, zx1]; done)) ?_ hst rfl
              go_simp
              try with_reducible rfl
            · -- 10: t100 := Op.call { callee := value (func 13), args := #[t95, t99], argTypes := #[24, 22] }
              intro zx1 zx2 zx3 zx4 L V W hL hd hw hst u5 e5 p5 u9 e9 p9 u4 e4 p4
              obtain rfl : u5 = _ := p5
              obtain rfl : u9 = _ := p9
              obtain rfl : u4 = _ := p4
              refine ob_call (by first | rfl | (simp [wantE, dstOf, zx1]; done)) ?_ (small_p hst HR.out ((hst.base 2 rfl : IsDk _ _ _).sub (mask_is _ _)) ((hst.base 0 rfl : IsLists _ _ _).sub (mask_is _ _)))
              go_simp
              try rfl
            · -- 11: t101 := Op.pick (t94) (t100) (const (bool false))
              intro zx1 zx2 zx3 zx4 L V W hL hd hw hst u4 e4 p4 u10 e10 p10
              obtain rfl : u4 = _ := p4
              obtain rfl : u10 = _ := p10
              refine ob_c (by first | rfl | (simp [wantE, dstOf, zx1]; done)) ?_ hst rfl
              go_simp
              all_goals (skip)
          case en =>
            intro V W hst u0 e0 p0 u1 e1 p1 u2 e2 p2 u3 e3 p3 u4 e4 p4 u5 e5 p5 u6 e6 p6 u7 e7 p7 u8 e8 p8 u9 e9 p9 u10 e10 p10 u11 e11 p11
            obtain rfl : u0 = _ := p0
            obtain rfl : u1 = _ := p1
            obtain rfl : u2 = _ := p2
            obtain rfl : u3 = _ := p3
            obtain rfl : u4 = _ := p4
            obtain rfl : u5 = _ := p5
            obtain rfl : u6 = _ := p6
            obtain rfl : u7 = _ := p7
            obtain rfl : u8 = _ := p8
            obtain rfl : u9 = _ := p9
            obtain rfl : u10 = _ := p10
            obtain rfl : u11 = _ := p11
            simp only [EndAll, Act.put, List.getElem_toArray, List.getElem_cons_succ, List.getElem_cons_zero, List.setIfInBounds_toArray, List.set_cons_zero, List.set_cons_succ]
            have h2 := hst.facts (fs' := [(IsDk · (dkS b2 q2 D2) D2), (IsLists · (.slice xb2 NX2 xq2) X2), (IsLists · (.slice yb NY yq) Y), (IsBats · (.slice ab A aq) la), (IsBats · (.slice (some ⟨gA, oA, none⟩) B bq) lb)]) (fun P hP => by simp only [List.mem_cons, List.not_mem_nil, or_false] at hP ⊢; rcases hP with rfl | rfl | rfl | rfl | rfl <;> simp)
            go_wp2_with fail
            go_meet
            case rel => exact ⟨r, rfl, Lib.hid (fun e => ⟨hkl, by rw [HLR.out, HR.out]; exact e⟩), h2⟩
        · have hkAi : ¬ (k : Int) < (B : Int) := by omega
          refine wp_region_st [pVal ?c16b_0, pVal ?c16b_1, pVal ?c16b_2, pVal (.bool false), pVal (.bool false), pVal ?c16b_5, pVal ?c16b_6, pVal ?c16b_7, pVal ?c16b_8, pVal ?c16b_9, pVal ?c16b_10, pVal (.bool false)] (osC [(g6, dkB b2 q2 D2)]) 149 [0, 0, 2, 7, 15, 31, 31, 31, 223, 479, 1023, 2047] [[], [], [(1, 91)], [(2, 92), (0, 90)], [(3, 93)], [(4, 94)], [(4, 94)], [(4, 94)], [(4, 94), (7, 97), (6, 96)], [(4, 94), (8, 98)], [(4, 94), (9, 99), (5, 95)], [(10, 100), (4, 94)]] [(0, 90), (1, 91), (2, 92), (3, 93), (4, 94), (5, 95), (6, 96), (7, 97), (8, 98), (9, 99), (10, 100), (11, 101)] (by kernel_rfl) (by kernel_rfl) rfl rfl hst osC0 osC1 ?ob ?en
          case ob =>
            refine ⟨?_, ?_, ?_, ?_, ?_, ?_, ?_, ?_, ?_, ?_, ?_, ?_, trivial⟩
            · -- 0: t90 := Op.move (t11)
              intro zx1 zx2 zx3 zx4 L V W hL hd hw hst 
              refine ob_c rfl ?_ hst rfl
              go_simp
              try with_reducible rfl
            · -- 1: t91 := Op.move (t1)
              intro zx1 zx2 zx3 zx4 L V W hL hd hw hst 
              refine ob_c rfl ?_ hst rfl
              go_simp
              try with_reducible rfl
            · -- 2: t92 := Op.call { callee := builtin Builtin.len, args := #[t91], argTypes := #[40] }
              intro zx1 zx2 zx3 zx4 L V W hL hd hw hst u1 e1 p1
              obtain rfl : u1 = _ := p1
              refine ob_c rfl ?_ hst rfl
              go_simp
              try with_reducible rfl
            · -- 3: t93 := Op.binOp BinOp.lss 3 (t90) (t92) 3
              intro zx1 zx2 zx3 zx4 L V W hL hd hw hst u0 e0 p0 u2 e2 p2
              obtain rfl : u0 = _ := p0
              obtain rfl : u2 = _ := p2
              refine ob_c (by first | rfl | (simp [wantE, dstOf, zx1]; done)) ?_ hst rfl
              go_simp
              all_goals (skip)
            · -- 4: t94 := Op.move (t93)
              intro zx1 zx2 zx3 zx4 L V W hL hd hw hst u3 e3 p3
              obtain rfl : u3 = _ := p3
              refine ob_c (by first | rfl | (simp [wantE, dstOf, zx1]; done)) ?_ hst rfl
              go_simp
              all_goals (skip)
            · -- 5: t95 := Op.load 24 (t6)
              intro zx1 zx2 zx3 zx4 L V W hL hd hw hst u4 e4 p4
              obtain rfl : u4 = _ := p4
              refine ob_o ?_ hst ?_
              · first | rfl | (simp [wantE, dstOf, zx1]; done)
              · rfl
            · -- 6: t96 := Op.move (t1)
              intro zx1 zx2 zx3 zx4 L V W hL hd hw hst u4 e4 p4
              obtain rfl : u4 = _ := p4
              refine ob_o ?_ hst ?_
              · first | rfl | (simp [wantE, dstOf, zx1]; done)
              · rfl
            · -- 7: t97 := Op.move (t11)
              intro zx1 zx2 zx3 zx4 L V W hL hd hw hst u4 e4 p4
              obtain rfl : u4 = _ := p4
              refine ob_o ?_ hst ?_
              · first | rfl | (simp [wantE, dstOf, zx1]; done)
              · rfl
            · -- 8: t98 := Op.indexAddr 40 (t96) (t97)
              intro zx1 zx2 zx3 zx4 L V W hL hd hw hst u6 e6 p6 u7 e7 p7 u4 e4 p4
              obtain rfl : u6 = _ := p6
              obtain rfl : u7 = _ := p7
              obtain rfl : u4 = _ := p4
              refine ob_o ?_ hst ?_
              · first | rfl | (simp [wantE, dstOf, zx1]; done)
              · rfl
            · -- 9: t99 := Op.load 22 (t98)
              intro zx1 zx2 zx3 zx4 L V W hL hd hw hst u8 e8 p8 u4 e4 p4
              obtain rfl : u8 = _ := p8
              obtain rfl : u4 = _ := p4
              refine ob_o ?_ hst ?_
              · first | rfl | (simp [wantE, dstOf, zx1]; done)
              · rfl
            · -- 10: t100 := Op.call { callee := value (func 13), args := #[t95, t99], argTypes := #[24, 22] }
              intro zx1 zx2 zx3 zx4 L V W hL hd hw hst u5 e5 p5 u9 e9 p9 u4 e4 p4
              obtain rfl : u5 = _ := p5
              obtain rfl : u9 = _ := p9
              obtain rfl : u4 = _ := p4
              refine ob_o ?_ hst ?_
              · first | rfl | (simp [wantE, dstOf, zx1]; done)
              · rfl
            · -- 11: t101 := Op.pick (t94) (t100) (const (bool false))
              intro zx1 zx2 zx3 zx4 L V W hL hd hw hst u4 e4 p4 u10 e10 p10
              obtain rfl : u4 = _ := p4
              obtain rfl : u10 = _ := p10
              refine ob_c (by first | rfl | (simp [wantE, dstOf, zx1]; done)) ?_ hst rfl
              go_simp
              all_goals (skip)
          case en =>
            intro V W hst u0 e0 p0 u1 e1 p1 u2 e2 p2 u3 e3 p3 u4 e4 p4 u5 e5 p5 u6 e6 p6 u7 e7 p7 u8 e8 p8 u9 e9 p9 u10 e10 p10 u11 e11 p11
            obtain rfl : u0 = _ := p0
            obtain rfl : u1 = _ := p1
            obtain rfl : u2 = _ := p2
            obtain rfl : u3 = _ := p3
            obtain rfl : u4 = _ := p4
            obtain rfl : u5 = _ := p5
            obtain rfl : u6 = _ := p6
            obtain rfl : u7 = _ := p7
            obtain rfl : u8 = _ := p8
            obtain rfl : u9 = _ := p9
            obtain rfl : u10 = _ := p10
            obtain rfl : u11 = _ := p11
            simp only [EndAll, Act.put, List.getElem_toArray, List.getElem_cons_succ, List.getElem_cons_zero, List.setIfInBounds_toArray, List.set_cons_zero, List.set_cons_succ]
            go_wp2_with fail
            go_meet
            case rel => exact ⟨false, rfl, Lib.hid (fun e => by cases e), hst⟩
      case rest =>
      clear hst
      obtain ⟨r, rfl, HSM, hst⟩ := hcut
      go_upto_if 101 with fail
      cases r with
      | false =>
        have HYF := (Lib.hid ⟨HXY.out.2.2.1, by have := HXY.out.2.2.2; omega⟩ : Hid (Y.length = NY ∧ NY ≤ 200 * k + 200))
        go_wp2_with fail
        go_roundw
        case rel => exact ⟨k + 1, D2, b2, q2, X2, xb2, NX2, xq2, Y, yb, NY, yq, by omega, by go_num, rfl, rfl, Lib.hid ⟨HX2.out.1, by have := HX2.out.2; omega, HYF.out.1, by have := HYF.out.2; omega⟩, HT2, hst⟩
        case measure => simp [intOf]; omega
      | true =>
        obtain ⟨hkl, hsm⟩ := HSM.out rfl
        have hkA : k < B := by rw [← HBL.out]; exact hkl
        have hkAi : (k : Int) < (B : Int) := by omega
        obtain ⟨-, hn200, -, hall⟩ := smallB_use hsm (ok_secs HT2.out.lo.choose_spec.reg.ok) (fun r h => Nat.le_trans (HSB.out _ (List.getElem_mem hkl) r h) (by omega))
        obtain ⟨gA, oA, uA, rfl, xA, yA⟩ := bats_at (hst.get 4 rfl) k hkl
        obtain ⟨ub, uq, rfl⟩ := yA.shape
        obtain ⟨R, hR⟩ : ∃ R, lb[k] = R := ⟨_, rfl⟩
        rw [hR] at xA yA hn200 hall
        obtain ⟨NR, hNR⟩ : ∃ n, R.length = n := ⟨_, rfl⟩
        rw [hNR] at xA yA hn200
        obtain ⟨⟨Z, c⟩, hZ⟩ : ∃ r, D2.app 40 40 R = r := ⟨_, rfl⟩
        have HZ := Lib.hid hZ
        have HNR := Lib.hid hNR
        have HAL2 := Lib.hid (fun r h => Nat.le_trans (hall r h) (show 40000 ≤ 1048576 by omega))
        have h1 := (hst.put (P := fun x => x.cell? ⟨gA, oA + k, none⟩ = some (.slice ub NR uq)) (Mono.cell _ _) xA).put (P := (IsLists · (.slice ub NR uq) R)) (Mono.lists _ _) yA
        clear xA yA hR hNR hst hsm hall hZ HSM
        go_upto_region 17 with fail
        refine wp_region_st [pVal (dkS b2 q2 D2), pVal ?c17_1, pVal ?c17_2, pVal (.pointer (some ⟨gA, oA + k, none⟩)), pVal (.slice ub NR uq), pDkT Z c, pDkT Z c, pDk Z, pVal (.int .i64 c), pPtr, pAny, pVal ?c17_11] (osN 9 10 7 24 (.cells #[.slice none 0 0, .int .i64 0, .int .i64 0, .bool false] 24 (0, 0)) [(g6, dkB b2 q2 D2)]) 149 [0, 0, 0, 6, 14, 31, 63, 127, 127, 0, 767, 2047] [[], [], [], [(2, 105), (1, 104)], [(3, 106)], [(4, 107), (0, 103)], [(5, 108)], [(6, 102)], [(6, 102)], [], [(7, 109), (9, 14)], [(8, 110)]] [(0, 103), (1, 104), (2, 105), (3, 106), (4, 107), (5, 108), (6, 102), (7, 109), (8, 110), (9, 14), (11, 15)] (by kernel_rfl) (by kernel_rfl) rfl rfl h1 osN0 (osN1 (by decide) (by decide)) ?ob ?en
        case ob =>
          refine ⟨?_, ?_, ?_, ?_, ?_, ?_, ?_, ?_, ?_, ?_, ?_, ?_, trivial⟩
          · -- 0: t103 := Op.load 24 (t6)
            intro zx1 zx2 zx3 zx4 L V W hL hd hw hst 
            refine ob_c (by first | rfl | (simp [wantE, dstOf, zx1]; done)) ?_ hst rfl
            have hg := hst.find (g := g6) (o := dkB b2 q2 D2) (osN_mem (by simp) _ _)
            exact run_load_own rfl rfl hg Try.underlying24 rfl disk_info
          · -- 1: t104 := Op.move (t1)
            intro zx1 zx2 zx3 zx4 L V W hL hd hw hst 
            refine ob_c rfl ?_ hst rfl
            go_simp
            try with_reducible rfl
          · -- 2: t105 := Op.move (t11)
            intro zx1 zx2 zx3 zx4 L V W hL hd hw hst 
            refine ob_c rfl ?_ hst rfl
            go_simp
            try with_reducible rfl
          · -- 3: t106 := Op.indexAddr 40 (t104) (t105)
            intro zx1 zx2 zx3 zx4 L V W hL hd hw hst u1 e1 p1 u2 e2 p2
            obtain rfl : u1 = _ := p1
            obtain rfl : u2 = _ := p2
            refine ob_c (by first | rfl | (simp [wantE, dstOf, zx1]; done)) ?_ hst rfl
            go_simp
            all_goals (skip)
          · -- 4: t107 := Op.load 22 (t106)
            intro zx1 zx2 zx3 zx4 L V W hL hd hw hst u3 e3 p3
            obtain rfl : u3 = _ := p3
            have hz := mask_is _ _ _ _ (hst.base 1 rfl : World.cell? _ _ = some _)
            refine ob_c (by first | rfl | (simp [wantE, dstOf, zx1]; done)) ?_ hst rfl
            go_simp
            try with_reducible rfl
          · -- 5: t108 := Op.call { callee := value (func 21), args := #[t103, const (int IntKind.i64 40), const (int IntKind.i64 40), t107], argTypes := #[24, 3, 3, 22] }
            intro zx1 zx2 zx3 zx4 L V W hL hd hw hst u0 e0 p0 u4 e4 p4
            obtain rfl : u0 = _ := p0
            obtain rfl : u4 = _ := p4
            refine ob_call (by first | rfl | (simp [wantE, dstOf, zx1]; done)) ?_ (app_p hst (d := D2) (f := 40) (m := 40) HZ.out (by omega) (by omega) (hst.base 2 rfl) ((hst.base 0 rfl : IsLists _ _ _).sub (mask_is _ _)) (by rw [HNR.out]; omega) HAL2.out)
            go_simp
            try rfl
          · -- 6: t102 := Op.move (t108)
            intro zx1 zx2 zx3 zx4 L V W hL hd hw hst u5 e5 p5
            refine ob_v u5 rfl ?_ hst rfl p5
            go_simp
          · -- 7: t109 := Op.extract (t102) 0
            intro zx1 zx2 zx3 zx4 L V W hL hd hw hst u6 e6 p6
            obtain ⟨bm, qm, rfl, kmm⟩ := p6
            refine ob_v (dkS bm qm Z) rfl ?_ hst (osN_keep (hw 10 rfl (by decide)) (by decide) (by decide)) ⟨bm, qm, rfl, kmm⟩
            go_simp
          · -- 8: t110 := Op.extract (t102) 1
            intro zx1 zx2 zx3 zx4 L V W hL hd hw hst u6 e6 p6
            obtain ⟨bm, qm, rfl, kmm⟩ := p6
            refine ob_c rfl ?_ hst rfl
            go_simp
            try with_reducible rfl
          · -- 9: t14 := Op.alloc 24
            intro zx1 zx2 zx3 zx4 L V W hL hd hw hst 
            exact ob_new _ rfl rfl dk_zero_var rfl (by decide) hL (hw 10 rfl (by decide)) rfl hst
          · -- 10: tNone := Op.store 24 (t14) (t109)
            intro zx1 zx2 zx3 zx4 L V W hL hd hw hst u9 e9 p9 u7 e7 p7
            obtain ⟨g9, rfl⟩ := p9
            obtain ⟨bx17, qx17, rfl, kx⟩ := p7
            exact ob_put (ia := 9) (k := 7) (z := .agg #[.slice none 0 0, .int .i64 0, .int .i64 0, .bool false]) rfl rfl rfl rfl e9 e7 rfl (by decide) (by decide) (hd 9 rfl) hL rfl disk_info (one4 rfl _ _ _) hst
          · -- 11: t15 := Op.assign (t110)
            intro zx1 zx2 zx3 zx4 L V W hL hd hw hst u8 e8 p8
            obtain rfl : u8 = _ := p8
            refine ob_c rfl ?_ hst rfl
            go_simp
            try with_reducible rfl
        case en =>
          intro V W hst u0 e0 p0 u1 e1 p1 u2 e2 p2 u3 e3 p3 u4 e4 p4 u5 e5 p5 u6 e6 p6 u7 e7 p7 u8 e8 p8 u9 e9 p9 u11 e11 p11
          obtain rfl : u0 = _ := p0
          obtain rfl : u1 = _ := p1
          obtain rfl : u2 = _ := p2
          obtain rfl : u3 = _ := p3
          obtain rfl : u4 = _ := p4
          obtain ⟨ba, qa, rfl, ka⟩ := p5
          obtain ⟨bm, qm, rfl, kmm⟩ := p6
          obtain ⟨bx17, qx17, rfl, kx⟩ := p7
          obtain rfl : u8 = _ := p8
          obtain ⟨g9, rfl⟩ := p9
          obtain rfl : u11 = _ := p11
          simp only [EndAll, Act.put, List.getElem_toArray, List.getElem_cons_succ, List.getElem_cons_zero, List.setIfInBounds_toArray, List.set_cons_zero, List.set_cons_succ]
          have h2 := hst.put (Mono.dk _ _) kx
          rw [osN_end e9 e7] at h2
          replace h2 := h2.shut
          clear hst kx kmm ka
          generalize g9 = gz at h2 ⊢
          generalize bx17 = bz at h2 ⊢
          generalize qx17 = qz at h2 ⊢
          by_cases hc : c = 0
          · subst hc
            go_upto_region 19 with fail
            refine wp_region_st [pVal (dkS bz qz Z), pVal ?c19_1, pVal ?c19_2, pVal ?c19_3, pVal (.pointer (some ⟨gA, oA + k, none⟩)), pVal (.slice ub NR uq), pLs (Y ++ R), pAny, pLs (Y ++ R)] (osS 7 0 24 g6 (.cells #[.slice b2 D2.sec.length q2, .int .i64 D2.left, .int .i64 D2.tear, .bool D2.stopped] 24 (0, 0)) [] []) 149 [0, 0, 0, 0, 12, 28, 62, 127, 255] [[], [], [], [], [(3, 116), (2, 115)], [(4, 117)], [(5, 118), (1, 114)], [(0, 113)], [(6, 119)]] [(0, 113), (1, 114), (2, 115), (3, 116), (4, 117), (5, 118), (6, 119), (8, 10)] (by kernel_rfl) (by kernel_rfl) rfl rfl h2 osS0 (osS1 (by decide)) ?ob ?en
            case ob =>
              refine ⟨?_, ?_, ?_, ?_, ?_, ?_, ?_, ?_, ?_, trivial⟩
              · -- 0: t113 := Op.load 24 (t14)
                intro zx1 zx2 zx3 zx4 L V W hL hd hw hst 
                exact ob_c (by first | rfl | (simp [wantE, dstOf, zx1]; done)) (run_load_mid rfl rfl ((hst.base 0 rfl : IsCells _ _ _) |> Mono.cells _ _ _ _ (mask_is _ _) |>.range) Try.underlying24 rfl rfl) hst (osS_keep (hw 7 rfl (by decide)) (by decide))
              · -- 1: t114 := Op.move (t10)
                intro zx1 zx2 zx3 zx4 L V W hL hd hw hst 
                refine ob_c (by first | rfl | (simp [wantE, dstOf, zx1]; done)) ?_ hst (osS_keep (hw 7 rfl (by decide)) (by decide))
                go_simp
                try with_reducible rfl
              · -- 2: t115 := Op.move (t1)
                intro zx1 zx2 zx3 zx4 L V W hL hd hw hst 
                refine ob_c (by first | rfl | (simp [wantE, dstOf, zx1]; done)) ?_ hst (osS_keep (hw 7 rfl (by decide)) (by decide))
                go_simp
                try with_reducible rfl
              · -- 3: t116 := Op.move (t11)
                intro zx1 zx2 zx3 zx4 L V W hL hd hw hst 
                refine ob_c (by first | rfl | (simp [wantE, dstOf, zx1]; done)) ?_ hst (osS_keep (hw 7 rfl (by decide)) (by decide))
                go_simp
                try with_reducible rfl
              · -- 4: t117 := Op.indexAddr 40 (t115) (t116)
                intro zx1 zx2 zx3 zx4 L V W hL hd hw hst u2 e2 p2 u3 e3 p3
                obtain rfl : u2 = _ := p2
                obtain rfl : u3 = _ := p3
                refine ob_c (by first | rfl | (simp [wantE, dstOf, zx1]; done)) ?_ hst (osS_keep (hw 7 rfl (by decide)) (by decide))
                go_simp
                try with_reducible rfl
              · -- 5: t118 := Op.load 22 (t117)
                intro zx1 zx2 zx3 zx4 L V W hL hd hw hst u4 e4 p4
                obtain rfl : u4 = _ := p4
                have hz := mask_is _ _ _ _ (hst.base 3 rfl : World.cell? _ _ = some _)
                refine ob_c (by first | rfl | (simp [wantE, dstOf, zx1]; done)) ?_ hst (osS_keep (hw 7 rfl (by decide)) (by decide))
                go_simp
                try with_reducible rfl
              · -- 6: t119 := Op.call { callee := value (func 28), args := #[t114, t118], argTypes := #[22, 22] }
                intro zx1 zx2 zx3 zx4 L V W hL hd hw hst u1 e1 p1 u5 e5 p5
                obtain rfl : u1 = _ := p1
                obtain rfl : u5 = _ := p5
                refine ob_call (by first | rfl | (simp [wantE, dstOf, zx1]; done)) ?_ (joined_pp hst (a := Y) (b := R) rfl (hst.base 6 rfl) (hst.base 2 rfl) (by rw [HXY.out.2.2.1, HNR.out]; have := HXY.out.2.2.2; omega))
                go_simp
                try rfl
              · -- 7: tNone := Op.store 24 (t6) (t113)
                intro zx1 zx2 zx3 zx4 L V W hL hd hw hst u0 e0 p0
                obtain rfl : u0 = _ := p0
                exact ob_set (k := 0) (g := g6) rfl rfl rfl rfl e0 rfl (by decide) hL rfl disk_info (one4 rfl _ _ _) hst
              · -- 8: t10 := Op.assign (t119)
                intro zx1 zx2 zx3 zx4 L V W hL hd hw hst u6 e6 p6
                refine ob_v u6 (by first | rfl | (simp [wantE, dstOf, zx1]; done)) ?_ hst rfl p6
                go_simp
            case en =>
              intro V W hst u0 e0 p0 u1 e1 p1 u2 e2 p2 u3 e3 p3 u4 e4 p4 u5 e5 p5 u6 e6 p6 u8 e8 p8
              obtain rfl : u0 = _ := p0
              obtain rfl : u1 = _ := p1
              obtain rfl : u2 = _ := p2
              obtain rfl : u3 = _ := p3
              obtain rfl : u4 = _ := p4
              obtain rfl : u5 = _ := p5
              obtain ⟨bl, ql, rfl, kl⟩ := p6
              obtain ⟨b8, q8, rfl, k8⟩ := p8
              simp only [EndAll, Act.put, List.getElem_toArray, List.getElem_cons_succ, List.getElem_cons_zero, List.setIfInBounds_toArray, List.set_cons_zero, List.set_cons_succ]
              have h4 := hst.put (P := (IsLists · (.slice b8 (Y ++ R).length q8) (Y ++ R))) (Mono.lists _ _) k8
              rw [osS_end e0] at h4
              have h5 := h4.facts (fs' := [(IsDk · (dkS bz qz Z) Z), (IsLists · (.slice xb2 NX2 xq2) X2), (IsLists · (.slice b8 (Y ++ R).length q8) (Y ++ R)), (IsBats · (.slice ab A aq) la), (IsBats · (.slice (some ⟨gA, oA, none⟩) B bq) lb)]) (fun P hP => by simp only [List.mem_cons, List.not_mem_nil, or_false] at hP ⊢; rcases hP with rfl | rfl | rfl | rfl | rfl <;> simp)
              clear hst h4
              have HYF := (Lib.hid ⟨rfl, by rw [List.length_append, HNR.out]; have := HXY.out; omega⟩ : Hid ((Y ++ R).length = (Y ++ R).length ∧ (Y ++ R).length ≤ 200 * k + 200))
              go_wp2_with fail
              go_roundw
              case rel => exact ⟨k + 1, Z, bz, qz, X2, xb2, NX2, xq2, Y ++ R, b8, _, q8, by omega, by go_num, rfl, rfl, Lib.hid ⟨HX2.out.1, by have := HX2.out.2; omega, HYF.out.1, by have := HYF.out.2; omega⟩, (Lib.hid (two_hi HT2.out (by rw [HNR.out]; omega) HAL2.out HZ.out)), h5⟩
              case measure => simp [intOf]; omega
          · have hcb := beq_of hc
            have h3 := h2.facts (fs' := [(IsDk · (dkS b2 q2 D2) D2), (IsLists · (.slice xb2 NX2 xq2) X2), (IsLists · (.slice yb NY yq) Y), (IsBats · (.slice ab A aq) la), (IsBats · (.slice (some ⟨gA, oA, none⟩) B bq) lb)]) (fun P hP => by simp only [List.mem_cons, List.not_mem_nil, or_false] at hP ⊢; rcases hP with rfl | rfl | rfl | rfl | rfl <;> simp)
            clear h2
            have HYF := (Lib.hid ⟨HXY.out.2.2.1, by have := HXY.out.2.2.2; omega⟩ : Hid (Y.length = NY ∧ NY ≤ 200 * k + 200))
            go_wp2_with fail
            go_roundw
            case rel => exact ⟨k + 1, D2, b2, q2, X2, xb2, NX2, xq2, Y, yb, NY, yq, by omega, by go_num, rfl, rfl, Lib.hid ⟨HX2.out.1, by have := HX2.out.2; omega, HYF.out.1, by have := HYF.out.2; omega⟩, HT2, h3⟩
            case measure => simp [intOf]; omega
    · have hkAi : ¬ (k : Int) < (A : Int) := by omega
      have hkBi : ¬ (k : Int) < (B : Int) := by omega
      obtain ⟨⟨E1, hE1⟩, E2, hE2⟩ := HT.out
      have H1 := Lib.hid hE1
      have H2 := Lib.hid hE2
      clear hE1 hE2
      go_wp2_with (refine wpList_load_row rfl 24 (.tmp 6) rfl g6 rfl 24 _ (0, 0) _ (hst.at_ 0 rfl) Try.underlying24 rfl disk_info ?_)
      refine (read_s hst (d := D) (f := 0) (m := 40) H1.out.is (by omega) (by omega) (hst.is 0 rfl)).mono ?_
      rintro e w7 ⟨b7, q7, rfl, h7⟩
      clear hst
      go_wp2_with (refine wpList_load_row rfl 24 (.tmp 6) rfl g6 rfl 24 _ (0, 0) _ (h7.at_ 0 rfl) Try.underlying24 rfl disk_info ?_)
      refine (read_s h7 (d := D) (f := 40) (m := 40) H2.out.is (by omega) (by omega) (h7.is 1 rfl)).mono ?_
      rintro e w8 ⟨b8, q8, rfl, h8⟩
      clear h7
      go_wp2_with fail
      refine (same_s h8 (a := X) (b := X) (decide_eq_true rfl) (h8.is 1 rfl) (h8.is 3 rfl)).mono ?_
      rintro e w9 ⟨rfl, h9⟩
      clear h8
      go_wp2_with fail
      refine (same_s h9 (a := Y) (b := Y) (decide_eq_true rfl) (h9.is 0 rfl) (h9.is 4 rfl)).mono ?_
      rintro e w10 ⟨rfl, h10⟩
      clear h9
      go_wp2_with fail
      go_ret
      exact ⟨rfl, h10.below⟩
end Go.Proofs.Ytnfgapdpnihicaa
