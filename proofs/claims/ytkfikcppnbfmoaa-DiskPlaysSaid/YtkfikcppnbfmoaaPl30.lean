/- The walk of the law DiskPlays. -/
import Derived.Test.YtkfikcppnbfmoaaChecked
import Derived.Test.YtkfikcppnbfmoaaPc30
import Derived.Test.YtkfikcppnbfmoaaRefR30
import Derived.BigQuiet
import Derived.Deep.CutBlock
set_option linter.unusedVariables false
namespace Go.Proofs.Ytkfikcppnbfmoaa
open Go.RowKit

theorem dk_write_gen {d : Dk} (hd : d.Ok) (i : Int) (b : List UInt8) : ∃ D x, d.write i b = (D, x) ∧ D.sec.length ≤ 4096 ∧ (x ≠ 1 → D.Ok) := by
  by_cases h : i < 0 ∨ (d.sec.length : Int) ≤ i ∨ b.length ≠ 128
  · refine ⟨Dk.zero, 1, ?_, by simp [Dk.zero], fun h => absurd rfl h⟩
    unfold Dk.write
    rw [if_pos (by rcases h with h | h | h <;> simp [h])]
  · simp only [not_or, Int.not_lt, Int.not_le, Decidable.not_not] at h
    obtain ⟨h1, h2, h3⟩ := h
    obtain ⟨n, rfl⟩ := Int.eq_ofNat_of_zero_le h1
    obtain ⟨e, ok, sl⟩ := dk_write_ok hd n (by omega) b h3
    exact ⟨_, _, e, ok.many, fun _ => ok⟩
theorem dk_fail_gen {d : Dk} (hd : d.Ok) (l t : Int) : ∃ D x, d.fail l t = (D, x) ∧ D.sec.length ≤ 4096 ∧ (x = 0 → D.Ok) := by
  by_cases h : l < 0 ∨ 1099511627776 < l ∨ t < 0 ∨ 128 < t
  · refine ⟨Dk.zero, 1, ?_, by simp [Dk.zero], fun h => by cases h⟩
    unfold Dk.fail
    rw [if_pos (.inr h)]
  · cases hs : d.stopped with
    | true =>
      refine ⟨Dk.zero, 300, ?_, by simp [Dk.zero], fun h => by cases h⟩
      unfold Dk.fail
      rw [if_neg (by simp only [(Dk.valid_iff d).2 hd, Bool.true_eq_false, false_or]; exact h), if_pos hs]
    | false =>
      simp only [not_or, Int.not_lt] at h
      obtain ⟨e, ok⟩ := dk_fail_ok hd hs l t h.1 h.2.1 h.2.2.1 h.2.2.2
      exact ⟨_, _, e, ok.many, fun _ => ok⟩
@[reducible] def acA (kd at_ : Int) (fl : UInt8) (sz lf tr : Int) : Array Value := #[.int .i64 kd, .int .i64 at_, .int .u8 (fl.toNat : Int), .int .i64 sz, .int .i64 lf, .int .i64 tr]
theorem act_row : (Try.prog.info? 33).map (·.size) = some 6 := by kernel_rfl
theorem six (a : Array Value) (v0 v1 v2 v3 v4 v5 : Value) (ha : a = #[v0, v1, v2, v3, v4, v5]) (h0 : v0.oneCell' = true) (h1 : v1.oneCell' = true) (h2 : v2.oneCell' = true) (h3 : v3.oneCell' = true) (h4 : v4.oneCell' = true) (h5 : v5.oneCell' = true) : a.all (·.oneCell') = true := by
  subst ha
  rw [Array.all_eq_true_iff_forall_mem]
  intro x hx
  simp at hx
  rcases hx with rfl | rfl | rfl | rfl | rfl | rfl <;> assumption
def PlInv (w0 : World) (n g2 g1 : Nat) (v : Value) (one : List ActL) (c : Value) (wr : World) : Prop :=
  ∃ (k : Nat) (D : Dk) (b1 : Option Addr) (q1 : Nat) (b2 : Option Addr) (q2 : Nat), k ≤ one.length ∧ c = .int .i64 k ∧ D.Ok ∧ St w0 wr [(g2, dkB b2 q2 D), (g1, dkB b1 q1 D)] [(IsDk · (dkS b2 q2 D) D), (IsDk · (dkS b1 q1 D) D), (IsActs · v one)]
def PlMid (w0 : World) (g2 g1 : Nat) (v : Value) (one : List ActL) (wr : World) : Prop :=
  ∃ (D : Dk) (b1 : Option Addr) (q1 : Nat) (b2 : Option Addr) (q2 : Nat), D.Ok ∧ St w0 wr [(g2, dkB b2 q2 D), (g1, dkB b1 q1 D)] [(IsDk · (dkS b2 q2 D) D), (IsDk · (dkS b1 q1 D) D), (IsActs · v one)]
theorem ac_cells {g : Nat} {W : World} {kd at_ : Int} {fl : UInt8} {sz lf tr : Int} {t : TypeId} (h : W.heap[g]? = some (.cells (acA kd at_ fl sz lf tr) t (0, 0))) :
    W.cell? ⟨g, 0, none⟩ = some (.int .i64 kd) ∧ W.cell? ⟨g, 1, none⟩ = some (.int .i64 at_) ∧ W.cell? ⟨g, 2, none⟩ = some (.int .u8 (fl.toNat : Int)) ∧ W.cell? ⟨g, 3, none⟩ = some (.int .i64 sz) ∧ W.cell? ⟨g, 4, none⟩ = some (.int .i64 lf) ∧ W.cell? ⟨g, 5, none⟩ = some (.int .i64 tr) := by
  refine ⟨?_, ?_, ?_, ?_, ?_, ?_⟩ <;> rw [cell_of_row _ _ _ _ _ _ h] <;> rfl

set_option maxHeartbeats 16000000 in
set_option maxRecDepth 100000 in
theorem plays_walk (w : World) (s0 : Int) (v1 : Value) (l1 : List ActL) (hv1 : IsActs w v1 l1) :
    Calls Try.prog 3 #[.int .i64 s0, v1] w fun e w' => e = .returned (.bool true) ∧ Below w.heap.size w w' := by
  have h0 := (St.start w).putOld (Mono.acts v1 l1) hv1
  have hn := smallN_le s0
  go_enter Try.func3, Try.ntmps3
  go_wp2_with fail
  refine (small_s h0 s0).mono ?_
  rintro e w0 ⟨rfl, rfl⟩
  obtain ⟨n, hnn⟩ : ∃ n, smallN s0 = n := ⟨_, rfl⟩
  rw [hnn] at hn ⊢
  have HN := Lib.hid hnn
  clear hnn
  obtain ⟨hn1, hn8⟩ := hn
  go_wp2_with fail
  refine (new_s h0 n (Dk.made n) 0 (dk_made_ok n hn1 (by omega)).2).mono ?_
  rintro e w1 ⟨b1, q1, rfl, h1⟩
  go_upto_region 2 with (refine wpList_store_row rfl 25 (.tmp 5) (.tmp 28) rfl w1.heap.size (dkA b1 q1 (Dk.made n)) rfl rfl 25 _ (heap_alloc_new _ _) disk_info rfl (one4 rfl _ _ _) ?_)
  replace h1 := h1.newVar #[.slice none 0 0, .int .i64 0, .int .i64 0, .bool false] (dkA b1 q1 (Dk.made n)) 25
  generalize World.setRow _ _ _ = W1 at h1 ⊢
  generalize w1.heap.size = g1 at h1 ⊢
  go_wp2_with fail
  refine (small_s h1 s0).mono ?_
  rintro e w0 ⟨rfl, rfl⟩
  rw [HN.out]
  go_wp2_with fail
  refine (refNew_s h1 n (Dk.made n) 0 (dk_made_ok n hn1 (by omega)).2).mono ?_
  rintro e w2 ⟨b2, q2, rfl, h2⟩
  go_upto_region 3 with (refine wpList_store_row rfl 25 (.tmp 7) (.tmp 34) rfl w2.heap.size (dkA b2 q2 (Dk.made n)) rfl rfl 25 _ (heap_alloc_new _ _) disk_info rfl (one4 rfl _ _ _) ?_)
  replace h2 := h2.newVar #[.slice none 0 0, .int .i64 0, .int .i64 0, .bool false] (dkA b2 q2 (Dk.made n)) 25
  generalize World.setRow _ _ _ = W2 at h2 ⊢
  generalize w2.heap.size = g2 at h2 ⊢
  have hok1 := (dk_made_ok n hn1 (by omega)).1
  generalize Dk.made n = D1 at h2 hok1 ⊢
  go_wp2_with fail
  refine (few_s h2 v1 l1 60 (h2.get 2 rfl)).mono ?_
  rintro e w3 ⟨b3, q3, rfl, h3⟩
  generalize l1.take 60 = one at h3 ⊢
  replace h3 := h3.facts (fs' := [(IsDk · (dkS b2 q2 D1) D1), (IsDk · (dkS b1 q1 D1) D1), (IsActs · (.slice b3 one.length q3) one)]) (fun P hP => by simp only [List.mem_cons, List.not_mem_nil, or_false] at hP ⊢; rcases hP with rfl | rfl | rfl <;> simp)
  obtain ⟨c0, c1, c2, c3, -, -⟩ := dkO_cells (h3.at_ 1 rfl)
  obtain ⟨d0, d1, d2, d3, -, -⟩ := dkO_cells (h3.at_ 0 rfl)
  go_wp2_with (first | (go_at_call 12; (refine (sameDisk_s h3 _ _ D1 (by have := hok1.many; omega) (h3.is 1 rfl) (h3.is 0 rfl)).mono ?_); rintro e w4 ⟨rfl, h4⟩))
  clear h3 h2 h1 h0 c0 c1 c2 c3 d0 d1 d2 d3
  go_loopw [10] (PlInv w n g2 g1 (.slice b3 one.length q3) one) (fun c _ => one.length - (intOf c).toNat)
  case atStart => exact ⟨0, D1, b1, q1, b2, q2, by omega, rfl, hok1, h4⟩
  case round =>
    clear h4 hok1
    obtain ⟨k, D, b1, q1, b2, q2, hk, rfl, hok, hst⟩ := hrel
    have HOK : Hid D.Ok := Lib.hid hok
    by_cases hlt : k < one.length
    · obtain ⟨_, _, e, hac, ham, hc⟩ := (hst.is 2 rfl : IsActs _ _ _).out
      cases e
      obtain ⟨ab, ao, rfl, ac0, ac1, ac2, ac3, ac4, ac5⟩ := hc k hlt
      clear hc
      generalize one[k] = aa at ac0 ac1 ac2 ac3 ac4 ac5
      obtain ⟨kd, at_, fl, sz, lf, tr⟩ := aa
      have i1 : (k : Int) < (one.length : Int) := by omega
      have hk0 : (0 : Int) ≤ (k : Int) := by omega
      go_upto_region 10 with (refine wpList_store_row rfl 33 (.tmp 11) (.tmp 56) rfl wr.heap.size (acA kd at_ fl sz lf tr) rfl rfl 33 _ (heap_alloc_new _ _) act_row rfl (six _ _ _ _ _ _ _ rfl rfl rfl rfl rfl rfl rfl) ?_)
      have h5 := hst.newVar (cs0 := #[.int .i64 0, .int .i64 0, .int .u8 0, .int .i64 0, .int .i64 0, .int .i64 0]) (acA kd at_ fl sz lf tr) 33
      generalize World.setRow _ _ _ = W5 at h5 ⊢
      generalize wr.heap.size = ga at h5 ⊢
      clear hst ac0 ac1 ac2 ac3 ac4 ac5
      obtain ⟨ac0, ac1, ac2, ac3, ac4, ac5⟩ := ac_cells (h5.at_ 0 rfl)
      go_upto_block 2 with fail
      clear ac0 ac1 ac2 ac3 ac4 ac5
      go_cut [] from 59 to 159 (PlMid w g2 g1 (.slice (some ⟨ab, ao, none⟩) one.length q3) one)
      case first =>
        by_cases k0 : kd = 0
        · subst k0
          have ac := ac_cells (h5.at_ 0 rfl)
          have ac1 := ac.2.1
          clear ac
          obtain ⟨l, x, hrd⟩ : ∃ l x, D.read at_ = (l, x) := ⟨_, _, rfl⟩
          have HRD := Lib.hid hrd
          clear hrd
          obtain ⟨c0, c1, c2, c3, -, -⟩ := dkO_cells (h5.at_ 2 rfl)
          go_wp2_with fail
          refine (read_s h5 _ D at_ l x HRD.out (h5.get 1 rfl)).mono ?_
          rintro e w6 ⟨b6, q6, rfl, h6⟩
          clear c0 c1 c2 c3 ac1
          obtain ⟨d0, d1, d2, d3, -, -⟩ := dkO_cells (h6.at_ 1 rfl)
          have ac := ac_cells (h6.at_ 0 rfl)
          have ac1 := ac.2.1
          clear ac
          go_wp2_with fail
          refine (refRead_s h6 _ D at_ l x HRD.out HOK.out (h6.get 1 rfl)).mono ?_
          rintro e w7 ⟨b7, q7, rfl, h7⟩
          clear d0 d1 d2 d3 ac1
          go_wp2_with (first | (go_at_call 15; (refine (same_s h7 _ _ l (h7.is 1 rfl) (h7.is 0 rfl)).mono ?_); rintro e w8 ⟨rfl, h8⟩))
          go_meet
          case rel => exact ⟨D, b1, q1, b2, q2, hok, (h8.pop.pop).loose (os1 := [])⟩
        by_cases k1 : kd = 1
        · subst k1
          obtain ⟨lb, hlb⟩ : ∃ lb, fillL fl (fillN sz) = lb := ⟨_, rfl⟩
          have HLB := Lib.hid hlb
          clear hlb k0
          obtain ⟨Y, x, hY, hYm, hYok⟩ := dk_write_gen hok at_ lb
          have HW := Lib.hid hY
          have HY := Lib.hid hYok
          clear hY hYok
          go_upto_region 19 with fail
          refine wp_region_st [pVal (dkS b1 q1 D), pVal ?c1, pVal ?c2, pVal ?c3, pVal ?c4, pVal ?c5, pVal ?c6, pBytes lb, pDkT Y x, pDkT Y x, pDk Y, pVal ?c11, pPtr, pAny, pVal ?c14] (osN 12 13 10 25 (.cells dkZv.cells 25 (0, 0)) [(ga, .cells (acA 1 at_ fl sz lf tr) 33 (0, 0)), (g2, dkB b2 q2 D), (g1, dkB b1 q1 D)]) 170 [0, 0, 2, 0, 8, 0, 32, 120, 255, 511, 1023, 1023, 0, 6143, 16383] [[], [], [(1, 92)], [], [(3, 94)], [], [(5, 96)], [(6, 97), (4, 95)], [(7, 98), (2, 93), (0, 91)], [(8, 99)], [(9, 90)], [(9, 90)], [], [(10, 100), (12, 16)], [(11, 101)]] [(0, 91), (1, 92), (2, 93), (3, 94), (4, 95), (5, 96), (6, 97), (7, 98), (8, 99), (9, 90), (10, 100), (11, 101), (12, 16), (14, 17)] (by kernel_rfl) (by kernel_rfl) rfl rfl h5 osN0 (osN1 (by decide) (by decide)) ?ob ?en
          case ob =>
            refine ⟨?_, ?_, ?_, ?_, ?_, ?_, ?_, ?_, ?_, ?_, ?_, ?_, ?_, ?_, ?_, trivial⟩
            · -- 0: t91 := Op.load 25 (t5)
              intro X1 X2 X3 X4 L V W hL hd hw hst 
              exact ob_c rfl (run_load_own rfl rfl (hst.find (g := g1) (o := dkB b1 q1 D) (osN_mem (by simp) L V)) Try.underlying25 rfl disk_info) hst rfl
            · -- 1: t92 := Op.fieldAddr 33 (t11) 1
              intro X1 X2 X3 X4 L V W hL hd hw hst 
              refine ob_c rfl ?_ hst rfl
              go_simp
              try with_reducible rfl
            · -- 2: t93 := Op.load 3 (t92)
              intro X1 X2 X3 X4 L V W hL hd hw hst u1 e1 p1
              obtain rfl : u1 = _ := p1
              refine ob_c rfl ?_ hst rfl
              have ac := ac_cells (hst.find (g := ga) (o := .cells (acA 1 at_ fl sz lf tr) 33 (0, 0)) (osN_mem (by simp) L V)); have a1 := ac.2.1; have a2 := ac.2.2.1; have a3 := ac.2.2.2.1; clear ac
              go_simp
              try with_reducible rfl
            · -- 3: t94 := Op.fieldAddr 33 (t11) 2
              intro X1 X2 X3 X4 L V W hL hd hw hst 
              refine ob_c rfl ?_ hst rfl
              go_simp
              try with_reducible rfl
            · -- 4: t95 := Op.load 5 (t94)
              intro X1 X2 X3 X4 L V W hL hd hw hst u3 e3 p3
              obtain rfl : u3 = _ := p3
              refine ob_c rfl ?_ hst rfl
              have ac := ac_cells (hst.find (g := ga) (o := .cells (acA 1 at_ fl sz lf tr) 33 (0, 0)) (osN_mem (by simp) L V)); have a1 := ac.2.1; have a2 := ac.2.2.1; have a3 := ac.2.2.2.1; clear ac
              go_simp
              try with_reducible rfl
            · -- 5: t96 := Op.fieldAddr 33 (t11) 3
              intro X1 X2 X3 X4 L V W hL hd hw hst 
              refine ob_c rfl ?_ hst rfl
              go_simp
              try with_reducible rfl
            · -- 6: t97 := Op.load 3 (t96)
              intro X1 X2 X3 X4 L V W hL hd hw hst u5 e5 p5
              obtain rfl : u5 = _ := p5
              refine ob_c rfl ?_ hst rfl
              have ac := ac_cells (hst.find (g := ga) (o := .cells (acA 1 at_ fl sz lf tr) 33 (0, 0)) (osN_mem (by simp) L V)); have a1 := ac.2.1; have a2 := ac.2.2.1; have a3 := ac.2.2.2.1; clear ac
              go_simp
              try with_reducible rfl
            · -- 7: t98 := Op.call { callee := value (func 17), args := #[t95, t97], argTypes := #[5, 3] }
              intro X1 X2 X3 X4 L V W hL hd hw hst u4 e4 p4 u6 e6 p6
              obtain rfl : u4 = _ := p4
              obtain rfl : u6 = _ := p6
              refine ob_call rfl ?_ (fill_p hst fl sz _ HLB.out)
              go_simp
            · -- 8: t99 := Op.call { callee := value (func 16), args := #[t91, t93, t98], argTypes := #[25, 3, 34] }
              intro X1 X2 X3 X4 L V W hL hd hw hst u0 e0 p0 u2 e2 p2 u7 e7 p7
              obtain rfl : u0 = _ := p0
              obtain rfl : u2 = _ := p2
              obtain ⟨b7, q7, rfl, hb7⟩ := p7
              refine ob_call rfl ?_ (write_p hst _ D at_ _ lb Y x HW.out (hst.base 1 rfl) hb7)
              go_simp
            · -- 9: t90 := Op.move (t99)
              intro X1 X2 X3 X4 L V W hL hd hw hst u8 e8 p8
              refine ob_v u8 rfl ?_ hst rfl p8
              go_simp
            · -- 10: t100 := Op.extract (t90) 0
              intro X1 X2 X3 X4 L V W hL hd hw hst u9 e9 p9
              obtain ⟨b9, q9, rfl, hd9⟩ := p9
              refine ob_v (dkS b9 q9 Y) rfl ?_ hst (osN_keep (hw 13 rfl (by decide)) (by decide) (by decide)) ⟨b9, q9, rfl, hd9⟩
              go_simp
            · -- 11: t101 := Op.extract (t90) 1
              intro X1 X2 X3 X4 L V W hL hd hw hst u9 e9 p9
              obtain ⟨b9, q9, rfl, hd9⟩ := p9
              refine ob_c rfl ?_ hst rfl
              go_simp
              try with_reducible rfl
            · -- 12: t16 := Op.alloc 25
              intro X1 X2 X3 X4 L V W hL hd hw hst 
              exact ob_new _ rfl rfl dk_zero_var rfl (by decide) hL (hw 13 rfl (by decide)) rfl hst
            · -- 13: tNone := Op.store 25 (t16) (t100)
              intro X1 X2 X3 X4 L V W hL hd hw hst u12 e12 p12 u10 e10 p10
              obtain ⟨gy, rfl⟩ := p12
              obtain ⟨by_, qy, rfl, hd10⟩ := p10
              exact ob_put (ia := 12) (k := 10) (z := dkZv) rfl rfl rfl rfl e12 e10 rfl (by decide) (by decide) (hd 12 rfl) hL rfl disk_info (one4 rfl _ _ _) hst
            · -- 14: t17 := Op.assign (t101)
              intro X1 X2 X3 X4 L V W hL hd hw hst u11 e11 p11
              obtain rfl : u11 = _ := p11
              refine ob_c rfl ?_ hst rfl
              go_simp
              try with_reducible rfl
          case en =>
            intro V W hst u0 e0 p0 u1 e1 p1 u2 e2 p2 u3 e3 p3 u4 e4 p4 u5 e5 p5 u6 e6 p6 u7 e7 p7 u8 e8 p8 u9 e9 p9 u10 e10 p10 u11 e11 p11 u12 e12 p12 u14 e14 p14
            obtain rfl : u0 = _ := p0
            obtain rfl : u1 = _ := p1
            obtain rfl : u2 = _ := p2
            obtain rfl : u3 = _ := p3
            obtain rfl : u4 = _ := p4
            obtain rfl : u5 = _ := p5
            obtain rfl : u6 = _ := p6
            obtain ⟨b7, q7, rfl, hb7⟩ := p7
            obtain ⟨b8, q8, rfl, hd8⟩ := p8
            obtain ⟨b9, q9, rfl, hd9⟩ := p9
            obtain ⟨by_, qy, rfl, hd10⟩ := p10
            obtain rfl : u11 = _ := p11
            obtain ⟨gy, rfl⟩ := p12
            obtain rfl : u14 = _ := p14
            simp only [EndAll, Act.put, List.getElem_toArray, List.getElem_cons_succ, List.getElem_cons_zero, List.setIfInBounds_toArray, List.set_cons_zero, List.set_cons_succ]
            have h6 := hst.put (Mono.dk _ _) hd10
            rw [osN_end e12 e10] at h6
            clear hst h5 e0 e1 e2 e3 e4 e5 e6 e7 e8 e9 e10 e11 e12 e14
            skip
            go_upto_region 20 with fail
            refine wp_region_st [pVal (dkS b2 q2 D), pVal ?c1, pVal ?c2, pVal ?c3, pVal ?c4, pVal ?c5, pVal ?c6, pBytes lb, pDkT Y x, pDkT Y x, pDk Y, pVal ?c11, pPtr, pAny, pVal ?c14] (osN 12 13 10 25 (.cells dkZv.cells 25 (0, 0)) [(gy, dkB by_ qy Y), (ga, .cells (acA 1 at_ fl sz lf tr) 33 (0, 0)), (g2, dkB b2 q2 D), (g1, dkB b1 q1 D)]) 170 [0, 0, 2, 0, 8, 0, 32, 120, 255, 511, 1023, 1023, 0, 6143, 16383] [[], [], [(1, 104)], [], [(3, 106)], [], [(5, 108)], [(6, 109), (4, 107)], [(7, 110), (2, 105), (0, 103)], [(8, 111)], [(9, 102)], [(9, 102)], [], [(10, 112), (12, 18)], [(11, 113)]] [(0, 103), (1, 104), (2, 105), (3, 106), (4, 107), (5, 108), (6, 109), (7, 110), (8, 111), (9, 102), (10, 112), (11, 113), (12, 18), (14, 19)] (by kernel_rfl) (by kernel_rfl) rfl rfl h6 osN0 (osN1 (by decide) (by decide)) ?ob ?en
            case ob =>
              refine ⟨?_, ?_, ?_, ?_, ?_, ?_, ?_, ?_, ?_, ?_, ?_, ?_, ?_, ?_, ?_, trivial⟩
              · -- 0: t103 := Op.load 25 (t7)
                intro X1 X2 X3 X4 L V W hL hd hw hst 
                exact ob_c rfl (run_load_own rfl rfl (hst.find (g := g2) (o := dkB b2 q2 D) (osN_mem (by simp) L V)) Try.underlying25 rfl disk_info) hst rfl
              · -- 1: t104 := Op.fieldAddr 33 (t11) 1
                intro X1 X2 X3 X4 L V W hL hd hw hst 
                refine ob_c rfl ?_ hst rfl
                go_simp
                try with_reducible rfl
              · -- 2: t105 := Op.load 3 (t104)
                intro X1 X2 X3 X4 L V W hL hd hw hst u1 e1 p1
                obtain rfl : u1 = _ := p1
                refine ob_c rfl ?_ hst rfl
                have ac := ac_cells (hst.find (g := ga) (o := .cells (acA 1 at_ fl sz lf tr) 33 (0, 0)) (osN_mem (by simp) L V)); have a1 := ac.2.1; have a2 := ac.2.2.1; have a3 := ac.2.2.2.1; clear ac
                go_simp
                try with_reducible rfl
              · -- 3: t106 := Op.fieldAddr 33 (t11) 2
                intro X1 X2 X3 X4 L V W hL hd hw hst 
                refine ob_c rfl ?_ hst rfl
                go_simp
                try with_reducible rfl
              · -- 4: t107 := Op.load 5 (t106)
                intro X1 X2 X3 X4 L V W hL hd hw hst u3 e3 p3
                obtain rfl : u3 = _ := p3
                refine ob_c rfl ?_ hst rfl
                have ac := ac_cells (hst.find (g := ga) (o := .cells (acA 1 at_ fl sz lf tr) 33 (0, 0)) (osN_mem (by simp) L V)); have a1 := ac.2.1; have a2 := ac.2.2.1; have a3 := ac.2.2.2.1; clear ac
                go_simp
                try with_reducible rfl
              · -- 5: t108 := Op.fieldAddr 33 (t11) 3
                intro X1 X2 X3 X4 L V W hL hd hw hst 
                refine ob_c rfl ?_ hst rfl
                go_simp
                try with_reducible rfl
              · -- 6: t109 := Op.load 3 (t108)
                intro X1 X2 X3 X4 L V W hL hd hw hst u5 e5 p5
                obtain rfl : u5 = _ := p5
                refine ob_c rfl ?_ hst rfl
                have ac := ac_cells (hst.find (g := ga) (o := .cells (acA 1 at_ fl sz lf tr) 33 (0, 0)) (osN_mem (by simp) L V)); have a1 := ac.2.1; have a2 := ac.2.2.1; have a3 := ac.2.2.2.1; clear ac
                go_simp
                try with_reducible rfl
              · -- 7: t110 := Op.call { callee := value (func 17), args := #[t107, t109], argTypes := #[5, 3] }
                intro X1 X2 X3 X4 L V W hL hd hw hst u4 e4 p4 u6 e6 p6
                obtain rfl : u4 = _ := p4
                obtain rfl : u6 = _ := p6
                refine ob_call rfl ?_ (fill_p hst fl sz _ HLB.out)
                go_simp
              · -- 8: t111 := Op.call { callee := value (func 18), args := #[t103, t105, t110], argTypes := #[25, 3, 34] }
                intro X1 X2 X3 X4 L V W hL hd hw hst u0 e0 p0 u2 e2 p2 u7 e7 p7
                obtain rfl : u0 = _ := p0
                obtain rfl : u2 = _ := p2
                obtain ⟨b7, q7, rfl, hb7⟩ := p7
                refine ob_call rfl ?_ (refWrite_p hst _ D at_ _ lb Y x HW.out HOK.out (hst.base 1 rfl) hb7)
                go_simp
              · -- 9: t102 := Op.move (t111)
                intro X1 X2 X3 X4 L V W hL hd hw hst u8 e8 p8
                refine ob_v u8 rfl ?_ hst rfl p8
                go_simp
              · -- 10: t112 := Op.extract (t102) 0
                intro X1 X2 X3 X4 L V W hL hd hw hst u9 e9 p9
                obtain ⟨b9, q9, rfl, hd9⟩ := p9
                refine ob_v (dkS b9 q9 Y) rfl ?_ hst (osN_keep (hw 13 rfl (by decide)) (by decide) (by decide)) ⟨b9, q9, rfl, hd9⟩
                go_simp
              · -- 11: t113 := Op.extract (t102) 1
                intro X1 X2 X3 X4 L V W hL hd hw hst u9 e9 p9
                obtain ⟨b9, q9, rfl, hd9⟩ := p9
                refine ob_c rfl ?_ hst rfl
                go_simp
                try with_reducible rfl
              · -- 12: t18 := Op.alloc 25
                intro X1 X2 X3 X4 L V W hL hd hw hst 
                exact ob_new _ rfl rfl dk_zero_var rfl (by decide) hL (hw 13 rfl (by decide)) rfl hst
              · -- 13: tNone := Op.store 25 (t18) (t112)
                intro X1 X2 X3 X4 L V W hL hd hw hst u12 e12 p12 u10 e10 p10
                obtain ⟨gx, rfl⟩ := p12
                obtain ⟨b10, q10, rfl, hd10⟩ := p10
                exact ob_put (ia := 12) (k := 10) (z := dkZv) rfl rfl rfl rfl e12 e10 rfl (by decide) (by decide) (hd 12 rfl) hL rfl disk_info (one4 rfl _ _ _) hst
              · -- 14: t19 := Op.assign (t113)
                intro X1 X2 X3 X4 L V W hL hd hw hst u11 e11 p11
                obtain rfl : u11 = _ := p11
                refine ob_c rfl ?_ hst rfl
                go_simp
                try with_reducible rfl
            case en =>
              intro V W hst u0 e0 p0 u1 e1 p1 u2 e2 p2 u3 e3 p3 u4 e4 p4 u5 e5 p5 u6 e6 p6 u7 e7 p7 u8 e8 p8 u9 e9 p9 u10 e10 p10 u11 e11 p11 u12 e12 p12 u14 e14 p14
              obtain rfl : u0 = _ := p0
              obtain rfl : u1 = _ := p1
              obtain rfl : u2 = _ := p2
              obtain rfl : u3 = _ := p3
              obtain rfl : u4 = _ := p4
              obtain rfl : u5 = _ := p5
              obtain rfl : u6 = _ := p6
              obtain ⟨b7, q7, rfl, hb7⟩ := p7
              obtain ⟨b8, q8, rfl, hd8⟩ := p8
              obtain ⟨b9, q9, rfl, hd9⟩ := p9
              obtain ⟨b10, q10, rfl, hd10⟩ := p10
              obtain rfl : u11 = _ := p11
              obtain ⟨gx, rfl⟩ := p12
              obtain rfl : u14 = _ := p14
              simp only [EndAll, Act.put, List.getElem_toArray, List.getElem_cons_succ, List.getElem_cons_zero, List.setIfInBounds_toArray, List.set_cons_zero, List.set_cons_succ]
              have h7 := hst.put (Mono.dk _ _) hd10
              rw [osN_end e12 e10] at h7
              clear hst h6 e0 e1 e2 e3 e4 e5 e6 e7 e8 e9 e10 e11 e12 e14
              obtain ⟨c0, c1, c2, c3, -, -⟩ := dkO_cells (h7.at_ 0 rfl)
              obtain ⟨d0, d1, d2, d3, -, -⟩ := dkO_cells (h7.at_ 1 rfl)
              by_cases hx : x = 1
              · subst hx
                go_wp2_with (first | (go_at_call 12; (refine (sameDisk_s h7 _ _ Y (by omega) (h7.is 1 rfl) (h7.is 0 rfl)).mono ?_); rintro e w8 ⟨rfl, h8⟩))
                go_meet
                case rel => exact ⟨D, b1, q1, b2, q2, hok, ((((h8.pop.pop).loose (os1 := [])).loose (os1 := [])).loose (os1 := []))⟩
              · have hx1 : (x != 1) = true := by simpa using hx
                have hx2 : (x == 1) = false := by simpa using hx
                go_upto_region 23 with (first | (go_at_call 12; (refine (sameDisk_s h7 _ _ Y (by omega) (h7.is 1 rfl) (h7.is 0 rfl)).mono ?_); rintro e w8 ⟨rfl, h8⟩))
                clear c0 c1 c2 c3 d0 d1 d2 d3
                go_upto_region 25 with (first | (refine wpList_load_row rfl 25 (.tmp 16) rfl gy rfl 25 _ (0, 0) _ (h8.at_ 1 rfl) Try.underlying25 rfl disk_info ?_) | (refine wpList_store_row rfl 25 (.tmp 5) (.tmp 125) rfl g1 (dkA by_ qy Y) rfl rfl 25 _ (h8.at_ 4 rfl) disk_info rfl (one4 rfl _ _ _) ?_))
                have h9 := h8.setRow (os1 := [(gx, dkB b10 q10 Y), (gy, dkB by_ qy Y), (ga, .cells (acA 1 at_ fl sz lf tr) 33 (0, 0)), (g2, dkB b2 q2 D)]) (cs' := dkA by_ qy Y)
                generalize World.setRow _ _ _ = W9 at h9 ⊢
                go_wp2_with (first | (refine wpList_load_row rfl 25 (.tmp 18) rfl gx rfl 25 _ (0, 0) _ (h9.at_ 0 rfl) Try.underlying25 rfl disk_info ?_) | (refine wpList_store_row rfl 25 (.tmp 7) (.tmp 126) rfl g2 (dkA b10 q10 Y) rfl rfl 25 _ (h9.at_ 3 rfl) disk_info rfl (one4 rfl _ _ _) ?_))
                go_meet
                case rel => exact ⟨Y, by_, qy, b10, q10, HY.out hx, (((((h9.setRow (os1 := [(gx, dkB b10 q10 Y), (gy, dkB by_ qy Y), (ga, .cells (acA 1 at_ fl sz lf tr) 33 (0, 0))]) (cs' := dkA b10 q10 Y)).loose (os1 := [])).loose (os1 := [])).loose (os1 := [])).facts (fs' := [(IsDk · (dkS b10 q10 Y) Y), (IsDk · (dkS by_ qy Y) Y), (IsActs · (.slice (some ⟨ab, ao, none⟩) one.length q3) one)]) (fun P hP => by simp only [List.mem_cons, List.not_mem_nil, or_false] at hP ⊢; rcases hP with rfl | rfl | rfl <;> simp))⟩
        by_cases k2 : kd = 2
        · subst k2
          clear k0 k1
          have ac := ac_cells (h5.at_ 0 rfl)
          have ac4 := ac.2.2.2.2.1
          have ac5 := ac.2.2.2.2.2
          clear ac
          obtain ⟨Y, x, hY, hYm, hYok⟩ := dk_fail_gen hok lf tr
          have HW := Lib.hid hY
          have HY := Lib.hid hYok
          clear hY hYok
          obtain ⟨c0, c1, c2, c3, -, -⟩ := dkO_cells (h5.at_ 2 rfl)
          go_wp2_with fail
          refine (fail_s h5 _ D lf tr Y x HW.out (h5.get 1 rfl)).mono ?_
          rintro e w6 ⟨by_, qy, rfl, h6⟩
          clear c0 c1 c2 c3 ac4 ac5
          go_upto_region 28 with (refine wpList_store_row rfl 25 (.tmp 20) (.tmp 136) rfl w6.heap.size (dkA by_ qy Y) rfl rfl 25 _ (heap_alloc_new _ _) disk_info rfl (one4 rfl _ _ _) ?_)
          replace h6 := h6.newVar #[.slice none 0 0, .int .i64 0, .int .i64 0, .bool false] (dkA by_ qy Y) 25
          generalize World.setRow _ _ _ = W6 at h6 ⊢
          generalize w6.heap.size = gy at h6 ⊢
          obtain ⟨d0, d1, d2, d3, -, -⟩ := dkO_cells (h6.at_ 2 rfl)
          have ac := ac_cells (h6.at_ 1 rfl)
          have ac4 := ac.2.2.2.2.1
          have ac5 := ac.2.2.2.2.2
          clear ac
          go_wp2_with fail
          refine (refFail_s h6 _ D lf tr Y x HW.out HOK.out (h6.get 1 rfl)).mono ?_
          rintro e w7 ⟨b10, q10, rfl, h7⟩
          clear d0 d1 d2 d3 ac4 ac5
          go_upto_region 29 with (refine wpList_store_row rfl 25 (.tmp 22) (.tmp 145) rfl w7.heap.size (dkA b10 q10 Y) rfl rfl 25 _ (heap_alloc_new _ _) disk_info rfl (one4 rfl _ _ _) ?_)
          replace h7 := h7.newVar #[.slice none 0 0, .int .i64 0, .int .i64 0, .bool false] (dkA b10 q10 Y) 25
          generalize World.setRow _ _ _ = W7 at h7 ⊢
          generalize w7.heap.size = gx at h7 ⊢
          clear h5 h6
          obtain ⟨c0, c1, c2, c3, -, -⟩ := dkO_cells (h7.at_ 0 rfl)
          obtain ⟨d0, d1, d2, d3, -, -⟩ := dkO_cells (h7.at_ 1 rfl)
          by_cases hx : x = 0
          · subst hx
            go_upto_region 31 with (first | (go_at_call 12; (refine (sameDisk_s h7 _ _ Y (by omega) (h7.is 1 rfl) (h7.is 0 rfl)).mono ?_); rintro e w8 ⟨rfl, h8⟩))
            clear c0 c1 c2 c3 d0 d1 d2 d3
            go_upto_region 33 with (first | (refine wpList_load_row rfl 25 (.tmp 20) rfl gy rfl 25 _ (0, 0) _ (h8.at_ 1 rfl) Try.underlying25 rfl disk_info ?_) | (refine wpList_store_row rfl 25 (.tmp 5) (.tmp 158) rfl g1 (dkA by_ qy Y) rfl rfl 25 _ (h8.at_ 4 rfl) disk_info rfl (one4 rfl _ _ _) ?_))
            have h9 := h8.setRow (os1 := [(gx, dkB b10 q10 Y), (gy, dkB by_ qy Y), (ga, .cells (acA 2 at_ fl sz lf tr) 33 (0, 0)), (g2, dkB b2 q2 D)]) (cs' := dkA by_ qy Y)
            generalize World.setRow _ _ _ = W9 at h9 ⊢
            go_wp2_with (first | (refine wpList_load_row rfl 25 (.tmp 22) rfl gx rfl 25 _ (0, 0) _ (h9.at_ 0 rfl) Try.underlying25 rfl disk_info ?_) | (refine wpList_store_row rfl 25 (.tmp 7) (.tmp 159) rfl g2 (dkA b10 q10 Y) rfl rfl 25 _ (h9.at_ 3 rfl) disk_info rfl (one4 rfl _ _ _) ?_))
            go_meet
            case rel => exact ⟨Y, by_, qy, b10, q10, HY.out (by simp), (((((h9.setRow (os1 := [(gx, dkB b10 q10 Y), (gy, dkB by_ qy Y), (ga, .cells (acA 2 at_ fl sz lf tr) 33 (0, 0))]) (cs' := dkA b10 q10 Y)).loose (os1 := [])).loose (os1 := [])).loose (os1 := [])).facts (fs' := [(IsDk · (dkS b10 q10 Y) Y), (IsDk · (dkS by_ qy Y) Y), (IsActs · (.slice (some ⟨ab, ao, none⟩) one.length q3) one)]) (fun P hP => by simp only [List.mem_cons, List.not_mem_nil, or_false] at hP ⊢; rcases hP with rfl | rfl | rfl <;> simp))⟩
          · have hx1 : (x == 0) = false := by simpa using hx
            have hx2 : (x != 0) = true := by simpa using hx
            go_wp2_with (first | (go_at_call 12; (refine (sameDisk_s h7 _ _ Y (by omega) (h7.is 1 rfl) (h7.is 0 rfl)).mono ?_); rintro e w8 ⟨rfl, h8⟩))
            go_meet
            case rel => exact ⟨D, b1, q1, b2, q2, hok, ((((h8.pop.pop).loose (os1 := [])).loose (os1 := [])).loose (os1 := []))⟩
        · have f0 : (kd == 0) = false := by simpa using k0
          have f1 : (kd == 1) = false := by simpa using k1
          have f2 : (kd == 2) = false := by simpa using k2
          clear k0 k1 k2
          obtain ⟨X, hX, hokX⟩ : ∃ X, D.restart = X ∧ X.Ok := ⟨_, rfl, (dk_restart_ok hok).2⟩
          have HX := Lib.hid hX
          clear hX
          obtain ⟨c0, c1, c2, c3, -, -⟩ := dkO_cells (h5.at_ 2 rfl)
          go_wp2_with fail
          refine (restart_s h5 _ D X HX.out (h5.get 1 rfl)).mono ?_
          rintro e w6 ⟨b6, q6, rfl, h6⟩
          clear c0 c1 c2 c3
          go_upto_region 12 with (refine wpList_store_row rfl 25 (.tmp 5) (.tmp 60) rfl g1 (dkA b6 q6 X) rfl rfl 25 _ (h6.at_ 2 rfl) disk_info rfl (one4 rfl _ _ _) ?_)
          have h7 := h6.setRow (os1 := [(ga, .cells (acA kd at_ fl sz lf tr) 33 (0, 0)), (g2, dkB b2 q2 D)]) (cs' := dkA b6 q6 X)
          generalize World.setRow _ _ _ = W7 at h7 ⊢
          obtain ⟨c0, c1, c2, c3, -, -⟩ := dkO_cells (h7.at_ 1 rfl)
          go_wp2_with fail
          refine (refRestart_s h7 _ D X HX.out HOK.out (h7.get 1 rfl)).mono ?_
          rintro e w8 ⟨b8, q8, rfl, h8⟩
          clear c0 c1 c2 c3
          go_wp2_with (refine wpList_store_row rfl 25 (.tmp 7) (.tmp 62) rfl g2 (dkA b8 q8 X) rfl rfl 25 _ (h8.at_ 1 rfl) disk_info rfl (one4 rfl _ _ _) ?_)
          go_meet
          case rel => exact ⟨X, b6, q6, b8, q8, hokX, ((h8.setRow (os1 := [(ga, .cells (acA kd at_ fl sz lf tr) 33 (0, 0))]) (cs' := dkA b8 q8 X)).loose (os1 := [])).facts (fs' := [(IsDk · (dkS b8 q8 X) X), (IsDk · (dkS b6 q6 X) X), (IsActs · (.slice (some ⟨ab, ao, none⟩) one.length q3) one)]) (fun P hP => by simp only [List.mem_cons, List.not_mem_nil, or_false] at hP ⊢; rcases hP with rfl | rfl | rfl <;> simp)⟩
      case rest =>
        clear h5 hok HOK
        obtain ⟨D, b1, q1, b2, q2, hok, h6⟩ := hcut
        obtain ⟨c0, c1, c2, c3, -, -⟩ := dkO_cells (h6.at_ 1 rfl)
        obtain ⟨d0, d1, d2, d3, -, -⟩ := dkO_cells (h6.at_ 0 rfl)
        go_wp2_with fail
        refine (sameDisk_s h6 _ _ D (by have := hok.many; omega) (h6.is 1 rfl) (h6.is 0 rfl)).mono ?_
        rintro e w7 ⟨rfl, h7⟩
        clear c0 c1 c2 c3 d0 d1 d2 d3
        obtain ⟨c0, c1, c2, c3, -, -⟩ := dkO_cells (h7.at_ 1 rfl)
        go_wp2_with fail
        refine (check_s h7 _ D hok (h7.is 1 rfl)).mono ?_
        rintro e w8 ⟨rfl, h8⟩
        go_wp2
        go_roundw
        case rel => exact ⟨k + 1, D, b1, q1, b2, q2, by omega, by go_num, hok, h8⟩
        case measure => simp [intOf]; omega
    · obtain rfl : k = one.length := by omega
      go_wp2_with fail
      refine (example_any _).mono ?_
      rintro e w6 ⟨rfl, hb⟩
      go_wp2
      go_ret
      exact ⟨rfl, hst.below.trans (hb.mono hst.size)⟩
end Go.Proofs.Ytkfikcppnbfmoaa
