/- The walks over the reference's SameFields, Same, Base. -/
import Derived.Test.YtfpkibfofainaaaZSame
import Derived.Test.YtfpkibfofainaaaZGB
set_option linter.unusedVariables false
set_option linter.unusedSimpArgs false
namespace Go.Proofs.Ytfpkibfofainaaa
open Go.RowKit

theorem refBase_any (w : World) (f : Fc) (v : Value) : Calls Try.prog 26 #[f.val v] w fun e w' => e = .returned (.agg #[.string f.base.1, .int .i64 f.base.2]) ∧ Below w.heap.size w w' := by
  obtain ⟨src, seq, kind, ref, table, key, event, fields⟩ := f
  simp only [Fc.val, Fc.cellsA, Fc.base]
  go_enter Try.func26, Try.ntmps26
  by_cases hk : kind = 1
  · subst hk
    go_wp2_with fail
    refine bodyPost_ret (results_cell0 rfl _ _ (w.heap.size + 1) 24 #[.string src, .int .i64 seq] (0, 0) _ rfl (heap_alloc2_new _ _ _) Try.underlying24 rfl id_info) rfl ⟨rfl, ((Below.refl _ _).alloc (Nat.le_refl _) _).alloc (by rw [al_size]; omega) _⟩
  · have hk' := beq_of hk
    go_wp2_with fail
    refine bodyPost_ret (results_cell0 rfl _ _ (w.heap.size + 1) 24 #[.string src, .int .i64 ref] (0, 0) _ rfl (heap_alloc2_new _ _ _) Try.underlying24 rfl id_info) rfl ⟨by simp [hk], ((Below.refl _ _).alloc (Nat.le_refl _) _).alloc (by rw [al_size]; omega) _⟩

set_option maxRecDepth 8000 in
set_option maxHeartbeats 4000000 in
theorem refSameFields_any (w : World) (ab bb : Option Addr) (aq bq : Nat) (a b : List Vl) (ha : IsVals w (.slice ab a.length aq) a) (hb : IsVals w (.slice bb b.length bq) b) :
    Calls Try.prog 55 #[.slice ab a.length aq, .slice bb b.length bq] w fun e w' => e = .returned (.bool (decide (a = b))) ∧ Below w.heap.size w w' := by
  obtain ⟨r, hr⟩ : ∃ r, decide (a = b) = r := ⟨_, rfl⟩
  have HR := Lib.hid hr
  rw [hr]
  clear hr
  obtain ⟨n, hn⟩ : ∃ n, a.length = n := ⟨_, rfl⟩
  obtain ⟨m, hm⟩ : ∃ n, b.length = n := ⟨_, rfl⟩
  have hn63 : n ≤ 9223372036854775807 := by obtain ⟨_, _, e, q1, q2, -⟩ := ha.shape; unfold maxLen at q2; omega
  rw [hn] at ha ⊢
  rw [hm] at hb ⊢
  have h0 := ((St.start w).putOld (P := (IsVals · (.slice bb m bq) b)) (Mono.seq rdVal_up _ _) hb).putOld (P := (IsVals · (.slice ab n aq) a)) (Mono.seq rdVal_up _ _) ha
  have HN := Lib.hid (And.intro hn hm)
  clear hn hm ha hb
  go_enter Try.func55, Try.ntmps55
  by_cases hl : n = m
  case neg =>
    have hl' : ((n : Int) != (m : Int)) = true := by simp; omega
    have hr : r = false := by rw [← HR.out, decide_eq_false]; rintro rfl; exact hl (HN.out.1.symm.trans HN.out.2)
    have HR2 := Lib.hid hr
    clear hr
    go_wp2_with fail
    go_ret
    exact ⟨by rw [HR2.out]; rfl, h0.below⟩
  subst hl
  go_wp2_with fail
  go_loopw [5] (fun c wr => ∃ k : Nat, k ≤ n ∧ c = .int .i64 k ∧ (∀ i (h : i < a.length) (h2 : i < b.length), i < k → a[i] = b[i]) ∧ St w wr [] [(IsVals · (.slice ab n aq) a), (IsVals · (.slice bb n bq) b)]) (fun c _ => n - (intOf c).toNat)
  case atStart => exact ⟨0, by omega, rfl, fun i _ _ h => absurd h (Nat.not_lt_zero _), h0⟩
  case round =>
    clear h0
    obtain ⟨k, hk, rfl, hok, hst⟩ := hrel
    have HOK := Lib.hid hok
    clear hok
    have hal : a.length = n := HN.out.1
    have hbl : b.length = n := HN.out.2
    by_cases hlt : k < n
    · obtain ⟨g1, o1, x0', x1', x2', rfl, hrow, x0, x1, x2⟩ := (hst.get 0 rfl : IsVals _ _ _).row3 k (by omega)
      obtain ⟨⟨ak, an, sa⟩, hae⟩ : ∃ v, a[k]'(by omega) = v := ⟨_, rfl⟩
      rw [hae] at hrow
      simp only [rdVal, Vl.cells, List.cons.injEq, and_true] at hrow
      obtain ⟨rfl, rfl, rfl⟩ := hrow
      obtain ⟨g2, o2, x0', x1', x2', rfl, hrow, y0, y1, y2⟩ := (hst.get 1 rfl : IsVals _ _ _).row3 k (by omega)
      obtain ⟨⟨bk, bn, sb⟩, hbe⟩ : ∃ v, b[k]'(by omega) = v := ⟨_, rfl⟩
      rw [hbe] at hrow
      simp only [rdVal, Vl.cells, List.cons.injEq, and_true] at hrow
      obtain ⟨rfl, rfl, rfl⟩ := hrow
      have HE := Lib.hid (And.intro hae hbe)
      clear hae hbe
      have h5 := (((((hst.put (Mono.cell _ _) y2).put (Mono.cell _ _) y1).put (Mono.cell _ _) y0).put (Mono.cell _ _) x2).put (Mono.cell _ _) x1).put (Mono.cell _ _) x0
      obtain ⟨q, hq⟩ : ∃ q, decide ((⟨ak, an, sa⟩ : Vl) = ⟨bk, bn, sb⟩) = q := ⟨_, rfl⟩
      have HQ := Lib.hid hq
      clear hq
      go_upto_region 6 with fail
      refine wp_region_st [pVal ?c6_0, pVal ?c6_1, pVal ?c6_2, pVal (.agg #[.int .i64 ak, .int .i64 an, .string sa]), pVal ?c6_4, pVal ?c6_5, pVal ?c6_6, pVal (.agg #[.int .i64 bk, .int .i64 bn, .string sb]), pVal (.bool (!q))] (osC []) 26 [0, 0, 3, 7, 0, 0, 48, 112, 255] [[], [], [(1, 18), (0, 17)], [(2, 19)], [], [], [(5, 22), (4, 21)], [(6, 23)], [(7, 24), (3, 20)]] [(0, 17), (1, 18), (2, 19), (3, 20), (4, 21), (5, 22), (6, 23), (7, 24), (8, 25)] (by kernel_rfl) (by kernel_rfl) rfl rfl h5 osC0 osC1 ?ob ?en
      case ob =>
        refine ⟨?_, ?_, ?_, ?_, ?_, ?_, ?_, ?_, ?_, trivial⟩
        · -- 0: t17 := Op.move (t0)
          intro zx1 zx2 zx3 zx4 L V W hL hd hw hst 
          refine ob_c rfl ?_ hst rfl
          go_simp
          try with_reducible rfl
        · -- 1: t18 := Op.move (t5)
          intro zx1 zx2 zx3 zx4 L V W hL hd hw hst 
          refine ob_c rfl ?_ hst rfl
          go_simp
          try with_reducible rfl
        · -- 2: t19 := Op.indexAddr 25 (t17) (t18)
          intro zx1 zx2 zx3 zx4 L V W hL hd hw hst u0 e0 p0 u1 e1 p1
          obtain rfl : u0 = _ := p0
          obtain rfl : u1 = _ := p1
          refine ob_c rfl ?_ hst rfl
          go_simp
          try with_reducible rfl
        · -- 3: t20 := Op.load 57 (t19)
          intro zx1 zx2 zx3 zx4 L V W hL hd hw hst u2 e2 p2
          obtain rfl : u2 = _ := p2
          have hz0 := mask_is _ _ _ _ (hst.base 0 rfl)
          have hz1 := mask_is _ _ _ _ (hst.base 1 rfl)
          have hz2 := mask_is _ _ _ _ (hst.base 2 rfl)
          refine ob_c rfl ?_ hst rfl
          go_simp
          try with_reducible rfl
        · -- 4: t21 := Op.move (t1)
          intro zx1 zx2 zx3 zx4 L V W hL hd hw hst 
          refine ob_c rfl ?_ hst rfl
          go_simp
          try with_reducible rfl
        · -- 5: t22 := Op.move (t5)
          intro zx1 zx2 zx3 zx4 L V W hL hd hw hst 
          refine ob_c rfl ?_ hst rfl
          go_simp
          try with_reducible rfl
        · -- 6: t23 := Op.indexAddr 25 (t21) (t22)
          intro zx1 zx2 zx3 zx4 L V W hL hd hw hst u4 e4 p4 u5 e5 p5
          obtain rfl : u4 = _ := p4
          obtain rfl : u5 = _ := p5
          refine ob_c rfl ?_ hst rfl
          go_simp
          try with_reducible rfl
        · -- 7: t24 := Op.load 57 (t23)
          intro zx1 zx2 zx3 zx4 L V W hL hd hw hst u6 e6 p6
          obtain rfl : u6 = _ := p6
          have hz3 := mask_is _ _ _ _ (hst.base 3 rfl)
          have hz4 := mask_is _ _ _ _ (hst.base 4 rfl)
          have hz5 := mask_is _ _ _ _ (hst.base 5 rfl)
          refine ob_c rfl ?_ hst rfl
          go_simp
          try with_reducible rfl
        · -- 8: t25 := Op.binOp BinOp.neq 57 (t20) (t24) 57
          intro zx1 zx2 zx3 zx4 L V W hL hd hw hst u3 e3 p3 u7 e7 p7
          obtain rfl : u3 = _ := p3
          obtain rfl : u7 = _ := p7
          refine ob_c rfl ?_ hst rfl
          go_simp
          rw [← HQ.out, vl_dec]
          by_cases i1 : ak = bk <;> by_cases i2 : an = bn <;> by_cases i3 : sa.toList = sb.toList <;> simp [i1, i2, i3]
      case en =>
        intro V W hst u0 e0 p0 u1 e1 p1 u2 e2 p2 u3 e3 p3 u4 e4 p4 u5 e5 p5 u6 e6 p6 u7 e7 p7 u8 e8 p8
        obtain rfl : u0 = _ := p0
        obtain rfl : u1 = _ := p1
        obtain rfl : u2 = _ := p2
        obtain rfl : u3 = _ := p3
        obtain rfl : u4 = _ := p4
        obtain rfl : u5 = _ := p5
        obtain rfl : u6 = _ := p6
        obtain rfl : u7 = _ := p7
        obtain rfl : u8 = _ := p8
        simp only [EndAll, Act.put, List.getElem_toArray, List.getElem_cons_succ, List.getElem_cons_zero, List.setIfInBounds_toArray, List.set_cons_zero, List.set_cons_succ]
        rw [show osC [] (fun _ => true) V = [] from rfl] at hst
        clear e0 e1 e2 e3 e4 e5 e6 e7 e8
        have h9 := hst.facts (fs' := [(IsVals · (.slice (some ⟨g1, o1, none⟩) n aq) a), (IsVals · (.slice (some ⟨g2, o2, none⟩) n bq) b)]) (fun P hP => by simp only [List.mem_cons, List.not_mem_nil, or_false] at hP ⊢; rcases hP with rfl | rfl <;> simp)
        clear hst
        cases q with
        | false =>
          have hr : r = false := by
            rw [← HR.out, decide_eq_false]
            rintro rfl
            have := HQ.out
            rw [← HE.out.1, ← HE.out.2] at this
            simp at this
          have HR2 := Lib.hid hr
          clear hr
          go_wp2_with fail
          go_ret
          exact ⟨by rw [HR2.out]; rfl, h9.below⟩
        | true =>
          go_wp2_with fail
          go_roundw
          case rel =>
            refine ⟨k + 1, by omega, by go_num, fun i h1 h2 h => ?_, h9⟩
            rcases Nat.lt_succ_iff_lt_or_eq.1 h with h | rfl
            · exact HOK.out i h1 h2 h
            · rw [HE.out.1, HE.out.2]; exact of_decide_eq_true HQ.out
          case measure => simp [intOf]; omega
    · obtain rfl : k = n := by omega
      have hall : a = b := List.ext_getElem (by omega) fun i h1 h2 => HOK.out i h1 h2 (by omega)
      have hr : r = true := by rw [← HR.out, decide_eq_true hall]
      have HR2 := Lib.hid hr
      clear hr hall
      go_wp2_with fail
      go_ret
      exact ⟨by rw [HR2.out]; rfl, hst.below⟩
set_option maxRecDepth 8000 in
set_option maxHeartbeats 4000000 in
theorem refSame_any (w : World) (a b : Fc) (ab bb : Option Addr) (aq bq : Nat) (ha : IsVals w (.slice ab a.fields.length aq) a.fields) (hb : IsVals w (.slice bb b.fields.length bq) b.fields) :
    Calls Try.prog 27 #[a.val (.slice ab a.fields.length aq), b.val (.slice bb b.fields.length bq)] w fun e w' => e = .returned (.bool (decide (a = b))) ∧ Below w.heap.size w w' := by
  obtain ⟨r, hr⟩ : ∃ r, decide (a = b) = r := ⟨_, rfl⟩
  have HR := Lib.hid hr
  rw [hr]
  clear hr
  have heq := fun w ha hb => refSameFields_any w ab bb aq bq a.fields b.fields ha hb
  obtain ⟨n, hn⟩ : ∃ n, a.fields.length = n := ⟨_, rfl⟩
  obtain ⟨m, hm⟩ : ∃ n, b.fields.length = n := ⟨_, rfl⟩
  rw [hn] at ha heq ⊢
  rw [hm] at hb heq ⊢
  have h0 := ((St.start w).putOld (P := (IsVals · (.slice bb m bq) b.fields)) (Mono.seq rdVal_up _ _) hb).putOld (P := (IsVals · (.slice ab n aq) a.fields)) (Mono.seq rdVal_up _ _) ha
  clear hn hm ha hb
  obtain ⟨a1, a2, a3, a4, a5, a6, a7, a8⟩ := a
  obtain ⟨b1, b2, b3, b4, b5, b6, b7, b8⟩ := b
  simp only [Fc.val, Fc.cellsA] at *
  have h1 := (h0.box (.cells #[.string a1, .int .i64 a2, .int .i64 a3, .int .i64 a4, .string a5, .string a6, .int .i64 a7, .slice ab n aq] 27)).box (.cells #[.string b1, .int .i64 b2, .int .i64 b3, .int .i64 b4, .string b5, .string b6, .int .i64 b7, .slice bb m bq] 27)
  clear h0
  go_enter Try.func27, Try.ntmps27
  by_cases e1 : a1 = b1
  case neg =>
    have hr : r = false := by rw [← HR.out, decide_eq_false]; intro h; exact e1 ((fc_eq _ _).1 h).1
    have HR2 := Lib.hid hr
    have x1 := seq_of e1
    have x2 : ¬ a1.toList = b1.toList := fun e => e1 (toList_inj.1 e)
    clear hr
    go_wp2_with fail
    all_goals
      go_ret
      exact ⟨by rw [HR2.out]; rfl, h1.below⟩
  subst e1
  by_cases e2 : a2 = b2
  case neg =>
    have hr : r = false := by rw [← HR.out, decide_eq_false]; intro h; exact e2 ((fc_eq _ _).1 h).2.1
    have HR2 := Lib.hid hr
    have x1 := beq_of e2
    clear hr
    go_wp2_with fail
    all_goals
      go_ret
      exact ⟨by rw [HR2.out]; rfl, h1.below⟩
  subst e2
  by_cases e3 : a3 = b3
  case neg =>
    have hr : r = false := by rw [← HR.out, decide_eq_false]; intro h; exact e3 ((fc_eq _ _).1 h).2.2.1
    have HR2 := Lib.hid hr
    have x1 := beq_of e3
    clear hr
    go_wp2_with fail
    all_goals
      go_ret
      exact ⟨by rw [HR2.out]; rfl, h1.below⟩
  subst e3
  by_cases e4 : a4 = b4
  case neg =>
    have hr : r = false := by rw [← HR.out, decide_eq_false]; intro h; exact e4 ((fc_eq _ _).1 h).2.2.2.1
    have HR2 := Lib.hid hr
    have x1 := beq_of e4
    clear hr
    go_wp2_with fail
    all_goals
      go_ret
      exact ⟨by rw [HR2.out]; rfl, h1.below⟩
  subst e4
  by_cases e5 : a5 = b5
  case neg =>
    have hr : r = false := by rw [← HR.out, decide_eq_false]; intro h; exact e5 ((fc_eq _ _).1 h).2.2.2.2.1
    have HR2 := Lib.hid hr
    have x1 := seq_of e5
    have x2 : ¬ a5.toList = b5.toList := fun e => e5 (toList_inj.1 e)
    clear hr
    go_wp2_with fail
    all_goals
      go_ret
      exact ⟨by rw [HR2.out]; rfl, h1.below⟩
  subst e5
  by_cases e6 : a6 = b6
  case neg =>
    have hr : r = false := by rw [← HR.out, decide_eq_false]; intro h; exact e6 ((fc_eq _ _).1 h).2.2.2.2.2.1
    have HR2 := Lib.hid hr
    have x1 := seq_of e6
    have x2 : ¬ a6.toList = b6.toList := fun e => e6 (toList_inj.1 e)
    clear hr
    go_wp2_with fail
    all_goals
      go_ret
      exact ⟨by rw [HR2.out]; rfl, h1.below⟩
  subst e6
  by_cases e7 : a7 = b7
  case neg =>
    have hr : r = false := by rw [← HR.out, decide_eq_false]; intro h; exact e7 ((fc_eq _ _).1 h).2.2.2.2.2.2.1
    have HR2 := Lib.hid hr
    have x1 := beq_of e7
    clear hr
    go_wp2_with fail
    all_goals
      go_ret
      exact ⟨by rw [HR2.out]; rfl, h1.below⟩
  subst e7
  go_wp2_with fail
  refine (Calls.sV h1 (heq _ (h1.is 0 rfl) (h1.is 1 rfl))).mono ?_
  rintro e w2 ⟨rfl, h2⟩
  have hr : r = decide (a8 = b8) := by rw [← HR.out]; simp only [fc_eq, true_and]
  rw [← hr]
  clear hr heq
  cases r with
  | false =>
    go_wp2_with fail
    go_ret
    exact ⟨rfl, h2.below⟩
  | true =>
    go_wp2_with fail
    go_ret
    exact ⟨rfl, h2.below⟩
end Go.Proofs.Ytfpkibfofainaaa
