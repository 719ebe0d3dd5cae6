/- The walks over the reference's SamePacket and Same. -/
import Derived.Test.YtihohhjaomoemaaPk
set_option linter.unusedVariables false
set_option linter.unusedSimpArgs false
namespace Go.Proofs.Ytihohhjaomoemaa
open Go.RowKit

set_option maxRecDepth 8000 in
set_option maxHeartbeats 4000000 in
theorem samePk_any (w : World) (a b : Pk) (ab bb : Option Addr) (aq bq : Nat) (ha : IsVals w (.slice ab a.fact.fields.length aq) a.fact.fields) (hb : IsVals w (.slice bb b.fact.fields.length bq) b.fact.fields) :
    Calls Try.prog 13 #[a.val (.slice ab a.fact.fields.length aq), b.val (.slice bb b.fact.fields.length bq)] w fun e w' => e = .returned (.bool (decide (a = b))) ∧ Below w.heap.size w w' := by
  obtain ⟨r, hr⟩ : ∃ r, decide (a = b) = r := ⟨_, rfl⟩
  have HR := Lib.hid hr
  rw [hr]
  clear hr
  have heq := fun w ha hb => refSame_any w a.fact b.fact ab bb aq bq ha hb
  obtain ⟨a1, a2, a3, af⟩ := a
  obtain ⟨b1, b2, b3, bf⟩ := b
  obtain ⟨sv, hsv⟩ : ∃ s, decide (af = bf) = s := ⟨_, rfl⟩
  simp only at heq ha hb
  rw [hsv] at heq
  have HSV := Lib.hid hsv
  clear hsv
  obtain ⟨f1, f2, f3, f4, f5, f6, f7, f8⟩ := af
  obtain ⟨g1, g2, g3, g4, g5, g6, g7, g8⟩ := bf
  simp only [Pk.val, Pk.cellsA, Fc.val, Fc.cellsA] at *
  obtain ⟨n, hn⟩ : ∃ n, f8.length = n := ⟨_, rfl⟩
  obtain ⟨m, hm⟩ : ∃ n, g8.length = n := ⟨_, rfl⟩
  rw [hn] at ha heq ⊢
  rw [hm] at hb heq ⊢
  have h0 := ((St.start w).putOld (P := (IsVals · (.slice bb m bq) g8)) (Mono.seq rdVal_up _ _) hb).putOld (P := (IsVals · (.slice ab n aq) f8)) (Mono.seq rdVal_up _ _) ha
  clear hn hm ha hb
  have h1 := (h0.box (.cells #[.string a1, .bool a2, .int .i64 a3, .string f1, .int .i64 f2, .int .i64 f3, .int .i64 f4, .string f5, .string f6, .int .i64 f7, .slice ab n aq] 31)).box (.cells #[.string b1, .bool b2, .int .i64 b3, .string g1, .int .i64 g2, .int .i64 g3, .int .i64 g4, .string g5, .string g6, .int .i64 g7, .slice bb m bq] 31)
  clear h0
  have HQ := Lib.hid heq
  clear heq
  go_enter Try.func13, Try.ntmps13
  by_cases e1 : a1 = b1
  case neg =>
    have hr : r = false := by rw [← HR.out, decide_eq_false]; intro h; exact e1 ((pk_eq _ _).1 h).1
    have HR2 := Lib.hid hr
    have x1 := seq_of e1
    have x2 : ¬ a1.toList = b1.toList := fun e => e1 (toList_inj.1 e)
    clear hr
    go_wp2_with fail
    all_goals
      go_ret
      exact ⟨by rw [HR2.out]; rfl, h1.below⟩
  subst e1
  by_cases e2 : a2 = b2
  case neg =>
    have hr : r = false := by rw [← HR.out, decide_eq_false]; intro h; exact e2 ((pk_eq _ _).1 h).2.1
    have HR2 := Lib.hid hr
    have x1 : (a2 == b2) = false := by cases a2 <;> cases b2 <;> simp_all
    clear hr
    go_wp2_with fail
    all_goals
      go_ret
      exact ⟨by rw [HR2.out]; rfl, h1.below⟩
  subst e2
  by_cases e3 : a3 = b3
  case neg =>
    have hr : r = false := by rw [← HR.out, decide_eq_false]; intro h; exact e3 ((pk_eq _ _).1 h).2.2.1
    have HR2 := Lib.hid hr
    have x1 := beq_of e3
    clear hr
    go_wp2_with fail
    all_goals
      go_ret
      exact ⟨by rw [HR2.out]; rfl, h1.below⟩
  subst e3
  go_wp2_with fail
  refine (Calls.sV h1 (HQ.out _ (h1.is 0 rfl) (h1.is 1 rfl))).mono ?_
  rintro e w2 ⟨rfl, h2⟩
  have hr : r = sv := by rw [← HR.out, ← HSV.out]; simp only [pk_eq, true_and]
  have HR2 := Lib.hid hr
  clear hr
  go_wp2_with fail
  go_ret
  exact ⟨by rw [HR2.out]; rfl, h2.below⟩

set_option maxRecDepth 8000 in
set_option maxHeartbeats 4000000 in
theorem sameCh_any (w : World) (a b : List Pk) (ab bb : Option Addr) (aq bq : Nat) (ha : IsPks w (.slice ab a.length aq) a) (hb : IsPks w (.slice bb b.length bq) b) :
    Calls Try.prog 12 #[.agg #[.slice ab a.length aq], .agg #[.slice bb b.length bq]] w fun e w' => e = .returned (.bool (decide (a = b))) ∧ Below w.heap.size w w' := by
  obtain ⟨r, hr⟩ : ∃ r, decide (a = b) = r := ⟨_, rfl⟩
  have HR := Lib.hid hr
  rw [hr]
  clear hr
  obtain ⟨n, hn⟩ : ∃ n, a.length = n := ⟨_, rfl⟩
  obtain ⟨m, hm⟩ : ∃ n, b.length = n := ⟨_, rfl⟩
  have hn63 : n ≤ 9223372036854775807 := by obtain ⟨_, _, e, q1, q2, -⟩ := ha.shape; unfold maxLen at q2; omega
  rw [hn] at ha ⊢
  rw [hm] at hb ⊢
  have h0 := (((St.start w).putOld (P := (IsPks · (.slice bb m bq) b)) (Mono.seq rdPk_up _ _) hb).putOld (P := (IsPks · (.slice ab n aq) a)) (Mono.seq rdPk_up _ _) ha).boxC #[.slice ab n aq] 24 |>.boxC #[.slice bb m bq] 24
  simp only [al_size] at h0
  have HN := Lib.hid (And.intro hn hm)
  clear hn hm ha hb
  go_enter Try.func12, Try.ntmps12
  have c0 := (h0.is 1 rfl : IsCells _ _ _).c1
  have d0 := (h0.is 0 rfl : IsCells _ _ _).c1
  by_cases hl : n = m
  case neg =>
    have hl' : ((n : Int) != (m : Int)) = true := by simp; omega
    have hr : r = false := by rw [← HR.out, decide_eq_false]; rintro rfl; exact hl (HN.out.1.symm.trans HN.out.2)
    have HR2 := Lib.hid hr
    clear hr
    go_wp2_with fail
    go_ret
    exact ⟨by rw [HR2.out]; rfl, h0.below⟩
  subst hl
  go_wp2_with fail
  clear c0 d0
  go_loopw [5] (fun c wr => ∃ k : Nat, k ≤ n ∧ c = .int .i64 k ∧ (∀ i (h : i < a.length) (h2 : i < b.length), i < k → a[i] = b[i]) ∧ St w wr [] [IsCells (w.heap.size + 1) #[.slice bb n bq], IsCells w.heap.size #[.slice ab n aq], (IsPks · (.slice ab n aq) a), (IsPks · (.slice bb n bq) b)]) (fun c _ => n - (intOf c).toNat)
  case atStart => exact ⟨0, by omega, rfl, fun i _ _ h => absurd h (Nat.not_lt_zero _), h0⟩
  case round =>
    clear h0
    obtain ⟨k, hk, rfl, hok, hst⟩ := hrel
    have HOK := Lib.hid hok
    clear hok
    have hal : a.length = n := HN.out.1
    have hbl : b.length = n := HN.out.2
    have c0 := (hst.is 1 rfl : IsCells _ _ _).c1
    by_cases hlt : k < n
    · obtain ⟨ga, oa, va, qa, rfl, hva, hra⟩ := (hst.is 2 rfl : IsPks _ _ _).pks k (by omega)
      obtain ⟨gb, ob, vb, qb, rfl, hvb, hrb⟩ := (hst.is 3 rfl : IsPks _ _ _).pks k (by omega)
      obtain ⟨pa, hpa⟩ : ∃ p, a[k]'(by omega) = p := ⟨_, rfl⟩
      obtain ⟨pb, hpb⟩ : ∃ p, b[k]'(by omega) = p := ⟨_, rfl⟩
      rw [hpa] at hva hra
      rw [hpb] at hvb hrb
      have HE := Lib.hid (And.intro hpa hpb)
      clear hpa hpb
      have hsm := fun w ha hb => samePk_any w pa pb va vb qa qb ha hb
      obtain ⟨q, hq⟩ : ∃ q, decide (pa = pb) = q := ⟨_, rfl⟩
      rw [hq] at hsm
      have HQ := Lib.hid hq
      have HSM := Lib.hid hsm
      clear hq hsm
      obtain ⟨a1, a2, a3, f1, f2, f3, f4, f5, f6, f7, f8⟩ := pa
      obtain ⟨b1, b2, b3, g1, g2, g3, g4, g5, g6, g7, g8⟩ := pb
      simp only [Pk.val, Pk.cellsA] at HSM hva hvb hra hrb
      obtain ⟨na, hna⟩ : ∃ n, f8.length = n := ⟨_, rfl⟩
      obtain ⟨nb, hnb⟩ : ∃ n, g8.length = n := ⟨_, rfl⟩
      rw [hna] at HSM hva hra
      rw [hnb] at HSM hvb hrb
      clear hna hnb
      have h5 := (((hst.keep (Mono.seq rdVal_up _ _) hvb).keep (Mono.seq rdVal_up _ _) hva).keep (Mono.range _ _ _) hrb).keep (Mono.range _ _ _) hra
      clear hst hva hvb hra hrb
      go_upto_region 6 with fail
      clear c0
      refine wp_region_st [pVal ?c6_0, pVal (.slice (some ⟨ga, oa, none⟩) n aq), pVal ?c6_2, pVal ?c6_3, pVal (.agg #[.string a1, .bool a2, .int .i64 a3, .string f1, .int .i64 f2, .int .i64 f3, .int .i64 f4, .string f5, .string f6, .int .i64 f7, .slice va na qa]), pVal ?c6_5, pVal (.slice (some ⟨gb, ob, none⟩) n bq), pVal ?c6_7, pVal ?c6_8, pVal (.agg #[.string b1, .bool b2, .int .i64 b3, .string g1, .int .i64 g2, .int .i64 g3, .int .i64 g4, .string g5, .string g6, .int .i64 g7, .slice vb nb qb]), pVal (.bool q), pVal (.bool (!q))] (osC []) 32 [0, 1, 0, 7, 15, 0, 32, 0, 224, 480, 1023, 2047] [[], [(0, 20)], [], [(2, 22), (1, 21)], [(3, 23)], [], [(5, 25)], [], [(7, 27), (6, 26)], [(8, 28)], [(9, 29), (4, 24)], [(10, 30)]] [(0, 20), (1, 21), (2, 22), (3, 23), (4, 24), (5, 25), (6, 26), (7, 27), (8, 28), (9, 29), (10, 30), (11, 31)] (by kernel_rfl) (by kernel_rfl) rfl rfl h5 osC0 osC1 ?ob ?en
      case ob =>
        refine ⟨?_, ?_, ?_, ?_, ?_, ?_, ?_, ?_, ?_, ?_, ?_, ?_, trivial⟩
        · -- 0: t20 := Op.fieldAddr 24 (t2) 0
          intro zx1 zx2 zx3 zx4 L V W hL hd hw hst 
          refine ob_c rfl ?_ hst rfl
          go_simp
          try with_reducible rfl
        · -- 1: t21 := Op.load 22 (t20)
          intro zx1 zx2 zx3 zx4 L V W hL hd hw hst u0 e0 p0
          obtain rfl : u0 = _ := p0
          have hz := mask_is _ _ _ _ ((hst.base 5 rfl : IsCells _ _ _) 0 _ rfl)
          refine ob_c rfl ?_ hst rfl
          go_simp
          try with_reducible rfl
        · -- 2: t22 := Op.move (t5)
          intro zx1 zx2 zx3 zx4 L V W hL hd hw hst 
          refine ob_c rfl ?_ hst rfl
          go_simp
          try with_reducible rfl
        · -- 3: t23 := Op.indexAddr 22 (t21) (t22)
          intro zx1 zx2 zx3 zx4 L V W hL hd hw hst u1 e1 p1 u2 e2 p2
          obtain rfl : u1 = _ := p1
          obtain rfl : u2 = _ := p2
          refine ob_c rfl ?_ hst rfl
          go_simp
          try with_reducible rfl
        · -- 4: t24 := Op.load 31 (t23)
          intro zx1 zx2 zx3 zx4 L V W hL hd hw hst u3 e3 p3
          obtain rfl : u3 = _ := p3
          exact ob_c rfl (run_load_mid rfl rfl ((hst.base 0 rfl : World.rangeAt _ _ _ _) |> Mono.range _ _ _ _ _ (mask_is _ _)) Try.underlying31 rfl rfl) hst rfl
        · -- 5: t25 := Op.fieldAddr 24 (t3) 0
          intro zx1 zx2 zx3 zx4 L V W hL hd hw hst 
          refine ob_c rfl ?_ hst rfl
          go_simp
          try with_reducible rfl
        · -- 6: t26 := Op.load 22 (t25)
          intro zx1 zx2 zx3 zx4 L V W hL hd hw hst u5 e5 p5
          obtain rfl : u5 = _ := p5
          have hz := mask_is _ _ _ _ ((hst.base 4 rfl : IsCells _ _ _) 0 _ rfl)
          refine ob_c rfl ?_ hst rfl
          go_simp
          try with_reducible rfl
        · -- 7: t27 := Op.move (t5)
          intro zx1 zx2 zx3 zx4 L V W hL hd hw hst 
          refine ob_c rfl ?_ hst rfl
          go_simp
          try with_reducible rfl
        · -- 8: t28 := Op.indexAddr 22 (t26) (t27)
          intro zx1 zx2 zx3 zx4 L V W hL hd hw hst u6 e6 p6 u7 e7 p7
          obtain rfl : u6 = _ := p6
          obtain rfl : u7 = _ := p7
          refine ob_c rfl ?_ hst rfl
          go_simp
          try with_reducible rfl
        · -- 9: t29 := Op.load 31 (t28)
          intro zx1 zx2 zx3 zx4 L V W hL hd hw hst u8 e8 p8
          obtain rfl : u8 = _ := p8
          exact ob_c rfl (run_load_mid rfl rfl ((hst.base 1 rfl : World.rangeAt _ _ _ _) |> Mono.range _ _ _ _ _ (mask_is _ _)) Try.underlying31 rfl rfl) hst rfl
        · -- 10: t30 := Op.call { callee := value (func 13), args := #[t24, t29], argTypes := #[31, 31] }
          intro zx1 zx2 zx3 zx4 L V W hL hd hw hst u4 e4 p4 u9 e9 p9
          obtain rfl : u4 = _ := p4
          obtain rfl : u9 = _ := p9
          refine ob_call rfl ?_ (Calls.pV hst (HSM.out _ ((hst.base 2 rfl : IsVals _ _ _).sub rdVal_up (mask_is _ _)) ((hst.base 3 rfl : IsVals _ _ _).sub rdVal_up (mask_is _ _))))
          go_simp
          try rfl
        · -- 11: t31 := Op.unOp UnOp.not 4 (t30)
          intro zx1 zx2 zx3 zx4 L V W hL hd hw hst u10 e10 p10
          obtain rfl : u10 = _ := p10
          refine ob_c rfl ?_ hst rfl
          go_simp
      case en =>
        intro V W hst u0 e0 p0 u1 e1 p1 u2 e2 p2 u3 e3 p3 u4 e4 p4 u5 e5 p5 u6 e6 p6 u7 e7 p7 u8 e8 p8 u9 e9 p9 u10 e10 p10 u11 e11 p11
        obtain rfl : u0 = _ := p0
        obtain rfl : u1 = _ := p1
        obtain rfl : u2 = _ := p2
        obtain rfl : u3 = _ := p3
        obtain rfl : u4 = _ := p4
        obtain rfl : u5 = _ := p5
        obtain rfl : u6 = _ := p6
        obtain rfl : u7 = _ := p7
        obtain rfl : u8 = _ := p8
        obtain rfl : u9 = _ := p9
        obtain rfl : u10 = _ := p10
        obtain rfl : u11 = _ := p11
        simp only [EndAll, Act.put, List.getElem_toArray, List.getElem_cons_succ, List.getElem_cons_zero, List.setIfInBounds_toArray, List.set_cons_zero, List.set_cons_succ]
        rw [show osC [] (fun _ => true) V = [] from rfl] at hst
        have h9 := hst.facts (fs' := [IsCells (w.heap.size + 1) #[.slice (some ⟨gb, ob, none⟩) n bq], IsCells w.heap.size #[.slice (some ⟨ga, oa, none⟩) n aq], (IsPks · (.slice (some ⟨ga, oa, none⟩) n aq) a), (IsPks · (.slice (some ⟨gb, ob, none⟩) n bq) b)]) (fun P hP => by simp only [List.mem_cons, List.not_mem_nil, or_false] at hP ⊢; rcases hP with rfl | rfl | rfl | rfl <;> simp)
        clear hst e0 e1 e2 e3 e4 e5 e6 e7 e8 e9 e10 e11 h5
        cases q with
        | false =>
          have hr : r = false := by
            rw [← HR.out, decide_eq_false]
            rintro rfl
            have := HQ.out
            rw [← HE.out.1, ← HE.out.2] at this
            simp at this
          have HR2 := Lib.hid hr
          clear hr
          go_wp2_with fail
          go_ret
          exact ⟨by rw [HR2.out]; rfl, h9.below⟩
        | true =>
          go_wp2_with fail
          go_roundw
          case rel =>
            refine ⟨k + 1, by omega, by go_num, fun i h1 h2 h => ?_, h9⟩
            rcases Nat.lt_succ_iff_lt_or_eq.1 h with h | rfl
            · exact HOK.out i h1 h2 h
            · rw [HE.out.1, HE.out.2]; exact of_decide_eq_true HQ.out
          case measure => simp [intOf]; omega
    · obtain rfl : k = n := by omega
      have hall : a = b := List.ext_getElem (by omega) fun i h1 h2 => HOK.out i h1 h2 (by omega)
      have hr : r = true := by rw [← HR.out, decide_eq_true hall]
      have HR2 := Lib.hid hr
      clear hr hall
      go_wp2_with fail
      go_ret
      exact ⟨by rw [HR2.out]; rfl, hst.below⟩
end Go.Proofs.Ytihohhjaomoemaa
