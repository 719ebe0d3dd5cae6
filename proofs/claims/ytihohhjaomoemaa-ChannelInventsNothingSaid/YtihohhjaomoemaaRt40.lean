/- The walks over the reference's Deliver and Copy of channels. -/
import Derived.Test.YtihohhjaomoemaaRs40
set_option linter.unusedVariables false
set_option linter.unusedSimpArgs false
namespace Go.Proofs.Ytihohhjaomoemaa
open Go Go.RowKit

set_option maxRecDepth 8000 in
set_option maxHeartbeats 4000000 in
theorem refDeliver_any (w : World) (S : Nat → Bool) (hS : ∀ k, S k = true → k < w.heap.size) (lb : Option Addr) (lq : Nat) (l : List Pk) (n : Int) (hl : IsPks (mask S w) (.slice lb l.length lq) l) (hln : l.length ≤ 1048576) :
    Calls Try.prog 20 #[.agg #[.slice lb l.length lq], .int .i64 n] w fun e w' => ∃ v1 vb vq, e = .returned (.tuple #[.agg #[v1], (delR l n).2.1.val (.slice vb (delR l n).2.1.fact.fields.length vq), .int .i64 (delR l n).2.2]) ∧ (pPks (delR l n).1).p v1 (mask S w') ∧ IsVals (mask S w') (.slice vb (delR l n).2.1.fact.fields.length vq) (delR l n).2.1.fact.fields ∧ Below w.heap.size w w' := by
  obtain ⟨R, hR⟩ : ∃ R, delR l n = R := ⟨_, rfl⟩
  rw [hR]
  have hwt := fun w S hS hl => refDrop_any w S hS lb lq l n hl hln
  obtain ⟨N, hN⟩ : ∃ N, l.length = N := ⟨_, rfl⟩
  have hr : R = if 0 ≤ n ∧ n < N then (l.eraseIdx n.toNat, l.getD n.toNat Pk.zero, 0) else ([], Pk.zero, 4) := by rw [← hR, ← hN]; rfl
  have hdr : dropR l n = (R.1, R.2.2) := by unfold dropR; rw [hR]
  rw [hdr] at hwt
  rw [hN] at hl hwt hln ⊢
  have hn63 : N ≤ 9223372036854775807 := by omega
  have h0 := ((((St.start w).putOld (Mono.off S (Mono.seq rdPk_up _ _)) hl).boxC #[.slice lb N lq] 24).alloc (.cells #[.slice none 0 0] 24)).alloc (.cells #[.string ⟨#[]⟩, .bool false, .int .i64 0, .string ⟨#[]⟩, .int .i64 0, .int .i64 0, .int .i64 0, .string ⟨#[]⟩, .string ⟨#[]⟩, .int .i64 0, .slice none 0 0] 31)
  simp only [al_size] at h0
  have HR := Lib.hid hr
  have HN := Lib.hid hN
  have HWT := Lib.hid hwt
  clear hr hR hl hwt hN hdr
  go_enter Try.func20, Try.ntmps20
  have c0 := (h0.is 0 rfl : IsCells _ _ _).c1
  go_wp2_with fail
  refine (HWT.out _ (orS S (inL (keys _))) (h0.orLt hS) (h0.off (Mono.seq rdPk_up _ _) 1 rfl)).mono ?_
  rintro e w1 ⟨v1, rfl, k1, hb⟩
  have h1 := h0.callOff (S := S) hb ((pPks _).mono v1) k1
  clear k1 hb h0 c0 HWT
  have hv2 : (pPks _).p v1 (mask S w1) := h1.is 0 rfl
  obtain ⟨rb, rq, rfl, -⟩ := hv2
  by_cases hin : 0 ≤ n ∧ n < N
  case neg =>
    have hr := HR.out
    rw [if_neg hin] at hr
    subst hr
    simp only [List.length_nil] at h1 ⊢
    have h2 := h1.alloc (.cells #[.slice rb 0 rq] 24)
    clear h1
    go_wp2_with (first
      | (refine wpList_load_row rfl 24 (.tmp 7) rfl w1.heap.size rfl 24 _ (0, 0) _ (h2.at_ 0 rfl) Try.underlying24 rfl ch_info ?_)
      | (refine wpList_store_row rfl 24 (.tmp 4) (.tmp 17) rfl (w.heap.size + 1) #[.slice rb 0 rq] rfl rfl 24 _ (h2.at_ 2 rfl) ch_info rfl (ch_one _ _ _) ?_)
      | (refine wpList_store_row rfl 31 (.tmp 5) (.tmp 18) rfl (w.heap.size + 1 + 1) #[.string ⟨#[]⟩, .bool false, .int .i64 0, .string ⟨#[]⟩, .int .i64 0, .int .i64 0, .int .i64 0, .string ⟨#[]⟩, .string ⟨#[]⟩, .int .i64 0, .slice none 0 0] rfl rfl 31 _ ((h2.setRow (os1 := [_, _]) (cs' := #[.slice rb 0 rq])).at_ 1 rfl) pk_size rfl (pk_one _ _ _ _ _ _ _ _ _ _ _ _ _) ?_))
    have h3 := (h2.setRow (os1 := [_, _]) (cs' := #[.slice rb 0 rq])).setRow (os1 := [_]) (cs' := #[.string ⟨#[]⟩, .bool false, .int .i64 0, .string ⟨#[]⟩, .int .i64 0, .int .i64 0, .int .i64 0, .string ⟨#[]⟩, .string ⟨#[]⟩, .int .i64 0, .slice none 0 0])
    have h4 := ((h3.loose (os1 := [])).loose (os1 := [])).loose (os1 := [])
    exact bodyPost_ret (results_cct rfl _ _ (w.heap.size + 1) (w.heap.size + 1 + 1) 24 31 #[.slice rb 0 rq] #[.string ⟨#[]⟩, .bool false, .int .i64 0, .string ⟨#[]⟩, .int .i64 0, .int .i64 0, .int .i64 0, .string ⟨#[]⟩, .string ⟨#[]⟩, .int .i64 0, .slice none 0 0] (0, 0) (0, 0) _ _ rfl (h3.at_ 2 rfl) Try.underlying24 rfl ch_info rfl (h3.at_ 1 rfl) Try.underlying31 rfl pk_size) rfl ⟨.slice rb 0 rq, none, 0, rfl, h4.is 0 rfl, IsSeq.nil _ _ _, h3.below⟩
  obtain ⟨i, rfl, hi⟩ : ∃ i : Nat, n = (i : Int) ∧ i < N := ⟨n.toNat, by omega, by omega⟩
  have hil : i < l.length := by rw [HN.out]; exact hi
  have hr := HR.out
  rw [if_pos hin, Int.toNat_natCast, List.getD_eq_getElem?_getD, List.getElem?_eq_getElem hil, Option.getD_some] at hr
  obtain ⟨l2, hl2⟩ : ∃ l2, l.eraseIdx i = l2 := ⟨_, rfl⟩
  obtain ⟨ga, oa, va, qa, rfl, hva, hra⟩ := (show IsPks (mask S (sm _ _)) (.slice lb N lq) l from h1.get 2 rfl).pks i hil
  obtain ⟨p, hp⟩ : ∃ p, l[i] = p := ⟨_, rfl⟩
  rw [hl2] at hr
  rw [hp] at hr hva hra
  subst hr
  clear hp hl2 HR hin
  obtain ⟨a1, a2, a3, f1, f2, f3, f4, f5, f6, f7, f8⟩ := p
  simp only [Pk.val, Pk.cellsA] at hva hra h1 ⊢
  obtain ⟨rn, hrn⟩ : ∃ m, l2.length = m := ⟨_, rfl⟩
  rw [hrn] at h1 ⊢
  have HRN := Lib.hid hrn
  clear hrn
  have h2 := ((h1.put (Mono.off S (Mono.seq rdVal_up _ _)) hva).put (Mono.range _ _ _) (Mono.range _ _ _ _ _ (mask_is _ _) hra)).alloc (.cells #[.slice rb rn rq] 24)
  clear h1 hva hra
  have c0 := (h2.is 3 rfl : IsCells _ _ _).c1
  go_upto_region 4 with fail
  generalize World.alloc _ _ = W2 at h2 ⊢
  generalize w1.heap.size = g7 at h2 ⊢
  have h3 := h2.perm (List.Perm.trans (List.Perm.swap _ _ _) (List.Perm.cons _ (List.Perm.swap _ _ _)))
  clear c0 h2
  refine wp_region_st [pVal (.agg #[.slice rb rn rq]), pVal ?c4_1, pVal (.slice (some ⟨ga, oa, none⟩) N lq), pVal ?c4_3, pVal ?c4_4, pVal (.agg #[.string a1, .bool a2, .int .i64 a3, .string f1, .int .i64 f2, .int .i64 f3, .int .i64 f4, .string f5, .string f6, .int .i64 f7, .slice va f8.length qa]), pAny, pAny, pVal ?c4_8] (osT 6 0 (w.heap.size + 1) 7 5 (w.heap.size + 1 + 1) 24 31 #[.slice none 0 0] #[.string ⟨#[]⟩, .bool false, .int .i64 0, .string ⟨#[]⟩, .int .i64 0, .int .i64 0, .int .i64 0, .string ⟨#[]⟩, .string ⟨#[]⟩, .int .i64 0, .slice none 0 0] [(g7, .cells #[.slice rb rn rq] 24 (0, 0))]) 26 [0, 0, 2, 0, 14, 30, 1, 127, 255] [[], [], [(1, 21)], [], [(3, 23), (2, 22)], [(4, 24)], [(0, 20)], [(5, 25)], []] [(0, 20), (1, 21), (2, 22), (3, 23), (4, 24), (5, 25), (8, 6)] (by kernel_rfl) (by kernel_rfl) rfl rfl h3 osT0 (osT1 (by decide) (by decide)) ?ob ?en
  case ob =>
    refine ⟨?_, ?_, ?_, ?_, ?_, ?_, ?_, ?_, ?_, trivial⟩
    · -- 0: t20 := Op.load 24 (t7)
      intro zx1 zx2 zx3 zx4 L V W hL hd hw hst 
      exact ob_c rfl (run_load_own rfl rfl (hst.find (g := g7) (o := .cells #[.slice rb rn rq] 24 (0, 0)) (osT_mem (by simp) L V)) Try.underlying24 rfl ch_info) hst (osT_keep (by decide) (by decide) (.inr (hw 6 rfl (by decide))) (.inl (by decide)))
    · -- 1: t21 := Op.fieldAddr 24 (t2) 0
      intro zx1 zx2 zx3 zx4 L V W hL hd hw hst 
      refine ob_c rfl ?_ hst rfl
      go_simp
      try with_reducible rfl
    · -- 2: t22 := Op.load 22 (t21)
      intro zx1 zx2 zx3 zx4 L V W hL hd hw hst u1 e1 p1
      obtain rfl : u1 = _ := p1
      have hz := mask_is _ _ _ _ ((hst.base 3 rfl : IsCells _ _ _) 0 _ rfl)
      refine ob_c rfl ?_ hst rfl
      go_simp
      try with_reducible rfl
    · -- 3: t23 := Op.move (t1)
      intro zx1 zx2 zx3 zx4 L V W hL hd hw hst 
      refine ob_c rfl ?_ hst rfl
      go_simp
      try with_reducible rfl
    · -- 4: t24 := Op.indexAddr 22 (t22) (t23)
      intro zx1 zx2 zx3 zx4 L V W hL hd hw hst u2 e2 p2 u3 e3 p3
      obtain rfl : u2 = _ := p2
      obtain rfl : u3 = _ := p3
      refine ob_c rfl ?_ hst rfl
      go_simp
      try with_reducible rfl
    · -- 5: t25 := Op.load 31 (t24)
      intro zx1 zx2 zx3 zx4 L V W hL hd hw hst u4 e4 p4
      obtain rfl : u4 = _ := p4
      exact ob_c rfl (run_load_mid rfl rfl ((hst.base 0 rfl : World.rangeAt _ _ _ _) |> Mono.range _ _ _ _ _ (mask_is _ _)) Try.underlying31 rfl rfl) hst (osT_keep (by decide) (by decide) (.inl (by decide)) (.inr (hw 7 rfl (by decide))))
    · -- 6: tNone := Op.store 24 (t4) (t20)
      intro zx1 zx2 zx3 zx4 L V W hL hd hw hst u0 e0 p0
      obtain rfl : u0 = _ := p0
      exact ob_putA rfl rfl rfl rfl e0 rfl (by decide) (by decide) (by decide) hL rfl ch_info (ch_one _ _ _) hst
    · -- 7: tNone := Op.store 31 (t5) (t25)
      intro zx1 zx2 zx3 zx4 L V W hL hd hw hst u5 e5 p5
      obtain rfl : u5 = _ := p5
      exact ob_putB rfl rfl rfl rfl e5 rfl (by decide) (by decide) (by decide) hL rfl pk_size (pk_one _ _ _ _ _ _ _ _ _ _ _ _ _) hst
    · -- 8: t6 := Op.assign (const (int IntKind.i64 0))
      intro zx1 zx2 zx3 zx4 L V W hL hd hw hst 
      refine ob_c rfl ?_ hst rfl
      go_simp
      try with_reducible rfl
  case en =>
    intro V W hst u0 e0 p0 u1 e1 p1 u2 e2 p2 u3 e3 p3 u4 e4 p4 u5 e5 p5 u8 e8 p8
    obtain rfl : u0 = _ := p0
    obtain rfl : u1 = _ := p1
    obtain rfl : u2 = _ := p2
    obtain rfl : u3 = _ := p3
    obtain rfl : u4 = _ := p4
    obtain rfl : u5 = _ := p5
    obtain rfl : u8 = _ := p8
    simp only [EndAll, Act.put, List.getElem_toArray, List.getElem_cons_succ, List.getElem_cons_zero, List.setIfInBounds_toArray, List.set_cons_zero, List.set_cons_succ]
    rw [osT_end e0 e5] at hst
    clear e0 e1 e2 e3 e4 e5 e8 h3
    have h5 := ((hst.loose (os1 := [])).loose (os1 := [])).loose (os1 := [])
    have k1 : IsPks (mask S W) (.slice rb rn rq) l2 := by
      obtain ⟨b, q, e, k⟩ := (show (pPks l2).p (.slice rb rn rq) (mask S W) from h5.is 2 rfl)
      cases e
      exact k
    have k2 : IsVals (mask S W) (.slice va f8.length qa) f8 := h5.is 1 rfl
    go_wp2_with fail
    exact bodyPost_ret (results_cct rfl _ _ (w.heap.size + 1) (w.heap.size + 1 + 1) 24 31 #[.slice rb rn rq] #[.string a1, .bool a2, .int .i64 a3, .string f1, .int .i64 f2, .int .i64 f3, .int .i64 f4, .string f5, .string f6, .int .i64 f7, .slice va f8.length qa] (0, 0) (0, 0) _ _ rfl (hst.at_ 1 rfl) Try.underlying24 rfl ch_info rfl (hst.at_ 0 rfl) Try.underlying31 rfl pk_size) rfl ⟨.slice rb rn rq, va, qa, rfl, h5.is 2 rfl, k2, hst.below⟩
set_option maxRecDepth 8000 in
set_option maxHeartbeats 4000000 in
theorem refCopy_any (w : World) (S : Nat → Bool) (hS : ∀ k, S k = true → k < w.heap.size) (lb : Option Addr) (lq : Nat) (l : List Pk) (n : Int) (hl : IsPks (mask S w) (.slice lb l.length lq) l) (hln : l.length ≤ 1048576) :
    Calls Try.prog 22 #[.agg #[.slice lb l.length lq], .int .i64 n] w fun e w' => ∃ v1, e = .returned (.tuple #[.agg #[v1], .int .i64 (copyR l n).2]) ∧ (pPks (copyR l n).1).p v1 (mask S w') ∧ Below w.heap.size w w' := by
  obtain ⟨R, hR⟩ : ∃ R, copyR l n = R := ⟨_, rfl⟩
  rw [hR]
  have hwt := fun w  p vb vq S hS hl hx => refSend_any w  S hS lb lq l p vb vq hl hx
  obtain ⟨N, hN⟩ : ∃ N, l.length = N := ⟨_, rfl⟩
  have hr : R = if 0 ≤ n ∧ n < N then sendR l (l.getD n.toNat Pk.zero) else ([], 4) := by rw [← hR, ← hN]; rfl
  rw [hN] at hl hwt hln ⊢
  have hn63 : N ≤ 9223372036854775807 := by omega
  have h0 := ((((St.start w)).putOld (Mono.off S (Mono.seq rdPk_up _ _)) hl).boxC #[.slice lb N lq] 24).alloc (.cells #[.slice none 0 0] 24)
  simp only [al_size] at h0
  have HR := Lib.hid hr
  have HN := Lib.hid hN
  have HWT := Lib.hid hwt
  clear hr hR hl hwt hN
  go_enter Try.func22, Try.ntmps22
  have c0 := (h0.is 0 rfl : IsCells _ _ _).c1
  by_cases hin : 0 ≤ n ∧ n < N
  case neg =>
    have hr := HR.out
    rw [if_neg hin] at hr
    subst hr
    clear HR
    by_cases hlo : n < 0
    case' neg => have hhi : (N : Int) ≤ n := by omega
    all_goals
      go_wp2_with (refine wpList_store_row rfl 24 (.tmp 4) (.tmp 15) rfl (w.heap.size + 1) #[.slice none 0 0] rfl rfl 24 _ (h0.at_ 0 rfl) ch_info rfl (ch_one _ _ _) ?_)
      have h2 := h0.setRow (os1 := []) (cs' := #[.slice none 0 0])
      exact bodyPost_ret (results_cell1 rfl _ _ (w.heap.size + 1) 24 #[.slice none 0 0] (0, 0) _ rfl (h2.at_ 0 rfl) Try.underlying24 rfl ch_info) rfl ⟨_, rfl, pPks_nil _, h2.below⟩
  obtain ⟨i, rfl, hi⟩ : ∃ i : Nat, n = (i : Int) ∧ i < N := ⟨n.toNat, by omega, by omega⟩
  have hil : i < l.length := by rw [HN.out]; exact hi
  have hr := HR.out
  rw [if_pos hin, Int.toNat_natCast, List.getD_eq_getElem?_getD, List.getElem?_eq_getElem hil, Option.getD_some] at hr
  obtain ⟨ga, oa, va, qa, rfl, hva, hra⟩ := (show IsPks (mask S (sm _ _)) (.slice lb N lq) l from h0.get 1 rfl).pks i hil
  obtain ⟨p, hp⟩ : ∃ p, l[i] = p := ⟨_, rfl⟩
  rw [hp] at hr hva hra
  have hwi := fun w  S hS hl hx => HWT.out w  p va qa S hS hl hx
  rw [← hr] at hwi
  clear hp HWT HR hin hr
  obtain ⟨a1, a2, a3, f1, f2, f3, f4, f5, f6, f7, f8⟩ := p
  simp only [Pk.val, Pk.cellsA] at hva hra hwi ⊢
  obtain ⟨m, hm⟩ : ∃ m, f8.length = m := ⟨_, rfl⟩
  rw [hm] at hva hra hwi
  have HWI := Lib.hid hwi
  clear hm hwi
  have h1 := (h0.put (Mono.off S (Mono.seq rdVal_up _ _)) hva).put (Mono.range _ _ _) (Mono.range _ _ _ _ _ (mask_is _ _) hra)
  clear h0 hva hra
  have hilo : ¬ (i : Int) < 0 := by omega
  have hihi : ¬ (N : Int) ≤ (i : Int) := by omega
  go_upto_region 3 with fail
  clear c0
  refine wp_region_st [pVal (.agg #[.slice (some ⟨ga, oa, none⟩) N lq]), pVal ?c3_1, pVal (.slice (some ⟨ga, oa, none⟩) N lq), pVal ?c3_3, pVal ?c3_4, pVal (.agg #[.string a1, .bool a2, .int .i64 a3, .string f1, .int .i64 f2, .int .i64 f3, .int .i64 f4, .string f5, .string f6, .int .i64 f7, .slice va m qa]), pChT S R, pCh S R.1, pVal (.int .i64 R.2), pAny, pVal ?c3_10] (osS 9 7 24 (w.heap.size + 1) (.cells #[.slice none 0 0] 24 (0, 0)) [] []) 25 [0, 0, 2, 0, 14, 30, 63, 127, 127, 511, 1023] [[], [], [(1, 17)], [], [(3, 19), (2, 18)], [(4, 20)], [(5, 21), (0, 16)], [(6, 22)], [(6, 22)], [(7, 23)], [(8, 24)]] [(0, 16), (1, 17), (2, 18), (3, 19), (4, 20), (5, 21), (6, 22), (7, 23), (8, 24), (10, 5)] (by kernel_rfl) (by kernel_rfl) rfl rfl h1 osS0 (osS1 (by decide)) ?ob ?en
  case ob =>
    refine ⟨?_, ?_, ?_, ?_, ?_, ?_, ?_, ?_, ?_, ?_, ?_, trivial⟩
    · -- 0: t16 := Op.load 24 (t2)
      intro zx1 zx2 zx3 zx4 L V W hL hd hw hst 
      have hz := mask_is _ _ _ _ ((hst.base 2 rfl : IsCells _ _ _) 0 _ rfl)
      refine ob_c rfl ?_ hst rfl
      go_simp
      try with_reducible rfl
    · -- 1: t17 := Op.fieldAddr 24 (t2) 0
      intro zx1 zx2 zx3 zx4 L V W hL hd hw hst 
      refine ob_c rfl ?_ hst rfl
      go_simp
      try with_reducible rfl
    · -- 2: t18 := Op.load 22 (t17)
      intro zx1 zx2 zx3 zx4 L V W hL hd hw hst u1 e1 p1
      obtain rfl : u1 = _ := p1
      have hz := mask_is _ _ _ _ ((hst.base 2 rfl : IsCells _ _ _) 0 _ rfl)
      refine ob_c rfl ?_ hst rfl
      go_simp
      try with_reducible rfl
    · -- 3: t19 := Op.move (t1)
      intro zx1 zx2 zx3 zx4 L V W hL hd hw hst 
      refine ob_c rfl ?_ hst rfl
      go_simp
      try with_reducible rfl
    · -- 4: t20 := Op.indexAddr 22 (t18) (t19)
      intro zx1 zx2 zx3 zx4 L V W hL hd hw hst u2 e2 p2 u3 e3 p3
      obtain rfl : u2 = _ := p2
      obtain rfl : u3 = _ := p3
      refine ob_c rfl ?_ hst rfl
      go_simp
      try with_reducible rfl
    · -- 5: t21 := Op.load 31 (t20)
      intro zx1 zx2 zx3 zx4 L V W hL hd hw hst u4 e4 p4
      obtain rfl : u4 = _ := p4
      exact ob_c rfl (run_load_mid rfl rfl ((hst.base 0 rfl : World.rangeAt _ _ _ _) |> Mono.range _ _ _ _ _ (mask_is _ _)) Try.underlying31 rfl rfl) hst rfl
    · -- 6: t22 := Op.call { callee := value (func 19), args := #[t16, t21], argTypes := #[24, 31] }
      intro zx1 zx2 zx3 zx4 L V W hL hd hw hst u0 e0 p0 u5 e5 p5
      obtain rfl : u0 = _ := p0
      obtain rfl : u5 = _ := p5
      refine ob_call rfl ?_ (Calls.pChT hst (HWI.out _ (orS S (inL (keys _))) (hst.orLt hS) ((hst.base 3 rfl : IsPks (mask S (sm _ _)) _ _).sub rdPk_up mask_or1) ((hst.base 1 rfl : IsVals (mask S (sm _ _)) _ _).sub rdVal_up mask_or1)))
      go_simp
      try rfl
    · -- 7: t23 := Op.extract (t22) 0
      intro zx1 zx2 zx3 zx4 L V W hL hd hw hst u6 e6 p6
      obtain ⟨b6, q6, rfl, hk6⟩ := p6
      refine ob_v (.agg #[.slice b6 R.1.length q6]) rfl ?_ hst (osS_keep (hw 9 rfl (by decide)) (by decide)) ⟨b6, q6, rfl, hk6⟩
      go_simp
    · -- 8: t24 := Op.extract (t22) 1
      intro zx1 zx2 zx3 zx4 L V W hL hd hw hst u6 e6 p6
      obtain ⟨b6, q6, rfl, hk6⟩ := p6
      refine ob_c rfl ?_ hst rfl
      go_simp
      try with_reducible rfl
    · -- 9: tNone := Op.store 24 (t4) (t23)
      intro zx1 zx2 zx3 zx4 L V W hL hd hw hst u7 e7 p7
      obtain ⟨b7, q7, rfl, hk7⟩ := p7
      exact ob_set (k := 7) rfl rfl rfl rfl e7 rfl (by decide) hL rfl ch_info (ch_one _ _ _) hst
    · -- 10: t5 := Op.assign (t24)
      intro zx1 zx2 zx3 zx4 L V W hL hd hw hst u8 e8 p8
      obtain rfl : u8 = _ := p8
      refine ob_c rfl ?_ hst rfl
      go_simp
      try with_reducible rfl
  case en =>
    intro V W hst u0 e0 p0 u1 e1 p1 u2 e2 p2 u3 e3 p3 u4 e4 p4 u5 e5 p5 u6 e6 p6 u7 e7 p7 u8 e8 p8 u10 e10 p10
    obtain rfl : u0 = _ := p0
    obtain rfl : u1 = _ := p1
    obtain rfl : u2 = _ := p2
    obtain rfl : u3 = _ := p3
    obtain rfl : u4 = _ := p4
    obtain rfl : u5 = _ := p5
    obtain ⟨b6, q6, rfl, hk6⟩ := p6
    obtain ⟨b7, q7, rfl, hk7⟩ := p7
    obtain rfl : u8 = _ := p8
    obtain rfl : u10 = _ := p10
    simp only [EndAll, Act.put, List.getElem_toArray, List.getElem_cons_succ, List.getElem_cons_zero, List.setIfInBounds_toArray, List.set_cons_zero, List.set_cons_succ]
    have h4 := hst.put (Mono.off S (Mono.seq rdPk_up _ _)) hk7
    rw [osS_end e7] at h4
    clear hst hk6 hk7 e0 e1 e2 e3 e4 e5 e6 e7 e8 e10 h1
    have h5 := h4.loose (os1 := [])
    have k1 : IsPks (mask S W) (.slice b7 R.1.length q7) R.1 := h5.is 0 rfl
    go_wp2_with fail
    exact bodyPost_ret (results_cell1 rfl _ _ (w.heap.size + 1) 24 #[.slice b7 R.1.length q7] (0, 0) _ rfl (h4.at_ 0 rfl) Try.underlying24 rfl ch_info) rfl ⟨.slice b7 R.1.length q7, rfl, ⟨b7, q7, rfl, k1⟩, h4.below⟩
end Go.Proofs.Ytihohhjaomoemaa
