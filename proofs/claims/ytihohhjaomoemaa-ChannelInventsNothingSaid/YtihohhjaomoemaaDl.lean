/- The walks over channel.Deliver and Copy. -/
import Derived.Test.YtihohhjaomoemaaCd
import Derived.Test.YtihohhjaomoemaaRegV
set_option linter.unusedVariables false
set_option linter.unusedSimpArgs false
namespace Go.Proofs.Ytihohhjaomoemaa
open Go Go.RowKit

def delR (l : List Pk) (n : Int) : List Pk × Pk × Int := if 0 ≤ n ∧ n < l.length then (l.eraseIdx n.toNat, l.getD n.toNat Pk.zero, 0) else ([], Pk.zero, 4)
def pOff (S : Nat → Bool) (p : Pd) : Pd := ⟨fun v w => p.p v (mask S w), fun v => Mono.off S (p.mono v)⟩
theorem Calls.pOff {P : Program} {f : FuncId} {args : Array Value} {w0 W : World} {os : List (Nat × Obj)} {F : List (World → Prop)} {S : Nat → Bool} {p : Pd} (h : St w0 W os F) (hc : Calls P f args W fun e w' => ∃ v', e = .returned v' ∧ p.p v' (mask (orS S (inL (keys os))) w') ∧ Below W.heap.size W w') :
    Calls P f args W fun e w' => ∃ v, e = .returned v ∧ St w0 w' os ((pOff S p).p v :: F) := hc.mono fun e w' ⟨v, h1, h2, h3⟩ => ⟨v, h1, h.callOff h3 (p.mono v) h2⟩
/-- A channel value. -/
def pCh (S : Nat → Bool) (l : List Pk) : Pd := ⟨fun v w => ∃ b q, v = .agg #[.slice b l.length q] ∧ IsPks (mask S w) (.slice b l.length q) l, fun v _ _ h ⟨b, q, e, k⟩ => ⟨b, q, e, k.sub rdPk_up (mask_mono h)⟩⟩
theorem build_ch (b : Option Addr) (n q : Nat) : True := trivial

set_option maxRecDepth 8000 in
set_option maxHeartbeats 4000000 in
theorem deliver_any (w : World) (S : Nat → Bool) (hS : ∀ k, S k = true → k < w.heap.size) (lb : Option Addr) (lq : Nat) (l : List Pk) (n : Int) (hl : IsPks (mask S w) (.slice lb l.length lq) l) (hln : l.length ≤ 1048576) :
    Calls Try.prog 16 #[.agg #[.slice lb l.length lq], .int .i64 n] w fun e w' => ∃ v1 vb vq, e = .returned (.tuple #[.agg #[v1], (delR l n).2.1.val (.slice vb (delR l n).2.1.fact.fields.length vq), .int .i64 (delR l n).2.2]) ∧ (pPks (delR l n).1).p v1 (mask S w') ∧ IsVals (mask S w') (.slice vb (delR l n).2.1.fact.fields.length vq) (delR l n).2.1.fact.fields ∧ Below w.heap.size w w' := by
  obtain ⟨R, hR⟩ : ∃ R, delR l n = R := ⟨_, rfl⟩
  rw [hR]
  have hwt := fun w S hS i hl hi => without_any w S hS lb lq l i hl hi hln
  obtain ⟨N, hN⟩ : ∃ N, l.length = N := ⟨_, rfl⟩
  have hr : R = if 0 ≤ n ∧ n < N then (l.eraseIdx n.toNat, l.getD n.toNat Pk.zero, 0) else ([], Pk.zero, 4) := by rw [← hR, ← hN]; rfl
  rw [hN] at hl hwt hln ⊢
  have hn63 : N ≤ 9223372036854775807 := by omega
  have h0 := ((((St.start w).putOld (Mono.off S (Mono.seq rdPk_up _ _)) hl).boxC #[.slice lb N lq] 24).alloc (.cells #[.slice none 0 0] 24)).alloc (.cells #[.string ⟨#[]⟩, .bool false, .int .i64 0, .string ⟨#[]⟩, .int .i64 0, .int .i64 0, .int .i64 0, .string ⟨#[]⟩, .string ⟨#[]⟩, .int .i64 0, .slice none 0 0] 31)
  simp only [al_size] at h0
  have HR := Lib.hid hr
  have HN := Lib.hid hN
  have HWT := Lib.hid hwt
  clear hr hR hl hwt hN
  go_enter Try.func16, Try.ntmps16
  have c0 := (h0.is 0 rfl : IsCells _ _ _).c1
  by_cases hin : 0 ≤ n ∧ n < N
  case neg =>
    have hr := HR.out
    rw [if_neg hin] at hr
    subst hr
    clear HR
    by_cases hlo : n < 0
    case' neg => have hhi : (N : Int) ≤ n := by omega
    all_goals
      go_wp2_with (first
        | (refine wpList_store_row rfl 24 (.tmp 4) (.tmp 16) rfl (w.heap.size + 1) #[.slice none 0 0] rfl rfl 24 _ (h0.at_ 1 rfl) ch_info rfl (ch_one _ _ _) ?_)
        | (refine wpList_store_row rfl 31 (.tmp 5) (.tmp 17) rfl (w.heap.size + 1 + 1) #[.string ⟨#[]⟩, .bool false, .int .i64 0, .string ⟨#[]⟩, .int .i64 0, .int .i64 0, .int .i64 0, .string ⟨#[]⟩, .string ⟨#[]⟩, .int .i64 0, .slice none 0 0] rfl rfl 31 _ ((h0.setRow (os1 := [_]) (cs' := #[.slice none 0 0])).at_ 0 rfl) pk_size rfl (pk_one _ _ _ _ _ _ _ _ _ _ _ _ _) ?_))
      have h2 := (h0.setRow (os1 := [_]) (cs' := #[.slice none 0 0])).setRow (os1 := []) (cs' := #[.string ⟨#[]⟩, .bool false, .int .i64 0, .string ⟨#[]⟩, .int .i64 0, .int .i64 0, .int .i64 0, .string ⟨#[]⟩, .string ⟨#[]⟩, .int .i64 0, .slice none 0 0])
      exact bodyPost_ret (results_cct rfl _ _ (w.heap.size + 1) (w.heap.size + 1 + 1) 24 31 #[.slice none 0 0] #[.string ⟨#[]⟩, .bool false, .int .i64 0, .string ⟨#[]⟩, .int .i64 0, .int .i64 0, .int .i64 0, .string ⟨#[]⟩, .string ⟨#[]⟩, .int .i64 0, .slice none 0 0] (0, 0) (0, 0) _ _ rfl (h2.at_ 1 rfl) Try.underlying24 rfl ch_info rfl (h2.at_ 0 rfl) Try.underlying31 rfl pk_size) rfl ⟨.slice none 0 0, none, 0, rfl, pPks_nil _, IsSeq.nil _ _ _, h2.below⟩
  obtain ⟨i, rfl, hi⟩ : ∃ i : Nat, n = (i : Int) ∧ i < N := ⟨n.toNat, by omega, by omega⟩
  have hil : i < l.length := by rw [HN.out]; exact hi
  have hr := HR.out
  rw [if_pos hin, Int.toNat_natCast, List.getD_eq_getElem?_getD, List.getElem?_eq_getElem hil, Option.getD_some] at hr
  have hwi := fun w S hS hl => HWT.out w S hS i hl hi
  obtain ⟨l2, hl2⟩ : ∃ l2, l.eraseIdx i = l2 := ⟨_, rfl⟩
  obtain ⟨ga, oa, va, qa, rfl, hva, hra⟩ := (show IsPks (mask S (sm _ _)) (.slice lb N lq) l from h0.get 1 rfl).pks i hil
  obtain ⟨p, hp⟩ : ∃ p, l[i] = p := ⟨_, rfl⟩
  rw [hl2] at hr hwi
  rw [hp] at hr hva hra
  subst hr
  clear hp hl2 HWT HR hin
  have HWI := Lib.hid hwi
  clear hwi
  obtain ⟨a1, a2, a3, f1, f2, f3, f4, f5, f6, f7, f8⟩ := p
  simp only [Pk.val, Pk.cellsA] at hva hra ⊢
  obtain ⟨m, hm⟩ : ∃ m, f8.length = m := ⟨_, rfl⟩
  rw [hm] at hva hra ⊢
  clear hm
  have h1 := (h0.put (Mono.off S (Mono.seq rdVal_up _ _)) hva).put (Mono.range _ _ _) (Mono.range _ _ _ _ _ (mask_is _ _) hra)
  clear h0 hva hra
  have hilo : ¬ (i : Int) < 0 := by omega
  have hihi : ¬ (N : Int) ≤ (i : Int) := by omega
  go_upto_region 3 with fail
  clear c0
  refine wp_region_st [pVal ?c3_0, pVal (.slice (some ⟨ga, oa, none⟩) N lq), pVal ?c3_2, pOff S (pPks l2), pCh S l2, pVal ?c3_5, pVal (.slice (some ⟨ga, oa, none⟩) N lq), pVal ?c3_7, pVal ?c3_8, pVal (.agg #[.string a1, .bool a2, .int .i64 a3, .string f1, .int .i64 f2, .int .i64 f3, .int .i64 f4, .string f5, .string f6, .int .i64 f7, .slice va m qa]), pAny, pAny, pVal ?c3_12] (osT 10 4 (w.heap.size + 1) 11 9 (w.heap.size + 1 + 1) 24 31 #[.slice none 0 0] #[.string ⟨#[]⟩, .bool false, .int .i64 0, .string ⟨#[]⟩, .int .i64 0, .int .i64 0, .int .i64 0, .string ⟨#[]⟩, .string ⟨#[]⟩, .int .i64 0, .slice none 0 0] []) 28 [0, 1, 0, 7, 15, 0, 32, 0, 224, 480, 31, 2047, 4095] [[], [(0, 18)], [], [(2, 20), (1, 19)], [(3, 21)], [], [(5, 23)], [], [(7, 25), (6, 24)], [(8, 26)], [(4, 22)], [(9, 27)], []] [(0, 18), (1, 19), (2, 20), (3, 21), (4, 22), (5, 23), (6, 24), (7, 25), (8, 26), (9, 27), (12, 6)] (by kernel_rfl) (by kernel_rfl) rfl rfl h1 osT0 (osT1 (by decide) (by decide)) ?ob ?en
  case ob =>
    refine ⟨?_, ?_, ?_, ?_, ?_, ?_, ?_, ?_, ?_, ?_, ?_, ?_, ?_, trivial⟩
    · -- 0: t18 := Op.fieldAddr 24 (t2) 0
      intro zx1 zx2 zx3 zx4 L V W hL hd hw hst 
      refine ob_c rfl ?_ hst rfl
      go_simp
      try with_reducible rfl
    · -- 1: t19 := Op.load 22 (t18)
      intro zx1 zx2 zx3 zx4 L V W hL hd hw hst u0 e0 p0
      obtain rfl : u0 = _ := p0
      have hz := mask_is _ _ _ _ ((hst.base 2 rfl : IsCells _ _ _) 0 _ rfl)
      refine ob_c rfl ?_ hst rfl
      go_simp
      try with_reducible rfl
    · -- 2: t20 := Op.move (t1)
      intro zx1 zx2 zx3 zx4 L V W hL hd hw hst 
      refine ob_c rfl ?_ hst rfl
      go_simp
      try with_reducible rfl
    · -- 3: t21 := Op.call { callee := value (func 29), args := #[t19, t20], argTypes := #[22, 3] }
      intro zx1 zx2 zx3 zx4 L V W hL hd hw hst u1 e1 p1 u2 e2 p2
      obtain rfl : u1 = _ := p1
      obtain rfl : u2 = _ := p2
      refine ob_call rfl ?_ (Calls.pOff hst (HWI.out _ (orS S (inL (keys _))) (hst.orLt hS) ((hst.base 3 rfl : IsPks (mask S (sm _ _)) _ _).sub rdPk_up mask_or1)))
      go_simp
      try rfl
    · -- 4: t22 := Op.build 24 #[(0, t21)]
      intro zx1 zx2 zx3 zx4 L V W hL hd hw hst u3 e3 p3
      have hk3 := p3
      obtain ⟨b3, q3, rfl, hk3⟩ := hk3
      refine ob_v (.agg #[.slice b3 l2.length q3]) rfl ?_ hst (osT_keep (by decide) (by decide) (.inr (hw 10 rfl (by decide))) (.inl (by decide))) ⟨b3, q3, rfl, hk3⟩
      go_simp
    · -- 5: t23 := Op.fieldAddr 24 (t2) 0
      intro zx1 zx2 zx3 zx4 L V W hL hd hw hst 
      refine ob_c rfl ?_ hst rfl
      go_simp
      try with_reducible rfl
    · -- 6: t24 := Op.load 22 (t23)
      intro zx1 zx2 zx3 zx4 L V W hL hd hw hst u5 e5 p5
      obtain rfl : u5 = _ := p5
      have hz := mask_is _ _ _ _ ((hst.base 2 rfl : IsCells _ _ _) 0 _ rfl)
      refine ob_c rfl ?_ hst rfl
      go_simp
      try with_reducible rfl
    · -- 7: t25 := Op.move (t1)
      intro zx1 zx2 zx3 zx4 L V W hL hd hw hst 
      refine ob_c rfl ?_ hst rfl
      go_simp
      try with_reducible rfl
    · -- 8: t26 := Op.indexAddr 22 (t24) (t25)
      intro zx1 zx2 zx3 zx4 L V W hL hd hw hst u6 e6 p6 u7 e7 p7
      obtain rfl : u6 = _ := p6
      obtain rfl : u7 = _ := p7
      refine ob_c rfl ?_ hst rfl
      go_simp
      try with_reducible rfl
    · -- 9: t27 := Op.load 31 (t26)
      intro zx1 zx2 zx3 zx4 L V W hL hd hw hst u8 e8 p8
      obtain rfl : u8 = _ := p8
      exact ob_c rfl (run_load_mid rfl rfl ((hst.base 0 rfl : World.rangeAt _ _ _ _) |> Mono.range _ _ _ _ _ (mask_is _ _)) Try.underlying31 rfl rfl) hst (osT_keep (by decide) (by decide) (.inl (by decide)) (.inr (hw 11 rfl (by decide))))
    · -- 10: tNone := Op.store 24 (t4) (t22)
      intro zx1 zx2 zx3 zx4 L V W hL hd hw hst u4 e4 p4
      obtain ⟨b4, q4, rfl, hk4⟩ := p4
      exact ob_putA rfl rfl rfl rfl e4 rfl (by decide) (by decide) (by decide) hL rfl ch_info (ch_one _ _ _) hst
    · -- 11: tNone := Op.store 31 (t5) (t27)
      intro zx1 zx2 zx3 zx4 L V W hL hd hw hst u9 e9 p9
      obtain rfl : u9 = _ := p9
      exact ob_putB rfl rfl rfl rfl e9 rfl (by decide) (by decide) (by decide) hL rfl pk_size (pk_one _ _ _ _ _ _ _ _ _ _ _ _ _) hst
    · -- 12: t6 := Op.assign (const (int IntKind.i64 0))
      intro zx1 zx2 zx3 zx4 L V W hL hd hw hst 
      refine ob_c rfl ?_ hst rfl
      go_simp
      try with_reducible rfl
  case en =>
    intro V W hst u0 e0 p0 u1 e1 p1 u2 e2 p2 u3 e3 p3 u4 e4 p4 u5 e5 p5 u6 e6 p6 u7 e7 p7 u8 e8 p8 u9 e9 p9 u12 e12 p12
    obtain rfl : u0 = _ := p0
    obtain rfl : u1 = _ := p1
    obtain rfl : u2 = _ := p2
    have hk3 := p3
    obtain ⟨b4, q4, rfl, hk4⟩ := p4
    obtain rfl : u5 = _ := p5
    obtain rfl : u6 = _ := p6
    obtain rfl : u7 = _ := p7
    obtain rfl : u8 = _ := p8
    obtain rfl : u9 = _ := p9
    obtain rfl : u12 = _ := p12
    simp only [EndAll, Act.put, List.getElem_toArray, List.getElem_cons_succ, List.getElem_cons_zero, List.setIfInBounds_toArray, List.set_cons_zero, List.set_cons_succ]
    have h4 := hst.put (Mono.off S (Mono.seq rdPk_up _ _)) hk4
    rw [osT_end e4 e9] at h4
    clear hst hk3 hk4 e0 e1 e2 e3 e4 e5 e6 e7 e8 e9 e12 h1
    have h5 := (h4.loose (os1 := [])).loose (os1 := [])
    have k1 : IsPks (mask S W) (.slice b4 l2.length q4) l2 := h5.is 0 rfl
    have k2 : IsVals (mask S W) (.slice va m qa) f8 := h5.is 2 rfl
    go_wp2_with fail
    exact bodyPost_ret (results_cct rfl _ _ (w.heap.size + 1) (w.heap.size + 1 + 1) 24 31 #[.slice b4 l2.length q4] #[.string a1, .bool a2, .int .i64 a3, .string f1, .int .i64 f2, .int .i64 f3, .int .i64 f4, .string f5, .string f6, .int .i64 f7, .slice va m qa] (0, 0) (0, 0) _ _ rfl (h4.at_ 1 rfl) Try.underlying24 rfl ch_info rfl (h4.at_ 0 rfl) Try.underlying31 rfl pk_size) rfl ⟨.slice b4 l2.length q4, va, qa, rfl, ⟨b4, q4, rfl, k1⟩, k2, h4.below⟩

def dropR (l : List Pk) (n : Int) : List Pk × Int := ((delR l n).1, (delR l n).2.2)
set_option maxRecDepth 8000 in
set_option maxHeartbeats 4000000 in
theorem drop_any (w : World) (S : Nat → Bool) (hS : ∀ k, S k = true → k < w.heap.size) (lb : Option Addr) (lq : Nat) (l : List Pk) (n : Int) (hl : IsPks (mask S w) (.slice lb l.length lq) l) (hln : l.length ≤ 1048576) :
    Calls Try.prog 15 #[.agg #[.slice lb l.length lq], .int .i64 n] w fun e w' => ∃ v1, e = .returned (.tuple #[.agg #[v1], .int .i64 (dropR l n).2]) ∧ (pPks (dropR l n).1).p v1 (mask S w') ∧ Below w.heap.size w w' := by
  obtain ⟨R, hR⟩ : ∃ R, delR l n = R := ⟨_, rfl⟩
  unfold dropR
  rw [hR]
  have hwt := fun w S hS hl => deliver_any w S hS lb lq l n hl hln
  rw [hR] at hwt
  obtain ⟨N, hN⟩ : ∃ N, l.length = N := ⟨_, rfl⟩
  rw [hN] at hl hwt hln ⊢
  have h0 := (((St.start w).putOld (Mono.off S (Mono.seq rdPk_up _ _)) hl).boxC #[.slice lb N lq] 24).alloc (.cells #[.slice none 0 0] 24)
  simp only [al_size] at h0
  have HWT := Lib.hid hwt
  clear hR hl hwt hN
  go_enter Try.func15, Try.ntmps15
  have c0 := (h0.is 0 rfl : IsCells _ _ _).c1
  go_wp2_with fail
  refine (HWT.out _ (orS S (inL (keys _))) (h0.orLt hS) (h0.off (Mono.seq rdPk_up _ _) 1 rfl)).mono ?_
  rintro e w1 ⟨v1, vb, vq, rfl, k1, k2, hb⟩
  have h1 := h0.callOff (S := S) hb ((pPks _).mono v1) k1
  clear k1 k2 hb h0 c0 HWT
  have hv2 : (pPks _).p v1 (mask S w1) := h1.is 0 rfl
  obtain ⟨rb, rq, rfl, -⟩ := hv2
  obtain ⟨L, P, c⟩ := R
  obtain ⟨rn, hrn⟩ : ∃ k, L.length = k := ⟨_, rfl⟩
  simp only at h1 ⊢
  rw [hrn] at h1 ⊢
  clear hrn
  go_wp2_with (first
    | (refine wpList_store_row rfl 24 (.tmp 4) (.tmp 10) rfl (w.heap.size + 1) #[.slice rb rn rq] rfl rfl 24 _ (h1.at_ 0 rfl) ch_info rfl (ch_one _ _ _) ?_)
    | (refine wpList_load_row rfl 24 (.tmp 4) rfl (w.heap.size + 1) rfl 24 _ (0, 0) _ ((h1.setRow (os1 := []) (cs' := #[.slice rb rn rq])).at_ 0 rfl) Try.underlying24 rfl ch_info ?_)
    | (refine wpList_store_row rfl 24 (.tmp 4) (.tmp 13) rfl (w.heap.size + 1) #[.slice rb rn rq] rfl rfl 24 _ ((h1.setRow (os1 := []) (cs' := #[.slice rb rn rq])).at_ 0 rfl) ch_info rfl (ch_one _ _ _) ?_))
  have h3 := (h1.setRow (os1 := []) (cs' := #[.slice rb rn rq])).setRow (os1 := []) (cs' := #[.slice rb rn rq])
  have h4 := h3.loose (os1 := [])
  exact bodyPost_ret (results_cell1 rfl _ _ (w.heap.size + 1) 24 #[.slice rb rn rq] (0, 0) _ rfl (h3.at_ 0 rfl) Try.underlying24 rfl ch_info) rfl ⟨_, rfl, h4.is 0 rfl, h3.below⟩


def copyR (l : List Pk) (n : Int) : List Pk × Int := if 0 ≤ n ∧ n < l.length then sendR l (l.getD n.toNat Pk.zero) else ([], 4)
/-- A channel and a code. -/
def pChT (S : Nat → Bool) (R : List Pk × Int) : Pd := ⟨fun v w => ∃ b q, v = .tuple #[.agg #[.slice b R.1.length q], .int .i64 R.2] ∧ IsPks (mask S w) (.slice b R.1.length q) R.1, fun v _ _ h ⟨b, q, e, k⟩ => ⟨b, q, e, k.sub rdPk_up (mask_mono h)⟩⟩
theorem Calls.pChT {P : Program} {f : FuncId} {args : Array Value} {w0 W : World} {os : List (Nat × Obj)} {F : List (World → Prop)} {S : Nat → Bool} {R : List Pk × Int} (h : St w0 W os F) (hc : Calls P f args W fun e w' => ∃ v', e = .returned (.tuple #[.agg #[v'], .int .i64 R.2]) ∧ (pPks R.1).p v' (mask (orS S (inL (keys os))) w') ∧ Below W.heap.size W w') :
    Calls P f args W fun e w' => ∃ v, e = .returned v ∧ St w0 w' os ((pChT S R).p v :: F) := hc.mono fun e w' ⟨v, h1, h2, h3⟩ => by
  obtain ⟨b, q, rfl, k⟩ := h2
  refine ⟨_, h1, (h.callOff (S := S) h3 (Mono.seq rdPk_up (.slice b R.1.length q) R.1) k).head (Proofs.Ytihohhjaomoemaa.pChT S R) _ fun hk => ⟨b, q, rfl, hk⟩⟩
set_option maxRecDepth 8000 in
set_option maxHeartbeats 4000000 in
theorem copy_any (w : World) (hm : HasMax w) (S : Nat → Bool) (hS : ∀ k, S k = true → k < w.heap.size) (lb : Option Addr) (lq : Nat) (l : List Pk) (n : Int) (hl : IsPks (mask S w) (.slice lb l.length lq) l) (hln : l.length ≤ 1048576) :
    Calls Try.prog 14 #[.agg #[.slice lb l.length lq], .int .i64 n] w fun e w' => ∃ v1, e = .returned (.tuple #[.agg #[v1], .int .i64 (copyR l n).2]) ∧ (pPks (copyR l n).1).p v1 (mask S w') ∧ Below w.heap.size w w' := by
  obtain ⟨R, hR⟩ : ∃ R, copyR l n = R := ⟨_, rfl⟩
  rw [hR]
  have hwt := fun w hm p vb vq S hS hl hx => send_any w hm S hS lb lq l p vb vq hl hx
  obtain ⟨N, hN⟩ : ∃ N, l.length = N := ⟨_, rfl⟩
  have hr : R = if 0 ≤ n ∧ n < N then sendR l (l.getD n.toNat Pk.zero) else ([], 4) := by rw [← hR, ← hN]; rfl
  rw [hN] at hl hwt hln ⊢
  have hn63 : N ≤ 9223372036854775807 := by omega
  have h0 := ((((St.start w).putOld hasMax_mono hm).putOld (Mono.off S (Mono.seq rdPk_up _ _)) hl).boxC #[.slice lb N lq] 24).alloc (.cells #[.slice none 0 0] 24)
  simp only [al_size] at h0
  have HR := Lib.hid hr
  have HN := Lib.hid hN
  have HWT := Lib.hid hwt
  clear hr hR hl hwt hN
  go_enter Try.func14, Try.ntmps14
  have c0 := (h0.is 0 rfl : IsCells _ _ _).c1
  by_cases hin : 0 ≤ n ∧ n < N
  case neg =>
    have hr := HR.out
    rw [if_neg hin] at hr
    subst hr
    clear HR
    by_cases hlo : n < 0
    case' neg => have hhi : (N : Int) ≤ n := by omega
    all_goals
      go_wp2_with (refine wpList_store_row rfl 24 (.tmp 4) (.tmp 15) rfl (w.heap.size + 1) #[.slice none 0 0] rfl rfl 24 _ (h0.at_ 0 rfl) ch_info rfl (ch_one _ _ _) ?_)
      have h2 := h0.setRow (os1 := []) (cs' := #[.slice none 0 0])
      exact bodyPost_ret (results_cell1 rfl _ _ (w.heap.size + 1) 24 #[.slice none 0 0] (0, 0) _ rfl (h2.at_ 0 rfl) Try.underlying24 rfl ch_info) rfl ⟨_, rfl, pPks_nil _, h2.below⟩
  obtain ⟨i, rfl, hi⟩ : ∃ i : Nat, n = (i : Int) ∧ i < N := ⟨n.toNat, by omega, by omega⟩
  have hil : i < l.length := by rw [HN.out]; exact hi
  have hr := HR.out
  rw [if_pos hin, Int.toNat_natCast, List.getD_eq_getElem?_getD, List.getElem?_eq_getElem hil, Option.getD_some] at hr
  obtain ⟨ga, oa, va, qa, rfl, hva, hra⟩ := (show IsPks (mask S (sm _ _)) (.slice lb N lq) l from h0.get 1 rfl).pks i hil
  obtain ⟨p, hp⟩ : ∃ p, l[i] = p := ⟨_, rfl⟩
  rw [hp] at hr hva hra
  have hwi := fun w hm S hS hl hx => HWT.out w hm p va qa S hS hl hx
  rw [← hr] at hwi
  clear hp HWT HR hin hr
  obtain ⟨a1, a2, a3, f1, f2, f3, f4, f5, f6, f7, f8⟩ := p
  simp only [Pk.val, Pk.cellsA] at hva hra hwi ⊢
  obtain ⟨m, hm⟩ : ∃ m, f8.length = m := ⟨_, rfl⟩
  rw [hm] at hva hra hwi
  have HWI := Lib.hid hwi
  clear hm hwi
  have h1 := (h0.put (Mono.off S (Mono.seq rdVal_up _ _)) hva).put (Mono.range _ _ _) (Mono.range _ _ _ _ _ (mask_is _ _) hra)
  clear h0 hva hra
  have hilo : ¬ (i : Int) < 0 := by omega
  have hihi : ¬ (N : Int) ≤ (i : Int) := by omega
  go_upto_region 3 with fail
  clear c0
  refine wp_region_st [pVal (.agg #[.slice (some ⟨ga, oa, none⟩) N lq]), pVal ?c3_1, pVal (.slice (some ⟨ga, oa, none⟩) N lq), pVal ?c3_3, pVal ?c3_4, pVal (.agg #[.string a1, .bool a2, .int .i64 a3, .string f1, .int .i64 f2, .int .i64 f3, .int .i64 f4, .string f5, .string f6, .int .i64 f7, .slice va m qa]), pChT S R, pCh S R.1, pVal (.int .i64 R.2), pAny, pVal ?c3_10] (osS 9 7 24 (w.heap.size + 1) (.cells #[.slice none 0 0] 24 (0, 0)) [] []) 25 [0, 0, 2, 0, 14, 30, 63, 127, 127, 511, 1023] [[], [], [(1, 17)], [], [(3, 19), (2, 18)], [(4, 20)], [(5, 21), (0, 16)], [(6, 22)], [(6, 22)], [(7, 23)], [(8, 24)]] [(0, 16), (1, 17), (2, 18), (3, 19), (4, 20), (5, 21), (6, 22), (7, 23), (8, 24), (10, 5)] (by kernel_rfl) (by kernel_rfl) rfl rfl h1 osS0 (osS1 (by decide)) ?ob ?en
  case ob =>
    refine ⟨?_, ?_, ?_, ?_, ?_, ?_, ?_, ?_, ?_, ?_, ?_, trivial⟩
    · -- 0: t16 := Op.load 24 (t2)
      intro zx1 zx2 zx3 zx4 L V W hL hd hw hst 
      have hz := mask_is _ _ _ _ ((hst.base 2 rfl : IsCells _ _ _) 0 _ rfl)
      refine ob_c rfl ?_ hst rfl
      go_simp
      try with_reducible rfl
    · -- 1: t17 := Op.fieldAddr 24 (t2) 0
      intro zx1 zx2 zx3 zx4 L V W hL hd hw hst 
      refine ob_c rfl ?_ hst rfl
      go_simp
      try with_reducible rfl
    · -- 2: t18 := Op.load 22 (t17)
      intro zx1 zx2 zx3 zx4 L V W hL hd hw hst u1 e1 p1
      obtain rfl : u1 = _ := p1
      have hz := mask_is _ _ _ _ ((hst.base 2 rfl : IsCells _ _ _) 0 _ rfl)
      refine ob_c rfl ?_ hst rfl
      go_simp
      try with_reducible rfl
    · -- 3: t19 := Op.move (t1)
      intro zx1 zx2 zx3 zx4 L V W hL hd hw hst 
      refine ob_c rfl ?_ hst rfl
      go_simp
      try with_reducible rfl
    · -- 4: t20 := Op.indexAddr 22 (t18) (t19)
      intro zx1 zx2 zx3 zx4 L V W hL hd hw hst u2 e2 p2 u3 e3 p3
      obtain rfl : u2 = _ := p2
      obtain rfl : u3 = _ := p3
      refine ob_c rfl ?_ hst rfl
      go_simp
      try with_reducible rfl
    · -- 5: t21 := Op.load 31 (t20)
      intro zx1 zx2 zx3 zx4 L V W hL hd hw hst u4 e4 p4
      obtain rfl : u4 = _ := p4
      exact ob_c rfl (run_load_mid rfl rfl ((hst.base 0 rfl : World.rangeAt _ _ _ _) |> Mono.range _ _ _ _ _ (mask_is _ _)) Try.underlying31 rfl rfl) hst rfl
    · -- 6: t22 := Op.call { callee := value (func 11), args := #[t16, t21], argTypes := #[24, 31] }
      intro zx1 zx2 zx3 zx4 L V W hL hd hw hst u0 e0 p0 u5 e5 p5
      obtain rfl : u0 = _ := p0
      obtain rfl : u5 = _ := p5
      refine ob_call rfl ?_ (Calls.pChT hst (HWI.out _ (hasMax_sub (hst.base 4 rfl) (mask_is _ _)) (orS S (inL (keys _))) (hst.orLt hS) ((hst.base 3 rfl : IsPks (mask S (sm _ _)) _ _).sub rdPk_up mask_or1) ((hst.base 1 rfl : IsVals (mask S (sm _ _)) _ _).sub rdVal_up mask_or1)))
      go_simp
      try rfl
    · -- 7: t23 := Op.extract (t22) 0
      intro zx1 zx2 zx3 zx4 L V W hL hd hw hst u6 e6 p6
      obtain ⟨b6, q6, rfl, hk6⟩ := p6
      refine ob_v (.agg #[.slice b6 R.1.length q6]) rfl ?_ hst (osS_keep (hw 9 rfl (by decide)) (by decide)) ⟨b6, q6, rfl, hk6⟩
      go_simp
    · -- 8: t24 := Op.extract (t22) 1
      intro zx1 zx2 zx3 zx4 L V W hL hd hw hst u6 e6 p6
      obtain ⟨b6, q6, rfl, hk6⟩ := p6
      refine ob_c rfl ?_ hst rfl
      go_simp
      try with_reducible rfl
    · -- 9: tNone := Op.store 24 (t4) (t23)
      intro zx1 zx2 zx3 zx4 L V W hL hd hw hst u7 e7 p7
      obtain ⟨b7, q7, rfl, hk7⟩ := p7
      exact ob_set (k := 7) rfl rfl rfl rfl e7 rfl (by decide) hL rfl ch_info (ch_one _ _ _) hst
    · -- 10: t5 := Op.assign (t24)
      intro zx1 zx2 zx3 zx4 L V W hL hd hw hst u8 e8 p8
      obtain rfl : u8 = _ := p8
      refine ob_c rfl ?_ hst rfl
      go_simp
      try with_reducible rfl
  case en =>
    intro V W hst u0 e0 p0 u1 e1 p1 u2 e2 p2 u3 e3 p3 u4 e4 p4 u5 e5 p5 u6 e6 p6 u7 e7 p7 u8 e8 p8 u10 e10 p10
    obtain rfl : u0 = _ := p0
    obtain rfl : u1 = _ := p1
    obtain rfl : u2 = _ := p2
    obtain rfl : u3 = _ := p3
    obtain rfl : u4 = _ := p4
    obtain rfl : u5 = _ := p5
    obtain ⟨b6, q6, rfl, hk6⟩ := p6
    obtain ⟨b7, q7, rfl, hk7⟩ := p7
    obtain rfl : u8 = _ := p8
    obtain rfl : u10 = _ := p10
    simp only [EndAll, Act.put, List.getElem_toArray, List.getElem_cons_succ, List.getElem_cons_zero, List.setIfInBounds_toArray, List.set_cons_zero, List.set_cons_succ]
    have h4 := hst.put (Mono.off S (Mono.seq rdPk_up _ _)) hk7
    rw [osS_end e7] at h4
    clear hst hk6 hk7 e0 e1 e2 e3 e4 e5 e6 e7 e8 e10 h1
    have h5 := h4.loose (os1 := [])
    have k1 : IsPks (mask S W) (.slice b7 R.1.length q7) R.1 := h5.is 0 rfl
    go_wp2_with fail
    exact bodyPost_ret (results_cell1 rfl _ _ (w.heap.size + 1) 24 #[.slice b7 R.1.length q7] (0, 0) _ rfl (h4.at_ 0 rfl) Try.underlying24 rfl ch_info) rfl ⟨.slice b7 R.1.length q7, rfl, ⟨b7, q7, rfl, k1⟩, h4.below⟩

end Go.Proofs.Ytihohhjaomoemaa
