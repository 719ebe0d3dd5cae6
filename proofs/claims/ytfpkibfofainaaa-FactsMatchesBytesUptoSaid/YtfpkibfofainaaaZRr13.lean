/- The specification of facts: Read. -/
import Derived.Test.YtfpkibfofainaaaZCu13
import Derived.Test.YtfpkibfofainaaaZRv13
import Derived.Test.YtfpkibfofainaaaZRd
set_option linter.unusedVariables false
set_option linter.unusedSimpArgs false
namespace Go.Proofs.Ytfpkibfofainaaa
open Go.RowKit

theorem ret_fct {fn : Func} {R : Ending → World → Prop} {a : Act} {w : World} {p u1 u2 : Tmp} (g : Nat) (cs : Array Value) (h : fn.results = #[.cell p 27, .tmp u1, .tmp u2]) (hp : a.tmps.getD p undef = .pointer (some ⟨g, 0, none⟩))
    (hg : w.heap[g]? = some (.cells cs 27 (0, 0))) (hsz : cs.size = 8) (hd : a.defers = []) (hR : R (.returned (.tuple #[.agg cs, a.tmps.getD u1 undef, a.tmps.getD u2 undef])) w) : bodyPost Try.prog fn R .ret a w :=
  bodyPost_ret (results_cell2 h _ _ g 27 _ (0, 0) _ hp hg Try.underlying27 rfl (by rw [hsz]; exact fact_info)) hd hR

set_option maxRecDepth 8000 in
set_option maxHeartbeats 4000000 in
theorem refFRead_any (w : World) (bv : Value) (l : List UInt8) (i : Int) (hb : IsBytes w bv l) (hi : i ≤ 9223372036854775807) (hl : l.length ≤ 1099511627776) :
    Calls Try.prog 32 #[bv, .int .i64 i] w fun e w' => ∃ vb vq, e = .returned (.tuple #[(rdFc l i).1.val (.slice vb (rdFc l i).1.fields.length vq), .int .i64 (rdFc l i).2.1, .int .i64 (rdFc l i).2.2]) ∧ IsVals w' (.slice vb (rdFc l i).1.fields.length vq) (rdFc l i).1.fields ∧ Below w.heap.size w w' := by
  obtain ⟨bs, bc, rfl, hlen, hcap, -, -⟩ := hb.out
  unfold maxLen at hcap
  obtain ⟨bn, hbn⟩ : ∃ n, l.length = n := ⟨_, rfl⟩
  have hM : (l.length : Int) ≤ 9223372036854775807 := by omega
  obtain ⟨x1, a1, q1, hs1⟩ : ∃ x a c, stT l (i, 0) = (x, a, c) := ⟨_, _, _, rfl⟩
  have b1 : a1 ≤ 9223372036854775807 := by have := stT_small l i 0 _ hM hi; rw [hs1] at this; exact this
  obtain ⟨x2, a2, q2, hs2⟩ : ∃ x a c, stI l (a1, q1) = (x, a, c) := ⟨_, _, _, rfl⟩
  have b2 : a2 ≤ 9223372036854775807 := by have := stI_small l a1 q1 _ hM b1; rw [hs2] at this; exact this
  obtain ⟨x3, a3, q3, hs3⟩ : ∃ x a c, stI l (a2, q2) = (x, a, c) := ⟨_, _, _, rfl⟩
  have b3 : a3 ≤ 9223372036854775807 := by have := stI_small l a2 q2 _ hM b2; rw [hs3] at this; exact this
  obtain ⟨x4, a4, q4, hs4⟩ : ∃ x a c, stI l (a3, q3) = (x, a, c) := ⟨_, _, _, rfl⟩
  have b4 : a4 ≤ 9223372036854775807 := by have := stI_small l a3 q3 _ hM b3; rw [hs4] at this; exact this
  obtain ⟨x5, a5, q5, hs5⟩ : ∃ x a c, stT l (a4, q4) = (x, a, c) := ⟨_, _, _, rfl⟩
  have b5 : a5 ≤ 9223372036854775807 := by have := stT_small l a4 q4 _ hM b4; rw [hs5] at this; exact this
  obtain ⟨x6, a6, q6, hs6⟩ : ∃ x a c, stT l (a5, q5) = (x, a, c) := ⟨_, _, _, rfl⟩
  have b6 : a6 ≤ 9223372036854775807 := by have := stT_small l a5 q5 _ hM b5; rw [hs6] at this; exact this
  obtain ⟨x7, a7, q7, hs7⟩ : ∃ x a c, stI l (a6, q6) = (x, a, c) := ⟨_, _, _, rfl⟩
  have b7 : a7 ≤ 9223372036854775807 := by have := stI_small l a6 q6 _ hM b6; rw [hs7] at this; exact this
  obtain ⟨x8, a8, q8, hs8⟩ : ∃ x a c, stU l (a7, q7) = (x, a, c) := ⟨_, _, _, rfl⟩
  have b8 : a8 ≤ 9223372036854775807 := by have := stU_small l a7 q7 _ hM b7; rw [hs8] at this; exact this
  obtain ⟨a9, q9, hs9⟩ : ∃ a c, manyE l x8 (a8, q8) = (a, c) := ⟨_, _, rfl⟩
  have b9 : a9 ≤ 9223372036854775807 := by
    unfold manyE at hs9
    split at hs9 <;> cases hs9 <;> exact b8
  obtain ⟨vs, a10, q10, hs10⟩ : ∃ x a c, rdVs l x8 [] (a9, q9) = (x, a, c) := ⟨_, _, _, rfl⟩
  have hrd : rdFc l i = if q10 = 0 then (⟨⟨x1.toArray⟩, x2, x3, x4, ⟨x5.toArray⟩, ⟨x6.toArray⟩, x7, vs⟩, a10, 0) else (Fc.zero, 0, q10) := by
    have hh : rdHd l i = ⟨x1, x2, x3, x4, x5, x6, x7, x8, (a9, q9)⟩ := by unfold rdHd; simp only [hs1, hs2, hs3, hs4, hs5, hs6, hs7, hs8, hs9]
    unfold rdFc; rw [hh]; simp only; rw [hs10]
  obtain ⟨nn, hnn, hnb, hrn⟩ : ∃ nn : Nat, (if q9 = 0 then ((x8 : Nat) : Int) else 0) = (nn : Int) ∧ nn ≤ bn ∧ rdVs l nn [] (a9, q9) = (vs, a10, q10) := by
    by_cases h0 : q9 = 0
    · refine ⟨x8, if_pos h0, ?_, hs10⟩
      subst h0
      have hu := stU_ok (l := l) (s := (a7, q7))
      rw [hs8, hbn] at hu
      unfold manyE at hs9
      split at hs9
      · cases hs9
      · rename_i hc
        cases hs9
        have := hu rfl
        simp only at this hc
        rw [hbn] at hc
        have : ¬ ((bn : Int) - a8 < (x8 : Int)) := fun h => hc ⟨trivial, h⟩
        omega
    · refine ⟨0, if_neg h0, Nat.zero_le _, ?_⟩
      rw [rdVs_keep _ _ _ _ h0] at hs10
      rw [rdVs_keep _ _ _ _ h0]
      exact hs10
  obtain ⟨r, hr⟩ : ∃ r, rdFc l i = r := ⟨_, rfl⟩
  rw [hr] at hrd ⊢
  have S1 := Lib.hid hs1
  have S2 := Lib.hid hs2
  have S3 := Lib.hid hs3
  have S4 := Lib.hid hs4
  have S5 := Lib.hid hs5
  have S6 := Lib.hid hs6
  have S7 := Lib.hid hs7
  have S8 := Lib.hid hs8
  have S9 := Lib.hid hs9
  have S10 := Lib.hid hrn
  have HR := Lib.hid hrd
  have HNN := Lib.hid hnn
  have HL := Lib.hid hl
  have HM := Lib.hid hM
  rw [hbn] at hb hlen ⊢
  have HBN := Lib.hid hbn
  have h0 := ((St.start w).putOld (P := (IsBytes · (.slice bs bn bc) l)) (Mono.bytes _ _) hb).alloc (.cells #[.string ⟨#[]⟩, .int .i64 0, .int .i64 0, .int .i64 0, .string ⟨#[]⟩, .string ⟨#[]⟩, .int .i64 0, .slice none 0 0] 27)
  clear hr hrd hbn hb hnn hs1 hs2 hs3 hs4 hs5 hs6 hs7 hs8 hs9 hs10 hrn hM
  go_enter Try.func32, Try.ntmps32
  go_upto_region 1 with fail
  generalize World.alloc _ _ = W0 at h0 ⊢
  generalize w.heap.size = gr at h0 ⊢
  replace h0 := h0.alloc (curO bs bn bc i 0)
  go_upto_region 2 with fail
  generalize World.alloc _ _ = W1 at h0 ⊢
  generalize W0.heap.size = gc at h0 ⊢
  replace h0 := h0.alloc (.cells #[.string ⟨#[]⟩, .int .i64 0, .int .i64 0, .int .i64 0, .string ⟨#[]⟩, .string ⟨#[]⟩, .int .i64 0, .slice none 0 0] 27)
  go_upto_region 3 with fail
  generalize World.alloc _ _ = W2 at h0 ⊢
  generalize W1.heap.size = gf at h0 ⊢
  go_wp2_with fail
  refine (curT_s (l := l) h0 HL.out hi).mono ?_
  rintro e w1 ⟨rfl, k1⟩
  rw [S1.out] at k1 ⊢
  simp only at k1
  obtain ⟨c1, f1⟩ := cellJ (j := 0) (k1.at_ 0 rfl) rfl
  have h1 : St _ _ ((gf, .cells #[.string ⟨x1.toArray⟩, .int .i64 0, .int .i64 0, .int .i64 0, .string ⟨#[]⟩, .string ⟨#[]⟩, .int .i64 0, .slice none 0 0] 27 (0, 0)) :: (gc, curO bs bn bc a1 q1) :: (gr, .cells #[.string ⟨#[]⟩, .int .i64 0, .int .i64 0, .int .i64 0, .string ⟨#[]⟩, .string ⟨#[]⟩, .int .i64 0, .slice none 0 0] 27 (0, 0)) :: []) _ := k1.setCell (os1 := []) (i := 0) (v := .string ⟨x1.toArray⟩)
  clear h0 k1
  go_upto_region 4 with fail
  clear c1 f1
  generalize World.setCell _ _ _ = W3 at h1 ⊢
  go_wp2_with fail
  refine (curI_s (l := l) h1 HL.out b1).mono ?_
  rintro e w2 ⟨rfl, k2⟩
  rw [S2.out] at k2 ⊢
  simp only at k2
  obtain ⟨c2, f2⟩ := cellJ (j := 1) (k2.at_ 0 rfl) rfl
  have h2 : St _ _ ((gf, .cells #[.string ⟨x1.toArray⟩, .int .i64 x2, .int .i64 0, .int .i64 0, .string ⟨#[]⟩, .string ⟨#[]⟩, .int .i64 0, .slice none 0 0] 27 (0, 0)) :: (gc, curO bs bn bc a2 q2) :: (gr, .cells #[.string ⟨#[]⟩, .int .i64 0, .int .i64 0, .int .i64 0, .string ⟨#[]⟩, .string ⟨#[]⟩, .int .i64 0, .slice none 0 0] 27 (0, 0)) :: []) _ := k2.setCell (os1 := []) (i := 1) (v := .int .i64 x2)
  clear h1 k2
  go_upto_region 5 with fail
  clear c2 f2
  generalize World.setCell _ _ _ = W4 at h2 ⊢
  go_wp2_with fail
  refine (curI_s (l := l) h2 HL.out b2).mono ?_
  rintro e w3 ⟨rfl, k3⟩
  rw [S3.out] at k3 ⊢
  simp only at k3
  obtain ⟨c3, f3⟩ := cellJ (j := 2) (k3.at_ 0 rfl) rfl
  have h3 : St _ _ ((gf, .cells #[.string ⟨x1.toArray⟩, .int .i64 x2, .int .i64 x3, .int .i64 0, .string ⟨#[]⟩, .string ⟨#[]⟩, .int .i64 0, .slice none 0 0] 27 (0, 0)) :: (gc, curO bs bn bc a3 q3) :: (gr, .cells #[.string ⟨#[]⟩, .int .i64 0, .int .i64 0, .int .i64 0, .string ⟨#[]⟩, .string ⟨#[]⟩, .int .i64 0, .slice none 0 0] 27 (0, 0)) :: []) _ := k3.setCell (os1 := []) (i := 2) (v := .int .i64 x3)
  clear h2 k3
  go_upto_region 6 with fail
  clear c3 f3
  generalize World.setCell _ _ _ = W5 at h3 ⊢
  go_wp2_with fail
  refine (curI_s (l := l) h3 HL.out b3).mono ?_
  rintro e w4 ⟨rfl, k4⟩
  rw [S4.out] at k4 ⊢
  simp only at k4
  obtain ⟨c4, f4⟩ := cellJ (j := 3) (k4.at_ 0 rfl) rfl
  have h4 : St _ _ ((gf, .cells #[.string ⟨x1.toArray⟩, .int .i64 x2, .int .i64 x3, .int .i64 x4, .string ⟨#[]⟩, .string ⟨#[]⟩, .int .i64 0, .slice none 0 0] 27 (0, 0)) :: (gc, curO bs bn bc a4 q4) :: (gr, .cells #[.string ⟨#[]⟩, .int .i64 0, .int .i64 0, .int .i64 0, .string ⟨#[]⟩, .string ⟨#[]⟩, .int .i64 0, .slice none 0 0] 27 (0, 0)) :: []) _ := k4.setCell (os1 := []) (i := 3) (v := .int .i64 x4)
  clear h3 k4
  go_upto_region 7 with fail
  clear c4 f4
  generalize World.setCell _ _ _ = W6 at h4 ⊢
  go_wp2_with fail
  refine (curT_s (l := l) h4 HL.out b4).mono ?_
  rintro e w5 ⟨rfl, k5⟩
  rw [S5.out] at k5 ⊢
  simp only at k5
  obtain ⟨c5, f5⟩ := cellJ (j := 4) (k5.at_ 0 rfl) rfl
  have h5 : St _ _ ((gf, .cells #[.string ⟨x1.toArray⟩, .int .i64 x2, .int .i64 x3, .int .i64 x4, .string ⟨x5.toArray⟩, .string ⟨#[]⟩, .int .i64 0, .slice none 0 0] 27 (0, 0)) :: (gc, curO bs bn bc a5 q5) :: (gr, .cells #[.string ⟨#[]⟩, .int .i64 0, .int .i64 0, .int .i64 0, .string ⟨#[]⟩, .string ⟨#[]⟩, .int .i64 0, .slice none 0 0] 27 (0, 0)) :: []) _ := k5.setCell (os1 := []) (i := 4) (v := .string ⟨x5.toArray⟩)
  clear h4 k5
  go_upto_region 8 with fail
  clear c5 f5
  generalize World.setCell _ _ _ = W7 at h5 ⊢
  go_wp2_with fail
  refine (curT_s (l := l) h5 HL.out b5).mono ?_
  rintro e w6 ⟨rfl, k6⟩
  rw [S6.out] at k6 ⊢
  simp only at k6
  obtain ⟨c6, f6⟩ := cellJ (j := 5) (k6.at_ 0 rfl) rfl
  have h6 : St _ _ ((gf, .cells #[.string ⟨x1.toArray⟩, .int .i64 x2, .int .i64 x3, .int .i64 x4, .string ⟨x5.toArray⟩, .string ⟨x6.toArray⟩, .int .i64 0, .slice none 0 0] 27 (0, 0)) :: (gc, curO bs bn bc a6 q6) :: (gr, .cells #[.string ⟨#[]⟩, .int .i64 0, .int .i64 0, .int .i64 0, .string ⟨#[]⟩, .string ⟨#[]⟩, .int .i64 0, .slice none 0 0] 27 (0, 0)) :: []) _ := k6.setCell (os1 := []) (i := 5) (v := .string ⟨x6.toArray⟩)
  clear h5 k6
  go_upto_region 9 with fail
  clear c6 f6
  generalize World.setCell _ _ _ = W8 at h6 ⊢
  go_wp2_with fail
  refine (curI_s (l := l) h6 HL.out b6).mono ?_
  rintro e w7 ⟨rfl, k7⟩
  rw [S7.out] at k7 ⊢
  simp only at k7
  obtain ⟨c7, f7⟩ := cellJ (j := 6) (k7.at_ 0 rfl) rfl
  have h7 : St _ _ ((gf, .cells #[.string ⟨x1.toArray⟩, .int .i64 x2, .int .i64 x3, .int .i64 x4, .string ⟨x5.toArray⟩, .string ⟨x6.toArray⟩, .int .i64 x7, .slice none 0 0] 27 (0, 0)) :: (gc, curO bs bn bc a7 q7) :: (gr, .cells #[.string ⟨#[]⟩, .int .i64 0, .int .i64 0, .int .i64 0, .string ⟨#[]⟩, .string ⟨#[]⟩, .int .i64 0, .slice none 0 0] 27 (0, 0)) :: []) _ := k7.setCell (os1 := []) (i := 6) (v := .int .i64 x7)
  clear h6 k7
  go_upto_region 10 with fail
  clear c7 f7
  generalize World.setCell _ _ _ = W9 at h7 ⊢
  go_wp2_with fail
  refine (curN_s (l := l) h7 HBN.out HL.out b7).mono ?_
  rintro e w8 ⟨rfl, k8⟩
  rw [S8.out] at k8 ⊢
  simp only at k8
  rw [S9.out] at k8 ⊢
  simp only at k8
  rw [HNN.out]
  clear h7 HNN
  go_wp2_with fail
  go_loopw [10] (fun c wr => ∃ (k : Nat) (acc : List Vl) (a q : Int) (vb : Option Addr) (vq : Nat) (oo : List (Nat × Obj)), k ≤ nn ∧ c = .int .i64 k ∧ acc.length = k ∧ rdVs l (nn - k) acc (a, q) = (vs, a10, q10) ∧ a ≤ 9223372036854775807 ∧ OwnP 57 3 (.slice vb k vq) k (acc.flatMap Vl.cells) oo ∧ St w wr ((gf, .cells #[.string ⟨x1.toArray⟩, .int .i64 x2, .int .i64 x3, .int .i64 x4, .string ⟨x5.toArray⟩, .string ⟨x6.toArray⟩, .int .i64 x7, .slice vb k vq] 27 (0, 0)) :: (gc, curO bs bn bc a q) :: (gr, .cells #[.string ⟨#[]⟩, .int .i64 0, .int .i64 0, .int .i64 0, .string ⟨#[]⟩, .string ⟨#[]⟩, .int .i64 0, .slice none 0 0] 27 (0, 0)) :: oo) [(IsBytes · (.slice bs bn bc) l)]) (fun c _ => nn - (intOf c).toNat)
  case atStart => exact ⟨0, [], _, _, none, 0, [], Nat.zero_le _, rfl, rfl, S10.out, b9, ⟨by simp, .inl ⟨rfl, rfl, rfl⟩⟩, k8⟩
  case round =>
    clear k8
    obtain ⟨k, acc, a, q, vb, vq, oo, hk, rfl, hal, hrd, ha, hown, hst⟩ := hrel
    obtain ⟨p0, z0⟩ := cellJ (j := 0) (hst.at_ 1 rfl) rfl
    obtain ⟨p1, z1⟩ := cellJ (j := 1) (hst.at_ 1 rfl) rfl
    obtain ⟨p2, z2⟩ := cellJ (j := 2) (hst.at_ 1 rfl) rfl
    have HRD := Lib.hid hrd
    have HOWN := Lib.hid hown
    have HAL := Lib.hid hal
    clear hrd hown hal
    by_cases hgo : k < nn ∧ q = 0
    · obtain ⟨hlt, rfl⟩ := hgo
      have i1 : (k : Int) < (nn : Int) := by omega
      have hll : l.length ≤ 1099511627776 := HL.out
      have hbl := HBN.out
      obtain ⟨⟨xk, xn, xs⟩, a', q', hrv⟩ : ∃ x y c, stV l (a, 0) = (x, y, c) := ⟨_, _, _, rfl⟩
      have hrv2 : readV l a = (⟨xk, xn, xs⟩, a', q') := by rw [← hrv]; unfold stV; rw [if_pos rfl]
      have ha' : a' ≤ 9223372036854775807 := by have := readV_small l a 1099511627776 (by omega); rw [hrv2] at this; simp only at this; omega
      have HRV := Lib.hid hrv
      clear hrv
      go_wp2_with fail
      have hcv := refReadV_any wr (.slice bs bn bc) l a (hst.is 0 rfl) ha (by omega)
      rw [hrv2] at hcv
      simp only [Vl.val] at hcv
      refine (Calls.sV hst hcv).mono ?_
      rintro e w5 ⟨rfl, h5⟩
      clear hcv hrv2 hst p0 z0 p1 z1 p2 z2
      replace h5 := h5.alloc (.cells #[.int .i64 xk, .int .i64 xn, .string xs] 57)
      go_upto_region 15 with fail
      generalize World.alloc w5 _ = W6 at h5 ⊢
      generalize w5.heap.size = gv at h5 ⊢
      obtain ⟨v0, v1, v2⟩ := cells3 (h5.at_ 0 rfl)
      obtain ⟨p7, z7⟩ := cellJ (j := 7) (h5.at_ 1 rfl) rfl
      have h6 := h5.alloc (.cells #[.int .i64 xk, .int .i64 xn, .string xs] 57)
      have h7 := ((h6.loose (os1 := [])).loose (os1 := [])).perm (List.perm_append_comm (l₁ := [_, _, _]) (l₂ := oo))
      go_upto_region 16 with (at_builtin; go_loud (refine wpList_append_any' rfl (.tmp 67) (.tmp 69) 25 25 rfl w.heap.size 57 (.agg #[.int .i64 0, .int .i64 0, .string ⟨#[]⟩]) 3 32 Try.underlying25 val_info3 rfl (.slice vb k vq) k (acc.flatMap Vl.cells) rfl (HOWN.out.owns h7) _ 1 [.int .i64 xk, .int .i64 xn, .string xs] rfl (Src.row Try.underlying25 (isRow_lit (n := 1) (h6.at_ 0 rfl) rfl (by unfold maxLen; omega)) (fun u hu => by simp only [List.mem_cons, List.not_mem_nil, or_false] at hu; rcases hu with rfl | rfl | rfl <;> rfl)) (by omega) (by unfold maxLen; omega) h7.size ?_); intro v' w' r1 r2 r3; obtain ⟨oo', k2, h8⟩ := HOWN.out.append h7 r1 r2 r3; obtain ⟨vb', vq', rfl⟩ := own_slice r1; replace h8 := h8.perm (List.perm_append_comm (l₁ := oo') (l₂ := [_, _, _])); obtain ⟨y7, yz7⟩ := cellJ (j := 7) (h8.at_ 0 rfl) rfl)
      have h9 : St w _ ((gf, .cells #[.string ⟨x1.toArray⟩, .int .i64 x2, .int .i64 x3, .int .i64 x4, .string ⟨x5.toArray⟩, .string ⟨x6.toArray⟩, .int .i64 x7, .slice vb' (k + 1) vq'] 27 (0, 0)) :: (gc, curO bs bn bc a 0) :: (gr, .cells #[.string ⟨#[]⟩, .int .i64 0, .int .i64 0, .int .i64 0, .string ⟨#[]⟩, .string ⟨#[]⟩, .int .i64 0, .slice none 0 0] 27 (0, 0)) :: oo') [(IsBytes · (.slice bs bn bc) l)] := h8.setCell (os1 := []) (i := 7) (v := .slice vb' (k + 1) vq')
      clear h8 y7 yz7 r1 r2 r3 h7 h6 h5 v0 v1 v2 p7 z7
      generalize World.setCell _ _ _ = W9 at h9 ⊢
      obtain ⟨p1, z1⟩ := cellJ (j := 1) (h9.at_ 1 rfl) rfl
      obtain ⟨p2, z2⟩ := cellJ (j := 2) (h9.at_ 1 rfl) rfl
      have h10 : St w _ ((gf, .cells #[.string ⟨x1.toArray⟩, .int .i64 x2, .int .i64 x3, .int .i64 x4, .string ⟨x5.toArray⟩, .string ⟨x6.toArray⟩, .int .i64 x7, .slice vb' (k + 1) vq'] 27 (0, 0)) :: (gc, curO bs bn bc a' q') :: (gr, .cells #[.string ⟨#[]⟩, .int .i64 0, .int .i64 0, .int .i64 0, .string ⟨#[]⟩, .string ⟨#[]⟩, .int .i64 0, .slice none 0 0] 27 (0, 0)) :: oo') [(IsBytes · (.slice bs bn bc) l)] := (h9.setCell (os1 := [_]) (i := 1) (v := .int .i64 a')).setCell (os1 := [_]) (i := 2) (v := .int .i64 q')
      go_wp2_with fail
      go_roundw
      case rel =>
        refine ⟨k + 1, acc ++ [⟨xk, xn, xs⟩], a', q', vb', vq', oo', by omega, by go_num, by rw [List.length_append, HAL.out]; rfl, ?_, ha', ?_, h10⟩
        · have hrd := HRD.out
          rw [show nn - k = (nn - (k + 1)) + 1 by omega, rdVs, if_pos rfl, HRV.out] at hrd
          exact hrd
        · rw [List.flatMap_append]
          simpa using k2
      case measure => simp [intOf]; omega
    · have hend : rdVs l (nn - k) acc (a, q) = (acc, a, q) := by
        by_cases hq : q = 0
        · have : nn - k = 0 := by omega
          rw [this]; rfl
        · exact rdVs_keep _ _ _ _ hq
      rw [HRD.out] at hend
      have e1 : vs = acc := by cases hend; rfl
      have e2 : a10 = a := by cases hend; rfl
      have e3 : q10 = q := by cases hend; rfl
      subst e1 e2 e3
      clear hend HRD S10
      have hw3 : (k : Int) < (nn : Int) ∧ q10 ≠ 0 ∨ ¬ (k : Int) < (nn : Int) := by
        by_cases h1 : k < nn
        · exact .inl ⟨by omega, fun h => hgo ⟨h1, h⟩⟩
        · exact .inr (by omega)
      have h1 := (HOWN.out.done (hst.perm (List.perm_append_comm (l₁ := [_, _, _]) (l₂ := oo))))
      clear hst hgo HOWN
      by_cases hq : q10 = 0
      · subst hq
        have i1 : ¬ (k : Int) < (nn : Int) := by
          rcases hw3 with ⟨_, h⟩ | h
          · exact absurd rfl h
          · exact h
        clear hw3
        have hr := HR.out
        rw [if_pos rfl] at hr
        have HR2 := Lib.hid hr
        clear hr HR
        go_upto_region 20 with fail
        clear p0 z0 p1 z1 p2 z2
        refine wp_region_st [pVal (.agg #[.string ⟨x1.toArray⟩, .int .i64 x2, .int .i64 x3, .int .i64 x4, .string ⟨x5.toArray⟩, .string ⟨x6.toArray⟩, .int .i64 x7, .slice vb k vq]), pVal ?c20_1, pVal ?c20_2, pVal ?c20_3, pVal (.int .i64 a10), pAny, pVal ?c20_6, pVal ?c20_7] (osS 5 0 27 gr (.cells #[.string ⟨#[]⟩, .int .i64 0, .int .i64 0, .int .i64 0, .string ⟨#[]⟩, .string ⟨#[]⟩, .int .i64 0, .slice none 0 0] 27 (0, 0)) [(gf, .cells #[.string ⟨x1.toArray⟩, .int .i64 x2, .int .i64 x3, .int .i64 x4, .string ⟨x5.toArray⟩, .string ⟨x6.toArray⟩, .int .i64 x7, .slice vb k vq] 27 (0, 0)), (gc, curO bs bn bc a10 0)] []) 95 [0, 0, 2, 6, 14, 1, 63, 127] [[], [], [(1, 91)], [(2, 92)], [(3, 93)], [(0, 90)], [(4, 94)], []] [(0, 90), (1, 91), (2, 92), (3, 93), (4, 94), (6, 5), (7, 6)] (by kernel_rfl) (by kernel_rfl) rfl rfl h1 osS0 (osS1 (by decide)) ?ob ?en
        case ob =>
          refine ⟨?_, ?_, ?_, ?_, ?_, ?_, ?_, ?_, trivial⟩
          · -- 0: t90 := Op.load 27 (t8)
            intro zx1 zx2 zx3 zx4 L V W hL hd hw hst 
            exact ob_v (.agg #[.string ⟨x1.toArray⟩, .int .i64 x2, .int .i64 x3, .int .i64 x4, .string ⟨x5.toArray⟩, .string ⟨x6.toArray⟩, .int .i64 x7, .slice vb k vq]) rfl (run_load_own rfl rfl (hst.find (g := gf) (o := .cells #[.string ⟨x1.toArray⟩, .int .i64 x2, .int .i64 x3, .int .i64 x4, .string ⟨x5.toArray⟩, .string ⟨x6.toArray⟩, .int .i64 x7, .slice vb k vq] 27 (0, 0)) (osS_mem (by simp) _ _)) Try.underlying27 rfl fact_info) hst (osS_keep (hw 5 rfl (by decide)) (by decide)) rfl
          · -- 1: t91 := Op.move (t7)
            intro zx1 zx2 zx3 zx4 L V W hL hd hw hst 
            refine ob_c rfl ?_ hst rfl
            go_simp
            try with_reducible rfl
          · -- 2: t92 := Op.nilCheck (t91)
            intro zx1 zx2 zx3 zx4 L V W hL hd hw hst u1 e1 p1
            obtain rfl : u1 = _ := p1
            refine ob_c rfl ?_ hst rfl
            go_simp
            try with_reducible rfl
          · -- 3: t93 := Op.fieldAddr 99 (t92) 1
            intro zx1 zx2 zx3 zx4 L V W hL hd hw hst u2 e2 p2
            obtain rfl : u2 = _ := p2
            refine ob_c rfl ?_ hst rfl
            go_simp
            try with_reducible rfl
          · -- 4: t94 := Op.load 3 (t93)
            intro zx1 zx2 zx3 zx4 L V W hL hd hw hst u3 e3 p3
            obtain rfl : u3 = _ := p3
            obtain ⟨zz, zzf⟩ := cellJ (j := 1) (hst.find (g := gc) (o := curO bs bn bc a10 0) (osS_mem (by simp) _ _)) rfl
            refine ob_c rfl ?_ hst rfl
            go_simp
            try with_reducible rfl
          · -- 5: tNone := Op.store 27 (t4) (t90)
            intro zx1 zx2 zx3 zx4 L V W hL hd hw hst u0 e0 p0
            obtain rfl : u0 = _ := p0
            exact ob_set (k := 0) (g := gr) rfl rfl rfl rfl e0 rfl (by decide) hL rfl fact_info (fact_one _ _ _ _ _ _ _ _ _ _) hst
          · -- 6: t5 := Op.assign (t94)
            intro zx1 zx2 zx3 zx4 L V W hL hd hw hst u4 e4 p4
            obtain rfl : u4 = _ := p4
            refine ob_c rfl ?_ hst rfl
            go_simp
            try with_reducible rfl
          · -- 7: t6 := Op.assign (const (int IntKind.i64 0))
            intro zx1 zx2 zx3 zx4 L V W hL hd hw hst 
            refine ob_c rfl ?_ hst rfl
            go_simp
            try with_reducible rfl
        case en =>
          intro V W hst u0 e0 p0 u1 e1 p1 u2 e2 p2 u3 e3 p3 u4 e4 p4 u6 e6 p6 u7 e7 p7
          obtain rfl : u0 = _ := p0
          obtain rfl : u1 = _ := p1
          obtain rfl : u2 = _ := p2
          obtain rfl : u3 = _ := p3
          obtain rfl : u4 = _ := p4
          obtain rfl : u6 = _ := p6
          obtain rfl : u7 = _ := p7
          simp only [EndAll, Act.put, List.getElem_toArray, List.getElem_cons_succ, List.getElem_cons_zero, List.setIfInBounds_toArray, List.set_cons_zero, List.set_cons_succ]
          rw [osS_end e0] at hst
          go_wp2_with fail
          refine ret_fct gr #[.string ⟨x1.toArray⟩, .int .i64 x2, .int .i64 x3, .int .i64 x4, .string ⟨x5.toArray⟩, .string ⟨x6.toArray⟩, .int .i64 x7, .slice vb k vq] rfl rfl (hst.at_ 2 rfl) rfl rfl ?_
          refine ⟨vb, vq, ?_, ?_, hst.below⟩
          · rw [HR2.out]
            simp only [Fc.val, Fc.cellsA, HAL.out]
            rfl
          · rw [HR2.out]
            exact ⟨_, by simp only [HAL.out]; exact hst.is 0 rfl, fun i hi => vals_flat vs i hi⟩
      · have hr := HR.out
        rw [if_neg hq] at hr
        have HR2 := Lib.hid hr
        have n1 := beq_of hq
        have n2 := bne_of hq
        clear hr HR
        have h2 : (k : Int) < (nn : Int) ∨ ¬ (k : Int) < (nn : Int) := by omega
        clear hw3
        rcases h2 with i1 | i1
        all_goals
          go_upto_region 19 with fail
          clear p0 z0 p1 z1 p2 z2
          refine wp_region_st [pVal (.agg #[.string ⟨#[]⟩, .int .i64 0, .int .i64 0, .int .i64 0, .string ⟨#[]⟩, .string ⟨#[]⟩, .int .i64 0, .slice none 0 0]), pVal ?c19_1, pVal ?c19_2, pVal ?c19_3, pVal (.int .i64 q10), pAny, pVal ?c19_6, pVal ?c19_7] (osS 5 0 27 gr (.cells #[.string ⟨#[]⟩, .int .i64 0, .int .i64 0, .int .i64 0, .string ⟨#[]⟩, .string ⟨#[]⟩, .int .i64 0, .slice none 0 0] 27 (0, 0)) [(gf, .cells #[.string ⟨x1.toArray⟩, .int .i64 x2, .int .i64 x3, .int .i64 x4, .string ⟨x5.toArray⟩, .string ⟨x6.toArray⟩, .int .i64 x7, .slice vb k vq] 27 (0, 0)), (gc, curO bs bn bc a10 q10)] []) 95 [0, 0, 2, 6, 14, 1, 33, 127] [[], [], [(1, 86)], [(2, 87)], [(3, 88)], [(0, 85)], [], [(4, 89)]] [(0, 85), (1, 86), (2, 87), (3, 88), (4, 89), (6, 5), (7, 6)] (by kernel_rfl) (by kernel_rfl) rfl rfl h1 osS0 (osS1 (by decide)) ?ob ?en
          case ob =>
            refine ⟨?_, ?_, ?_, ?_, ?_, ?_, ?_, ?_, trivial⟩
            · -- 0: t85 := Op.build 27 #[]
              intro zx1 zx2 zx3 zx4 L V W hL hd hw hst 
              refine ob_c rfl ?_ hst (osS_keep (hw 5 rfl (by decide)) (by decide))
              go_simp
              try with_reducible rfl
            · -- 1: t86 := Op.move (t7)
              intro zx1 zx2 zx3 zx4 L V W hL hd hw hst 
              refine ob_c rfl ?_ hst rfl
              go_simp
              try with_reducible rfl
            · -- 2: t87 := Op.nilCheck (t86)
              intro zx1 zx2 zx3 zx4 L V W hL hd hw hst u1 e1 p1
              obtain rfl : u1 = _ := p1
              refine ob_c rfl ?_ hst rfl
              go_simp
              try with_reducible rfl
            · -- 3: t88 := Op.fieldAddr 99 (t87) 2
              intro zx1 zx2 zx3 zx4 L V W hL hd hw hst u2 e2 p2
              obtain rfl : u2 = _ := p2
              refine ob_c rfl ?_ hst rfl
              go_simp
              try with_reducible rfl
            · -- 4: t89 := Op.load 31 (t88)
              intro zx1 zx2 zx3 zx4 L V W hL hd hw hst u3 e3 p3
              obtain rfl : u3 = _ := p3
              obtain ⟨zz, zzf⟩ := cellJ (j := 2) (hst.find (g := gc) (o := curO bs bn bc a10 q10) (osS_mem (by simp) _ _)) rfl
              refine ob_c rfl ?_ hst rfl
              go_simp
              try with_reducible rfl
            · -- 5: tNone := Op.store 27 (t4) (t85)
              intro zx1 zx2 zx3 zx4 L V W hL hd hw hst u0 e0 p0
              obtain rfl : u0 = _ := p0
              exact ob_set (k := 0) (g := gr) rfl rfl rfl rfl e0 rfl (by decide) hL rfl fact_info (fact_one _ _ _ _ _ _ _ _ _ _) hst
            · -- 6: t5 := Op.assign (const (int IntKind.i64 0))
              intro zx1 zx2 zx3 zx4 L V W hL hd hw hst 
              refine ob_c rfl ?_ hst rfl
              go_simp
              try with_reducible rfl
            · -- 7: t6 := Op.assign (t89)
              intro zx1 zx2 zx3 zx4 L V W hL hd hw hst u4 e4 p4
              obtain rfl : u4 = _ := p4
              refine ob_c rfl ?_ hst rfl
              go_simp
              try with_reducible rfl
          case en =>
            intro V W hst u0 e0 p0 u1 e1 p1 u2 e2 p2 u3 e3 p3 u4 e4 p4 u6 e6 p6 u7 e7 p7
            obtain rfl : u0 = _ := p0
            obtain rfl : u1 = _ := p1
            obtain rfl : u2 = _ := p2
            obtain rfl : u3 = _ := p3
            obtain rfl : u4 = _ := p4
            obtain rfl : u6 = _ := p6
            obtain rfl : u7 = _ := p7
            simp only [EndAll, Act.put, List.getElem_toArray, List.getElem_cons_succ, List.getElem_cons_zero, List.setIfInBounds_toArray, List.set_cons_zero, List.set_cons_succ]
            rw [osS_end e0] at hst
            go_wp2_with fail
            refine ret_fct gr #[.string ⟨#[]⟩, .int .i64 0, .int .i64 0, .int .i64 0, .string ⟨#[]⟩, .string ⟨#[]⟩, .int .i64 0, .slice none 0 0] rfl rfl (hst.at_ 2 rfl) rfl rfl ?_
            refine ⟨none, 0, ?_, ?_, hst.below⟩
            · rw [HR2.out]
              rfl
            · rw [HR2.out]
              exact IsSeq.nil 3 rdVal _
end Go.Proofs.Ytfpkibfofainaaa
