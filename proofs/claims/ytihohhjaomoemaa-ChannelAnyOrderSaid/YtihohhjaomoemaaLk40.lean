/- The walk over ChannelKeepsOrder. -/
import Derived.Test.YtihohhjaomoemaaLm40
import Derived.Deep.CutRange
import Derived.Test.YtihohhjaomoemaaRegL
set_option linter.unusedVariables false
set_option linter.unusedSimpArgs false
namespace Go.Proofs.Ytihohhjaomoemaa
open Go Go.RowKit

theorem IsSeq.pksS {w : World} {b off : Nat} {n cap : Nat} {l : List Pk} (h : IsSeq 11 rdPk w (.slice (some ⟨b, off, none⟩) n cap) l) (i : Nat) (hi : i < l.length) :
    ∃ vb vq, IsVals w (.slice vb (l[i]).fact.fields.length vq) (l[i]).fact.fields ∧ w.rangeAt b (off + i * 11) ((l[i]).cellsA (.slice vb (l[i]).fact.fields.length vq)).toList := by
  obtain ⟨_, _, vb, vq, e, h1, h2⟩ := h.pks i hi
  cases e
  exact ⟨vb, vq, h1, h2⟩
theorem erase_lo {l : List Pk} {i j : Nat} (hj : j < (l.eraseIdx i).length) (hjj : j < l.length) (h : ¬ i ≤ j) : (l.eraseIdx i)[j] = l[j] := by
  rw [List.getElem_eraseIdx, dif_pos (by omega)]
theorem erase_hi {l : List Pk} {i j jj : Nat} (hj : j < (l.eraseIdx i).length) (hjj : jj < l.length) (h : i ≤ j) (h2 : jj = j + 1) : (l.eraseIdx i)[j] = l[jj] := by
  subst h2
  rw [List.getElem_eraseIdx, dif_neg (by omega)]
theorem IsSeq.take {α : Type} {sz : Nat} {R : Rd α} {w : World} {b : Option Addr} {n q : Nat} {l : List α} (h : IsSeq sz R w (.slice b n q) l) (i : Nat) (hi : i ≤ l.length) : IsSeq sz R w (.slice b i q) (l.take i) := by
  obtain ⟨xs, hr, he⟩ := h.elems
  obtain ⟨_, _, e, hcap, hmx, -⟩ := h.shape
  cases e
  have h1 := hr.part 0 i q (by omega) hi (by omega) (Nat.le_refl _)
  have e1 : b.map (fun x => x.add 0) = b := by cases b <;> simp [Addr.add]
  rw [Nat.zero_mul, e1, ite_self, List.drop_zero, Nat.sub_zero, Nat.sub_zero] at h1
  exact IsSeq.of h1 (he.take i hi) (by rw [List.length_take]; omega)
theorem sameCh_p {w0 W : World} {os : List (Nat × Obj)} {fs : List (World → Prop)} (h : St w0 W os fs) {ab bb : Option Addr} {aq bq n m : Nat} {a b : List Pk} (ha : IsPks W (.slice ab n aq) a) (han : a.length = n) (hb : IsPks W (.slice bb m bq) b) (hbm : b.length = m) {r : Bool} (hr : decide (a = b) = r) :
    Calls Try.prog 12 #[.agg #[.slice ab n aq], .agg #[.slice bb m bq]] W fun e w' => ∃ v, e = .returned v ∧ St w0 w' os ((pVal (.bool r)).p v :: fs) := by
  subst han hbm hr
  exact Calls.pV h (sameCh_any W a b ab bb aq bq ha hb)
theorem samePk_p {w0 W : World} {os : List (Nat × Obj)} {fs : List (World → Prop)} (h : St w0 W os fs) (a b : Pk) {ab bb : Option Addr} {aq bq n m : Nat} (ha : IsVals W (.slice ab n aq) a.fact.fields) (han : a.fact.fields.length = n) (hb : IsVals W (.slice bb m bq) b.fact.fields) (hbm : b.fact.fields.length = m) {r : Bool} (hr : decide (a = b) = r) :
    Calls Try.prog 13 #[a.val (.slice ab n aq), b.val (.slice bb m bq)] W fun e w' => ∃ v, e = .returned v ∧ St w0 w' os ((pVal (.bool r)).p v :: fs) := by
  subst han hbm hr
  exact Calls.pV h (samePk_any W a b ab bb aq bq ha hb)
theorem send_ok0 {l S : List Pk} {p : Pk} (h : sendR l p = (S, 0)) : S = l ++ [p] ∧ l.length < 1024 := by
  unfold sendR at h
  split at h
  · cases h
  · split at h
    · cases h
    · cases h; exact ⟨rfl, by omega⟩
theorem copy_ok0 {l S : List Pk} {n : Int} (h : copyR l n = (S, 0)) : ∃ (i : Nat) (hi : i < l.length), n = (i : Int) ∧ S = l ++ [l[i]] ∧ l.length < 1024 := by
  by_cases hin : 0 ≤ n ∧ n < l.length
  · obtain ⟨i, rfl, hi⟩ : ∃ i : Nat, n = (i : Int) ∧ i < l.length := ⟨n.toNat, by omega, by omega⟩
    rw [copyR_in hi] at h
    obtain ⟨h1, h2⟩ := send_ok0 h
    exact ⟨i, hi, rfl, h1, h2⟩
  · rw [copyR_out hin] at h
    cases h

set_option maxRecDepth 8000 in
set_option maxHeartbeats 16000000 in
theorem keeps_walk (w : World) (hm : HasMax w) (l : List Pk) (lb : Option Addr) (lq : Nat) (hl : IsPks w (.slice lb l.length lq) l) (p : Pk) (vb : Option Addr) (vq : Nat) (hp : IsVals w (.slice vb p.fact.fields.length vq) p.fact.fields) (n : Int) (hn64 : -9223372036854775808 ≤ n ∧ n ≤ 9223372036854775807) :
    Calls Try.prog 3 #[.agg #[.slice lb l.length lq], p.val (.slice vb p.fact.fields.length vq), .int .i64 n] w fun e w' => e = .returned (.bool true) ∧ Below w.heap.size w w' := by
  obtain ⟨N, hN⟩ : ∃ N, l.length = N := ⟨_, rfl⟩
  obtain ⟨⟨S2, Q, s2⟩, hD⟩ : ∃ R, delR l n = R := ⟨_, rfl⟩
  have hR : dropR l n = (S2, s2) := by unfold dropR; rw [hD]
  obtain ⟨N2, hN2⟩ : ∃ N, S2.length = N := ⟨_, rfl⟩
  obtain ⟨b1, b2, b3, g1, g2, g3, g4, g5, g6, g7, g8⟩ := Q
  obtain ⟨kq, hkq⟩ : ∃ m, g8.length = m := ⟨_, rfl⟩
  have RD := Lib.hid hD
  have RR := Lib.hid hR
  have L2 := Lib.hid hN2
  have HKQ := Lib.hid hkq
  clear hD hR hN2 hkq
  obtain ⟨⟨S1, s1⟩, hS⟩ : ∃ R, sendR l p = R := ⟨_, rfl⟩
  obtain ⟨⟨S4, s4⟩, hC⟩ : ∃ R, copyR l n = R := ⟨_, rfl⟩
  obtain ⟨N1, hN1⟩ : ∃ N, S1.length = N := ⟨_, rfl⟩
  obtain ⟨N4, hN4⟩ : ∃ N, S4.length = N := ⟨_, rfl⟩
  obtain ⟨a1, a2, a3, f1, f2, f3, f4, f5, f6, f7, f8⟩ := p
  simp only [Pk.val, Pk.cellsA] at hp ⊢
  obtain ⟨m, hmm⟩ : ∃ m, f8.length = m := ⟨_, rfl⟩
  rw [hmm] at hp ⊢
  rw [hN] at hl ⊢
  have HN := Lib.hid hN
  have HMM := Lib.hid hmm
  have RS := Lib.hid hS
  have RC := Lib.hid hC
  have L1 := Lib.hid hN1
  have L4 := Lib.hid hN4
  have h0 := (((((St.start w).putOld hasMax_mono hm).putOld (P := (IsPks · (.slice lb N lq) l)) (Mono.seq rdPk_up _ _) hl).putOld (P := (IsVals · (.slice vb m vq) f8)) (Mono.seq rdVal_up _ _) hp).boxC #[.slice lb N lq] 24).boxC #[.string a1, .bool a2, .int .i64 a3, .string f1, .int .i64 f2, .int .i64 f3, .int .i64 f4, .string f5, .string f6, .int .i64 f7, .slice vb m vq] 31
  simp only [al_size] at h0
  clear hl hp hN hmm hS hC hN1 hN4
  go_enter Try.func3, Try.ntmps3
  go_wp2_with fail
  refine (Calls.sV h0 (example_any _ (h0.is 4 rfl))).mono ?_
  rintro e w1 ⟨rfl, h1⟩
  clear h0
  obtain ⟨ck, hck⟩ : ∃ c, chCheck l = c := ⟨_, rfl⟩
  have HCK := Lib.hid hck
  clear hck
  have c0 := (h1.is 1 rfl : IsCells _ _ _).c1
  go_wp2_with fail
  refine (refChCheck_c h1 (h1.is 3 rfl) HN.out HCK.out).mono ?_
  rintro e w3 ⟨rfl, h3⟩
  clear h1 c0
  by_cases hk : ck = 0
  case neg =>
    have hk' := bne_of hk
    clear HCK
    go_wp2_with fail
    go_ret
    exact ⟨rfl, h3.below⟩
  subst hk
  have hle : N ≤ 1024 := by have := chk_len HCK.out; rw [HN.out] at this; exact this
  have hle2 : N ≤ 1048576 := by omega
  clear HCK
  have c0 := (h3.is 1 rfl : IsCells _ _ _).c1
  go_wp2_with (refine wpList_load_mid rfl 31 (.tmp 4) rfl (w.heap.size + 1) 0 rfl [.string a1, .bool a2, .int .i64 a3, .string f1, .int .i64 f2, .int .i64 f3, .int .i64 f4, .string f5, .string f6, .int .i64 f7, .slice vb m vq] _ (h3.is 0 rfl : IsCells _ _ _).range Try.underlying31 rfl rfl ?_)
  refine (send_c h3 (h3.is 4 rfl) (⟨a1, a2, a3, ⟨f1, f2, f3, f4, f5, f6, f7, f8⟩⟩ : Pk) (h3.is 3 rfl) HN.out (h3.is 2 rfl) HMM.out RS.out L1.out).mono ?_
  rintro e w4 ⟨r1, q1, rfl, h4⟩
  clear h3 c0
  go_upto_region 6 with fail
  have h5 := h4.boxC #[.slice r1 N1 q1] 24
  clear h4
  generalize World.alloc _ _ = W5 at h5 ⊢
  generalize w4.heap.size = g9 at h5 ⊢
  go_cut [61] from 32 to 60 (fun c wr => c = .bool false ∧ St w wr [] [IsCells (w.heap.size + 1) #[.string a1, .bool a2, .int .i64 a3, .string f1, .int .i64 f2, .int .i64 f3, .int .i64 f4, .string f5, .string f6, .int .i64 f7, .slice vb m vq], IsCells w.heap.size #[.slice lb N lq], (IsVals · (.slice vb m vq) f8), (IsPks · (.slice lb N lq) l), HasMax])
  case first =>
    by_cases hs : s1 = 0
    · subst hs
      obtain ⟨rfl, hlt⟩ := send_ok0 RS.out
      obtain rfl : N1 = N + 1 := by rw [← L1.out, List.length_append, HN.out]; rfl
      have hkt := (h5.is 1 rfl : IsPks _ _ _).take N (by rw [L1.out]; omega)
      rw [List.take_append_of_le_length (by rw [HN.out]; omega), List.take_of_length_le (by rw [HN.out]; omega)] at hkt
      obtain ⟨_, _, erow, hcap, hmx, -⟩ := (h5.is 1 rfl : IsPks _ _ _).shape
      rw [L1.out] at erow
      cases erow
      rw [L1.out] at hcap
      unfold maxLen at hmx
      obtain ⟨ga, oa, va, qa, rfl, hva, hra⟩ := (h5.is 1 rfl : IsPks _ _ _).pks N (by rw [L1.out]; omega)
      have hel : (l ++ [(⟨a1, a2, a3, ⟨f1, f2, f3, f4, f5, f6, f7, f8⟩⟩ : Pk)])[N]'(by rw [L1.out]; omega) = (⟨a1, a2, a3, ⟨f1, f2, f3, f4, f5, f6, f7, f8⟩⟩ : Pk) := by
        rw [List.getElem_append_right (by rw [HN.out]; omega)]
        simp [HN.out]
      rw [hel] at hva hra
      simp only [Pk.cellsA] at hva hra
      rw [HMM.out] at hva hra
      have h6 := ((h5.keep (Mono.seq rdPk_up _ _) hkt).keep (Mono.seq rdVal_up _ _) hva).keep (Mono.range _ _ _) hra
      have hw1 : IntKind.i64.wrap ((N : Int) + 1) = (N : Int) + 1 := by rw [IntKind.wrap_i64]; omega
      have HW1 := Lib.hid hw1
      clear h5 hkt hva hra hel hw1
      refine wp_region_st [pVal ?c6a_0, pVal (.bool true), pVal ?c6a_2, pVal ?c6a_3, pVal (.slice (some ⟨ga, oa, none⟩) (N + 1) q1), pVal ?c6a_5, pVal ?c6a_6, pVal (.int .i64 ((N : Int) + 1)), pVal (.bool false), pVal (.bool false), pVal ?c6a_10, pVal (.slice (some ⟨ga, oa, none⟩) (N + 1) q1), pVal ?c6a_12, pVal (.slice (some ⟨ga, oa, none⟩) N q1), pVal ?c6a_14, pVal (.agg #[.slice lb N lq]), pVal (.bool true), pVal (.bool false), pVal (.bool false), pVal (.bool false), pVal ?c6a_20, pVal (.slice (some ⟨ga, oa, none⟩) (N + 1) q1), pVal ?c6a_22, pVal (.pointer (some ⟨ga, oa + N * 11, none⟩)), pVal (.agg #[.string a1, .bool a2, .int .i64 a3, .string f1, .int .i64 f2, .int .i64 f3, .int .i64 f4, .string f5, .string f6, .int .i64 f7, .slice va m qa]), pVal (.agg #[.string a1, .bool a2, .int .i64 a3, .string f1, .int .i64 f2, .int .i64 f3, .int .i64 f4, .string f5, .string f6, .int .i64 f7, .slice vb m vq]), pVal (.bool true), pVal (.bool false), pVal (.bool false), pVal (.bool false)] (osC []) 193 [0, 1, 3, 7, 15, 31, 7, 71, 255, 511, 1023, 2047, 1023, 8191, 16383, 1023, 65535, 131071, 262143, 524287, 1048575, 2097151, 1048575, 8388607, 16777215, 1048575, 67108863, 134217727, 268435455, 536870911] [[], [(0, 32)], [(1, 33)], [(2, 34)], [(2, 34), (3, 35)], [(2, 34), (4, 36)], [(2, 34)], [(2, 34), (6, 38)], [(2, 34), (7, 39), (5, 37)], [(2, 34), (8, 40)], [(9, 41)], [(9, 41), (10, 42)], [(9, 41)], [(9, 41), (12, 44), (11, 43)], [(9, 41), (13, 45)], [(9, 41)], [(9, 41), (15, 47), (14, 46)], [(9, 41), (16, 48)], [(2, 34), (17, 49), (9, 41)], [(2, 34), (18, 50)], [(19, 51)], [(19, 51), (20, 52)], [(19, 51)], [(19, 51), (22, 54), (21, 53)], [(19, 51), (23, 55)], [(19, 51)], [(19, 51), (25, 57), (24, 56)], [(19, 51), (26, 58)], [(2, 34), (27, 59), (19, 51)], [(28, 60), (2, 34)]] [(0, 32), (1, 33), (2, 34), (3, 35), (4, 36), (5, 37), (6, 38), (7, 39), (8, 40), (9, 41), (10, 42), (11, 43), (12, 44), (13, 45), (14, 46), (15, 47), (16, 48), (17, 49), (18, 50), (19, 51), (20, 52), (21, 53), (22, 54), (23, 55), (24, 56), (25, 57), (26, 58), (27, 59), (28, 60), (29, 61)] (by kernel_rfl) (by kernel_rfl) rfl rfl h6 osC0 osC1 ?ob ?en
      case ob =>
        refine ⟨?_, ?_, ?_, ?_, ?_, ?_, ?_, ?_, ?_, ?_, ?_, ?_, ?_, ?_, ?_, ?_, ?_, ?_, ?_, ?_, ?_, ?_, ?_, ?_, ?_, ?_, ?_, ?_, ?_, ?_, trivial⟩
        · -- 0: t32 := Op.move (t10)
          intro zx1 zx2 zx3 zx4 L V W hL hd hw hst 
          refine ob_c rfl ?_ hst rfl
          go_simp
          try with_reducible rfl
        · -- 1: t33 := Op.binOp BinOp.eql 33 (t32) (const (int IntKind.i64 0)) 33
          intro zx1 zx2 zx3 zx4 L V W hL hd hw hst u0 e0 p0
          obtain rfl : u0 = _ := p0
          refine ob_c (by first | rfl | (simp [wantE, dstOf, zx1]; done)) ?_ hst rfl
          go_simp
          all_goals (skip)
        · -- 2: t34 := Op.move (t33)
          intro zx1 zx2 zx3 zx4 L V W hL hd hw hst u1 e1 p1
          obtain rfl : u1 = _ := p1
          refine ob_c rfl ?_ hst rfl
          go_simp
          try with_reducible rfl
        · -- 3: t35 := Op.fieldAddr 24 (t9) 0
          intro zx1 zx2 zx3 zx4 L V W hL hd hw hst u2 e2 p2
          obtain rfl : u2 = _ := p2
          refine ob_c (by first | rfl | (simp [wantE, dstOf, zx1]; done)) ?_ hst rfl
          go_simp
          try with_reducible rfl
        · -- 4: t36 := Op.load 22 (t35)
          intro zx1 zx2 zx3 zx4 L V W hL hd hw hst u3 e3 p3 u2 e2 p2
          obtain rfl : u3 = _ := p3
          obtain rfl : u2 = _ := p2
          have hz := mask_is _ _ _ _ ((hst.base 3 rfl : IsCells _ _ _) 0 _ rfl)
          refine ob_c (by first | rfl | (simp [wantE, dstOf, zx1]; done)) ?_ hst rfl
          go_simp
          try with_reducible rfl
        · -- 5: t37 := Op.call { callee := builtin Builtin.len, args := #[t36], argTypes := #[22] }
          intro zx1 zx2 zx3 zx4 L V W hL hd hw hst u4 e4 p4 u2 e2 p2
          obtain rfl : u4 = _ := p4
          obtain rfl : u2 = _ := p2
          refine ob_c (by first | rfl | (simp [wantE, dstOf, zx1]; done)) ?_ hst rfl
          go_simp
          try with_reducible rfl
        · -- 6: t38 := Op.move (t8)
          intro zx1 zx2 zx3 zx4 L V W hL hd hw hst u2 e2 p2
          obtain rfl : u2 = _ := p2
          refine ob_c (by first | rfl | (simp [wantE, dstOf, zx1]; done)) ?_ hst rfl
          go_simp
          try with_reducible rfl
        · -- 7: t39 := Op.binOp BinOp.add 3 (t38) (const (int IntKind.i64 1)) 3
          intro zx1 zx2 zx3 zx4 L V W hL hd hw hst u6 e6 p6 u2 e2 p2
          obtain rfl : u6 = _ := p6
          obtain rfl : u2 = _ := p2
          refine ob_c (by first | rfl | (simp [wantE, dstOf, zx1]; done)) ?_ hst rfl
          go_simp
          all_goals (rw [HW1.out])
        · -- 8: t40 := Op.binOp BinOp.neq 3 (t37) (t39) 3
          intro zx1 zx2 zx3 zx4 L V W hL hd hw hst u5 e5 p5 u7 e7 p7 u2 e2 p2
          obtain rfl : u5 = _ := p5
          obtain rfl : u7 = _ := p7
          obtain rfl : u2 = _ := p2
          refine ob_c (by first | rfl | (simp [wantE, dstOf, zx1]; done)) ?_ hst rfl
          go_simp
          all_goals (simp)
        · -- 9: t41 := Op.move (t40)
          intro zx1 zx2 zx3 zx4 L V W hL hd hw hst u8 e8 p8 u2 e2 p2
          obtain rfl : u8 = _ := p8
          obtain rfl : u2 = _ := p2
          refine ob_c (by first | rfl | (simp [wantE, dstOf, zx1]; done)) ?_ hst rfl
          go_simp
          all_goals (skip)
        · -- 10: t42 := Op.fieldAddr 24 (t9) 0
          intro zx1 zx2 zx3 zx4 L V W hL hd hw hst u9 e9 p9
          obtain rfl : u9 = _ := p9
          refine ob_c (by first | rfl | (simp [wantE, dstOf, zx1]; done)) ?_ hst rfl
          go_simp
          try with_reducible rfl
        · -- 11: t43 := Op.load 22 (t42)
          intro zx1 zx2 zx3 zx4 L V W hL hd hw hst u10 e10 p10 u9 e9 p9
          obtain rfl : u10 = _ := p10
          obtain rfl : u9 = _ := p9
          have hz := mask_is _ _ _ _ ((hst.base 3 rfl : IsCells _ _ _) 0 _ rfl)
          refine ob_c (by first | rfl | (simp [wantE, dstOf, zx1]; done)) ?_ hst rfl
          go_simp
          try with_reducible rfl
        · -- 12: t44 := Op.move (t8)
          intro zx1 zx2 zx3 zx4 L V W hL hd hw hst u9 e9 p9
          obtain rfl : u9 = _ := p9
          refine ob_c (by first | rfl | (simp [wantE, dstOf, zx1]; done)) ?_ hst rfl
          go_simp
          try with_reducible rfl
        · -- 13: t45 := Op.slice 22 (t43) none (some (t44)) none
          intro zx1 zx2 zx3 zx4 L V W hL hd hw hst u11 e11 p11 u12 e12 p12 u9 e9 p9
          obtain rfl : u11 = _ := p11
          obtain rfl : u12 = _ := p12
          obtain rfl : u9 = _ := p9
          refine ob_c (by first | rfl | (simp [wantE, dstOf, zx1]; done)) ?_ hst rfl
          go_simp
          all_goals (exact fun h => absurd h (by omega))
        · -- 14: t46 := Op.build 24 #[(0, t45)]
          intro zx1 zx2 zx3 zx4 L V W hL hd hw hst u13 e13 p13 u9 e9 p9
          obtain rfl : u13 = _ := p13
          obtain rfl : u9 = _ := p9
          refine ob_c (by first | rfl | (simp [wantE, dstOf, zx1]; done)) ?_ hst rfl
          go_simp
          try with_reducible rfl
        · -- 15: t47 := Op.load 24 (t3)
          intro zx1 zx2 zx3 zx4 L V W hL hd hw hst u9 e9 p9
          obtain rfl : u9 = _ := p9
          have hz := mask_is _ _ _ _ ((hst.base 6 rfl : IsCells _ _ _) 0 _ rfl)
          refine ob_c (by first | rfl | (simp [wantE, dstOf, zx1]; done)) ?_ hst rfl
          go_simp
          try with_reducible rfl
        · -- 16: t48 := Op.call { callee := value (func 12), args := #[t46, t47], argTypes := #[24, 24] }
          intro zx1 zx2 zx3 zx4 L V W hL hd hw hst u14 e14 p14 u15 e15 p15 u9 e9 p9
          obtain rfl : u14 = _ := p14
          obtain rfl : u15 = _ := p15
          obtain rfl : u9 = _ := p9
          refine ob_call (by first | rfl | (simp [wantE, dstOf, zx1]; done)) ?_ (sameCh_p hst ((hst.base 2 rfl : IsPks _ _ _).sub rdPk_up (mask_is _ _)) HN.out ((hst.base 8 rfl : IsPks _ _ _).sub rdPk_up (mask_is _ _)) HN.out (decide_eq_true rfl))
          go_simp
          try rfl
        · -- 17: t49 := Op.unOp UnOp.not 4 (t48)
          intro zx1 zx2 zx3 zx4 L V W hL hd hw hst u16 e16 p16 u9 e9 p9
          obtain rfl : u16 = _ := p16
          obtain rfl : u9 = _ := p9
          refine ob_c (by first | rfl | (simp [wantE, dstOf, zx1]; done)) ?_ hst rfl
          go_simp
          all_goals (skip)
        · -- 18: t50 := Op.pick (t41) (const (bool true)) (t49)
          intro zx1 zx2 zx3 zx4 L V W hL hd hw hst u9 e9 p9 u17 e17 p17 u2 e2 p2
          obtain rfl : u9 = _ := p9
          obtain rfl : u17 = _ := p17
          obtain rfl : u2 = _ := p2
          refine ob_c (by first | rfl | (simp [wantE, dstOf, zx1]; done)) ?_ hst rfl
          go_simp
          all_goals (skip)
        · -- 19: t51 := Op.move (t50)
          intro zx1 zx2 zx3 zx4 L V W hL hd hw hst u18 e18 p18 u2 e2 p2
          obtain rfl : u18 = _ := p18
          obtain rfl : u2 = _ := p2
          refine ob_c (by first | rfl | (simp [wantE, dstOf, zx1]; done)) ?_ hst rfl
          go_simp
          all_goals (skip)
        · -- 20: t52 := Op.fieldAddr 24 (t9) 0
          intro zx1 zx2 zx3 zx4 L V W hL hd hw hst u19 e19 p19
          obtain rfl : u19 = _ := p19
          refine ob_c (by first | rfl | (simp [wantE, dstOf, zx1]; done)) ?_ hst rfl
          go_simp
          try with_reducible rfl
        · -- 21: t53 := Op.load 22 (t52)
          intro zx1 zx2 zx3 zx4 L V W hL hd hw hst u20 e20 p20 u19 e19 p19
          obtain rfl : u20 = _ := p20
          obtain rfl : u19 = _ := p19
          have hz := mask_is _ _ _ _ ((hst.base 3 rfl : IsCells _ _ _) 0 _ rfl)
          refine ob_c (by first | rfl | (simp [wantE, dstOf, zx1]; done)) ?_ hst rfl
          go_simp
          try with_reducible rfl
        · -- 22: t54 := Op.move (t8)
          intro zx1 zx2 zx3 zx4 L V W hL hd hw hst u19 e19 p19
          obtain rfl : u19 = _ := p19
          refine ob_c (by first | rfl | (simp [wantE, dstOf, zx1]; done)) ?_ hst rfl
          go_simp
          try with_reducible rfl
        · -- 23: t55 := Op.indexAddr 22 (t53) (t54)
          intro zx1 zx2 zx3 zx4 L V W hL hd hw hst u21 e21 p21 u22 e22 p22 u19 e19 p19
          obtain rfl : u21 = _ := p21
          obtain rfl : u22 = _ := p22
          obtain rfl : u19 = _ := p19
          refine ob_c (by first | rfl | (simp [wantE, dstOf, zx1]; done)) ?_ hst rfl
          go_simp
          all_goals (exact fun h => absurd h (by omega))
        · -- 24: t56 := Op.load 31 (t55)
          intro zx1 zx2 zx3 zx4 L V W hL hd hw hst u23 e23 p23 u19 e19 p19
          obtain rfl : u23 = _ := p23
          obtain rfl : u19 = _ := p19
          exact ob_c (by first | rfl | (simp [wantE, dstOf, zx1]; done)) (run_load_mid rfl rfl ((hst.base 0 rfl : World.rangeAt _ _ _ _) |> Mono.range _ _ _ _ _ (mask_is _ _)) Try.underlying31 rfl rfl) hst rfl
        · -- 25: t57 := Op.load 31 (t4)
          intro zx1 zx2 zx3 zx4 L V W hL hd hw hst u19 e19 p19
          obtain rfl : u19 = _ := p19
          exact ob_c (by first | rfl | (simp [wantE, dstOf, zx1]; done)) (run_load_mid rfl rfl ((hst.base 5 rfl : IsCells _ _ _) |> Mono.cells _ _ _ _ (mask_is _ _) |>.range) Try.underlying31 rfl rfl) hst rfl
        · -- 26: t58 := Op.call { callee := value (func 13), args := #[t56, t57], argTypes := #[31, 31] }
          intro zx1 zx2 zx3 zx4 L V W hL hd hw hst u24 e24 p24 u25 e25 p25 u19 e19 p19
          obtain rfl : u24 = _ := p24
          obtain rfl : u25 = _ := p25
          obtain rfl : u19 = _ := p19
          refine ob_call (by first | rfl | (simp [wantE, dstOf, zx1]; done)) ?_ (samePk_p hst (⟨a1, a2, a3, ⟨f1, f2, f3, f4, f5, f6, f7, f8⟩⟩ : Pk) (⟨a1, a2, a3, ⟨f1, f2, f3, f4, f5, f6, f7, f8⟩⟩ : Pk) ((hst.base 1 rfl : IsVals _ _ _).sub rdVal_up (mask_is _ _)) HMM.out ((hst.base 7 rfl : IsVals _ _ _).sub rdVal_up (mask_is _ _)) HMM.out (decide_eq_true rfl))
          go_simp
          try rfl
        · -- 27: t59 := Op.unOp UnOp.not 4 (t58)
          intro zx1 zx2 zx3 zx4 L V W hL hd hw hst u26 e26 p26 u19 e19 p19
          obtain rfl : u26 = _ := p26
          obtain rfl : u19 = _ := p19
          refine ob_c (by first | rfl | (simp [wantE, dstOf, zx1]; done)) ?_ hst rfl
          go_simp
          all_goals (skip)
        · -- 28: t60 := Op.pick (t51) (const (bool true)) (t59)
          intro zx1 zx2 zx3 zx4 L V W hL hd hw hst u19 e19 p19 u27 e27 p27 u2 e2 p2
          obtain rfl : u19 = _ := p19
          obtain rfl : u27 = _ := p27
          obtain rfl : u2 = _ := p2
          refine ob_c (by first | rfl | (simp [wantE, dstOf, zx1]; done)) ?_ hst rfl
          go_simp
          all_goals (skip)
        · -- 29: t61 := Op.pick (t34) (t60) (const (bool false))
          intro zx1 zx2 zx3 zx4 L V W hL hd hw hst u2 e2 p2 u28 e28 p28
          obtain rfl : u2 = _ := p2
          obtain rfl : u28 = _ := p28
          refine ob_c (by first | rfl | (simp [wantE, dstOf, zx1]; done)) ?_ hst rfl
          go_simp
          all_goals (skip)
      case en =>
        intro V W hst u0 e0 p0 u1 e1 p1 u2 e2 p2 u3 e3 p3 u4 e4 p4 u5 e5 p5 u6 e6 p6 u7 e7 p7 u8 e8 p8 u9 e9 p9 u10 e10 p10 u11 e11 p11 u12 e12 p12 u13 e13 p13 u14 e14 p14 u15 e15 p15 u16 e16 p16 u17 e17 p17 u18 e18 p18 u19 e19 p19 u20 e20 p20 u21 e21 p21 u22 e22 p22 u23 e23 p23 u24 e24 p24 u25 e25 p25 u26 e26 p26 u27 e27 p27 u28 e28 p28 u29 e29 p29
        obtain rfl : u0 = _ := p0
        obtain rfl : u1 = _ := p1
        obtain rfl : u2 = _ := p2
        obtain rfl : u3 = _ := p3
        obtain rfl : u4 = _ := p4
        obtain rfl : u5 = _ := p5
        obtain rfl : u6 = _ := p6
        obtain rfl : u7 = _ := p7
        obtain rfl : u8 = _ := p8
        obtain rfl : u9 = _ := p9
        obtain rfl : u10 = _ := p10
        obtain rfl : u11 = _ := p11
        obtain rfl : u12 = _ := p12
        obtain rfl : u13 = _ := p13
        obtain rfl : u14 = _ := p14
        obtain rfl : u15 = _ := p15
        obtain rfl : u16 = _ := p16
        obtain rfl : u17 = _ := p17
        obtain rfl : u18 = _ := p18
        obtain rfl : u19 = _ := p19
        obtain rfl : u20 = _ := p20
        obtain rfl : u21 = _ := p21
        obtain rfl : u22 = _ := p22
        obtain rfl : u23 = _ := p23
        obtain rfl : u24 = _ := p24
        obtain rfl : u25 = _ := p25
        obtain rfl : u26 = _ := p26
        obtain rfl : u27 = _ := p27
        obtain rfl : u28 = _ := p28
        obtain rfl : u29 = _ := p29
        simp only [EndAll, Act.put, List.getElem_toArray, List.getElem_cons_succ, List.getElem_cons_zero, List.setIfInBounds_toArray, List.set_cons_zero, List.set_cons_succ]
        rw [show osC [] (fun _ => true) V = [] from rfl] at hst
        have hx9 := hst.facts (fs' := [IsCells (w.heap.size + 1) #[.string a1, .bool a2, .int .i64 a3, .string f1, .int .i64 f2, .int .i64 f3, .int .i64 f4, .string f5, .string f6, .int .i64 f7, .slice vb m vq], IsCells w.heap.size #[.slice lb N lq], (IsVals · (.slice vb m vq) f8), (IsPks · (.slice lb N lq) l), HasMax]) (fun P hP => by simp only [List.mem_cons, List.not_mem_nil, or_false] at hP ⊢; rcases hP with rfl | rfl | rfl | rfl | rfl <;> simp)
        clear hst h6 e0 e1 e2 e3 e4 e5 e6 e7 e8 e9 e10 e11 e12 e13 e14 e15 e16 e17 e18 e19 e20 e21 e22 e23 e24 e25 e26 e27 e28 e29
        go_wp2_with fail
        go_meet
        case rel => exact ⟨rfl, hx9⟩
    · have hs' := beq_of hs
      have HS := Lib.hid hs'
      clear hs'
      refine wp_region_st [pVal ?c6b_0, pVal (.bool false), pVal (.bool false), pVal undef, pVal undef, pVal undef, pVal undef, pVal undef, pVal undef, pVal undef, pVal undef, pVal undef, pVal undef, pVal undef, pVal undef, pVal undef, pVal undef, pVal undef, pVal undef, pVal undef, pVal undef, pVal undef, pVal undef, pVal undef, pVal undef, pVal undef, pVal undef, pVal undef, pVal undef, pVal (.bool false)] (osC []) 193 [0, 1, 3, 7, 15, 31, 7, 71, 255, 511, 1023, 2047, 1023, 8191, 16383, 1023, 65535, 131071, 262143, 524287, 1048575, 2097151, 1048575, 8388607, 16777215, 1048575, 67108863, 134217727, 268435455, 536870911] [[], [(0, 32)], [(1, 33)], [(2, 34)], [(2, 34), (3, 35)], [(2, 34), (4, 36)], [(2, 34)], [(2, 34), (6, 38)], [(2, 34), (7, 39), (5, 37)], [(2, 34), (8, 40)], [(9, 41)], [(9, 41), (10, 42)], [(9, 41)], [(9, 41), (12, 44), (11, 43)], [(9, 41), (13, 45)], [(9, 41)], [(9, 41), (15, 47), (14, 46)], [(9, 41), (16, 48)], [(2, 34), (17, 49), (9, 41)], [(2, 34), (18, 50)], [(19, 51)], [(19, 51), (20, 52)], [(19, 51)], [(19, 51), (22, 54), (21, 53)], [(19, 51), (23, 55)], [(19, 51)], [(19, 51), (25, 57), (24, 56)], [(19, 51), (26, 58)], [(2, 34), (27, 59), (19, 51)], [(28, 60), (2, 34)]] [(0, 32), (1, 33), (2, 34), (3, 35), (4, 36), (5, 37), (6, 38), (7, 39), (8, 40), (9, 41), (10, 42), (11, 43), (12, 44), (13, 45), (14, 46), (15, 47), (16, 48), (17, 49), (18, 50), (19, 51), (20, 52), (21, 53), (22, 54), (23, 55), (24, 56), (25, 57), (26, 58), (27, 59), (28, 60), (29, 61)] (by kernel_rfl) (by kernel_rfl) rfl rfl h5 osC0 osC1 ?ob ?en
      case ob =>
        refine ⟨?_, ?_, ?_, ?_, ?_, ?_, ?_, ?_, ?_, ?_, ?_, ?_, ?_, ?_, ?_, ?_, ?_, ?_, ?_, ?_, ?_, ?_, ?_, ?_, ?_, ?_, ?_, ?_, ?_, ?_, trivial⟩
        · -- 0: t32 := Op.move (t10)
          intro zx1 zx2 zx3 zx4 L V W hL hd hw hst 
          refine ob_c rfl ?_ hst rfl
          go_simp
          try with_reducible rfl
        · -- 1: t33 := Op.binOp BinOp.eql 33 (t32) (const (int IntKind.i64 0)) 33
          intro zx1 zx2 zx3 zx4 L V W hL hd hw hst u0 e0 p0
          obtain rfl : u0 = _ := p0
          refine ob_c (by first | rfl | (simp [wantE, dstOf, zx1]; done)) ?_ hst rfl
          go_simp
          all_goals (rw [HS.out])
        · -- 2: t34 := Op.move (t33)
          intro zx1 zx2 zx3 zx4 L V W hL hd hw hst u1 e1 p1
          obtain rfl : u1 = _ := p1
          refine ob_c (by first | rfl | (simp [wantE, dstOf, zx1]; done)) ?_ hst rfl
          go_simp
          all_goals (skip)
        · -- 3: t35 := Op.fieldAddr 24 (t9) 0
          intro zx1 zx2 zx3 zx4 L V W hL hd hw hst u2 e2 p2
          obtain rfl : u2 = _ := p2
          refine ob_o ?_ hst ?_
          · first | rfl | (simp [wantE, dstOf, zx1]; done)
          · rfl
        · -- 4: t36 := Op.load 22 (t35)
          intro zx1 zx2 zx3 zx4 L V W hL hd hw hst u3 e3 p3 u2 e2 p2
          obtain rfl : u3 = _ := p3
          obtain rfl : u2 = _ := p2
          refine ob_o ?_ hst ?_
          · first | rfl | (simp [wantE, dstOf, zx1]; done)
          · rfl
        · -- 5: t37 := Op.call { callee := builtin Builtin.len, args := #[t36], argTypes := #[22] }
          intro zx1 zx2 zx3 zx4 L V W hL hd hw hst u4 e4 p4 u2 e2 p2
          obtain rfl : u4 = _ := p4
          obtain rfl : u2 = _ := p2
          refine ob_o ?_ hst ?_
          · first | rfl | (simp [wantE, dstOf, zx1]; done)
          · rfl
        · -- 6: t38 := Op.move (t8)
          intro zx1 zx2 zx3 zx4 L V W hL hd hw hst u2 e2 p2
          obtain rfl : u2 = _ := p2
          refine ob_o ?_ hst ?_
          · first | rfl | (simp [wantE, dstOf, zx1]; done)
          · rfl
        · -- 7: t39 := Op.binOp BinOp.add 3 (t38) (const (int IntKind.i64 1)) 3
          intro zx1 zx2 zx3 zx4 L V W hL hd hw hst u6 e6 p6 u2 e2 p2
          obtain rfl : u6 = _ := p6
          obtain rfl : u2 = _ := p2
          refine ob_o ?_ hst ?_
          · first | rfl | (simp [wantE, dstOf, zx1]; done)
          · rfl
        · -- 8: t40 := Op.binOp BinOp.neq 3 (t37) (t39) 3
          intro zx1 zx2 zx3 zx4 L V W hL hd hw hst u5 e5 p5 u7 e7 p7 u2 e2 p2
          obtain rfl : u5 = _ := p5
          obtain rfl : u7 = _ := p7
          obtain rfl : u2 = _ := p2
          refine ob_o ?_ hst ?_
          · first | rfl | (simp [wantE, dstOf, zx1]; done)
          · rfl
        · -- 9: t41 := Op.move (t40)
          intro zx1 zx2 zx3 zx4 L V W hL hd hw hst u8 e8 p8 u2 e2 p2
          obtain rfl : u8 = _ := p8
          obtain rfl : u2 = _ := p2
          refine ob_o ?_ hst ?_
          · first | rfl | (simp [wantE, dstOf, zx1]; done)
          · rfl
        · -- 10: t42 := Op.fieldAddr 24 (t9) 0
          intro zx1 zx2 zx3 zx4 L V W hL hd hw hst u9 e9 p9
          obtain rfl : u9 = _ := p9
          refine ob_o ?_ hst ?_
          · first | rfl | (simp [wantE, dstOf, zx1]; done)
          · rfl
        · -- 11: t43 := Op.load 22 (t42)
          intro zx1 zx2 zx3 zx4 L V W hL hd hw hst u10 e10 p10 u9 e9 p9
          obtain rfl : u10 = _ := p10
          obtain rfl : u9 = _ := p9
          refine ob_o ?_ hst ?_
          · first | rfl | (simp [wantE, dstOf, zx1]; done)
          · rfl
        · -- 12: t44 := Op.move (t8)
          intro zx1 zx2 zx3 zx4 L V W hL hd hw hst u9 e9 p9
          obtain rfl : u9 = _ := p9
          refine ob_o ?_ hst ?_
          · first | rfl | (simp [wantE, dstOf, zx1]; done)
          · rfl
        · -- 13: t45 := Op.slice 22 (t43) none (some (t44)) none
          intro zx1 zx2 zx3 zx4 L V W hL hd hw hst u11 e11 p11 u12 e12 p12 u9 e9 p9
          obtain rfl : u11 = _ := p11
          obtain rfl : u12 = _ := p12
          obtain rfl : u9 = _ := p9
          refine ob_o ?_ hst ?_
          · first | rfl | (simp [wantE, dstOf, zx1]; done)
          · rfl
        · -- 14: t46 := Op.build 24 #[(0, t45)]
          intro zx1 zx2 zx3 zx4 L V W hL hd hw hst u13 e13 p13 u9 e9 p9
          obtain rfl : u13 = _ := p13
          obtain rfl : u9 = _ := p9
          refine ob_o ?_ hst ?_
          · first | rfl | (simp [wantE, dstOf, zx1]; done)
          · rfl
        · -- 15: t47 := Op.load 24 (t3)
          intro zx1 zx2 zx3 zx4 L V W hL hd hw hst u9 e9 p9
          obtain rfl : u9 = _ := p9
          refine ob_o ?_ hst ?_
          · first | rfl | (simp [wantE, dstOf, zx1]; done)
          · rfl
        · -- 16: t48 := Op.call { callee := value (func 12), args := #[t46, t47], argTypes := #[24, 24] }
          intro zx1 zx2 zx3 zx4 L V W hL hd hw hst u14 e14 p14 u15 e15 p15 u9 e9 p9
          obtain rfl : u14 = _ := p14
          obtain rfl : u15 = _ := p15
          obtain rfl : u9 = _ := p9
          refine ob_o ?_ hst ?_
          · first | rfl | (simp [wantE, dstOf, zx1]; done)
          · rfl
        · -- 17: t49 := Op.unOp UnOp.not 4 (t48)
          intro zx1 zx2 zx3 zx4 L V W hL hd hw hst u16 e16 p16 u9 e9 p9
          obtain rfl : u16 = _ := p16
          obtain rfl : u9 = _ := p9
          refine ob_o ?_ hst ?_
          · first | rfl | (simp [wantE, dstOf, zx1]; done)
          · rfl
        · -- 18: t50 := Op.pick (t41) (const (bool true)) (t49)
          intro zx1 zx2 zx3 zx4 L V W hL hd hw hst u9 e9 p9 u17 e17 p17 u2 e2 p2
          obtain rfl : u9 = _ := p9
          obtain rfl : u17 = _ := p17
          obtain rfl : u2 = _ := p2
          refine ob_o ?_ hst ?_
          · first | rfl | (simp [wantE, dstOf, zx1]; done)
          · rfl
        · -- 19: t51 := Op.move (t50)
          intro zx1 zx2 zx3 zx4 L V W hL hd hw hst u18 e18 p18 u2 e2 p2
          obtain rfl : u18 = _ := p18
          obtain rfl : u2 = _ := p2
          refine ob_o ?_ hst ?_
          · first | rfl | (simp [wantE, dstOf, zx1]; done)
          · rfl
        · -- 20: t52 := Op.fieldAddr 24 (t9) 0
          intro zx1 zx2 zx3 zx4 L V W hL hd hw hst u19 e19 p19
          obtain rfl : u19 = _ := p19
          refine ob_o ?_ hst ?_
          · first | rfl | (simp [wantE, dstOf, zx1]; done)
          · rfl
        · -- 21: t53 := Op.load 22 (t52)
          intro zx1 zx2 zx3 zx4 L V W hL hd hw hst u20 e20 p20 u19 e19 p19
          obtain rfl : u20 = _ := p20
          obtain rfl : u19 = _ := p19
          refine ob_o ?_ hst ?_
          · first | rfl | (simp [wantE, dstOf, zx1]; done)
          · rfl
        · -- 22: t54 := Op.move (t8)
          intro zx1 zx2 zx3 zx4 L V W hL hd hw hst u19 e19 p19
          obtain rfl : u19 = _ := p19
          refine ob_o ?_ hst ?_
          · first | rfl | (simp [wantE, dstOf, zx1]; done)
          · rfl
        · -- 23: t55 := Op.indexAddr 22 (t53) (t54)
          intro zx1 zx2 zx3 zx4 L V W hL hd hw hst u21 e21 p21 u22 e22 p22 u19 e19 p19
          obtain rfl : u21 = _ := p21
          obtain rfl : u22 = _ := p22
          obtain rfl : u19 = _ := p19
          refine ob_o ?_ hst ?_
          · first | rfl | (simp [wantE, dstOf, zx1]; done)
          · rfl
        · -- 24: t56 := Op.load 31 (t55)
          intro zx1 zx2 zx3 zx4 L V W hL hd hw hst u23 e23 p23 u19 e19 p19
          obtain rfl : u23 = _ := p23
          obtain rfl : u19 = _ := p19
          refine ob_o ?_ hst ?_
          · first | rfl | (simp [wantE, dstOf, zx1]; done)
          · rfl
        · -- 25: t57 := Op.load 31 (t4)
          intro zx1 zx2 zx3 zx4 L V W hL hd hw hst u19 e19 p19
          obtain rfl : u19 = _ := p19
          refine ob_o ?_ hst ?_
          · first | rfl | (simp [wantE, dstOf, zx1]; done)
          · rfl
        · -- 26: t58 := Op.call { callee := value (func 13), args := #[t56, t57], argTypes := #[31, 31] }
          intro zx1 zx2 zx3 zx4 L V W hL hd hw hst u24 e24 p24 u25 e25 p25 u19 e19 p19
          obtain rfl : u24 = _ := p24
          obtain rfl : u25 = _ := p25
          obtain rfl : u19 = _ := p19
          refine ob_o ?_ hst ?_
          · first | rfl | (simp [wantE, dstOf, zx1]; done)
          · rfl
        · -- 27: t59 := Op.unOp UnOp.not 4 (t58)
          intro zx1 zx2 zx3 zx4 L V W hL hd hw hst u26 e26 p26 u19 e19 p19
          obtain rfl : u26 = _ := p26
          obtain rfl : u19 = _ := p19
          refine ob_o ?_ hst ?_
          · first | rfl | (simp [wantE, dstOf, zx1]; done)
          · rfl
        · -- 28: t60 := Op.pick (t51) (const (bool true)) (t59)
          intro zx1 zx2 zx3 zx4 L V W hL hd hw hst u19 e19 p19 u27 e27 p27 u2 e2 p2
          obtain rfl : u19 = _ := p19
          obtain rfl : u27 = _ := p27
          obtain rfl : u2 = _ := p2
          refine ob_o ?_ hst ?_
          · first | rfl | (simp [wantE, dstOf, zx1]; done)
          · rfl
        · -- 29: t61 := Op.pick (t34) (t60) (const (bool false))
          intro zx1 zx2 zx3 zx4 L V W hL hd hw hst u2 e2 p2 u28 e28 p28
          obtain rfl : u2 = _ := p2
          obtain rfl : u28 = _ := p28
          refine ob_c rfl ?_ hst rfl
          go_simp
      case en =>
        intro V W hst u0 e0 p0 u1 e1 p1 u2 e2 p2 u3 e3 p3 u4 e4 p4 u5 e5 p5 u6 e6 p6 u7 e7 p7 u8 e8 p8 u9 e9 p9 u10 e10 p10 u11 e11 p11 u12 e12 p12 u13 e13 p13 u14 e14 p14 u15 e15 p15 u16 e16 p16 u17 e17 p17 u18 e18 p18 u19 e19 p19 u20 e20 p20 u21 e21 p21 u22 e22 p22 u23 e23 p23 u24 e24 p24 u25 e25 p25 u26 e26 p26 u27 e27 p27 u28 e28 p28 u29 e29 p29
        obtain rfl : u0 = _ := p0
        obtain rfl : u1 = _ := p1
        obtain rfl : u2 = _ := p2
        obtain rfl : u3 = _ := p3
        obtain rfl : u4 = _ := p4
        obtain rfl : u5 = _ := p5
        obtain rfl : u6 = _ := p6
        obtain rfl : u7 = _ := p7
        obtain rfl : u8 = _ := p8
        obtain rfl : u9 = _ := p9
        obtain rfl : u10 = _ := p10
        obtain rfl : u11 = _ := p11
        obtain rfl : u12 = _ := p12
        obtain rfl : u13 = _ := p13
        obtain rfl : u14 = _ := p14
        obtain rfl : u15 = _ := p15
        obtain rfl : u16 = _ := p16
        obtain rfl : u17 = _ := p17
        obtain rfl : u18 = _ := p18
        obtain rfl : u19 = _ := p19
        obtain rfl : u20 = _ := p20
        obtain rfl : u21 = _ := p21
        obtain rfl : u22 = _ := p22
        obtain rfl : u23 = _ := p23
        obtain rfl : u24 = _ := p24
        obtain rfl : u25 = _ := p25
        obtain rfl : u26 = _ := p26
        obtain rfl : u27 = _ := p27
        obtain rfl : u28 = _ := p28
        obtain rfl : u29 = _ := p29
        simp only [EndAll, Act.put, List.getElem_toArray, List.getElem_cons_succ, List.getElem_cons_zero, List.setIfInBounds_toArray, List.set_cons_zero, List.set_cons_succ]
        rw [show osC [] (fun _ => true) V = [] from rfl] at hst
        have hx9 := hst.facts (fs' := [IsCells (w.heap.size + 1) #[.string a1, .bool a2, .int .i64 a3, .string f1, .int .i64 f2, .int .i64 f3, .int .i64 f4, .string f5, .string f6, .int .i64 f7, .slice vb m vq], IsCells w.heap.size #[.slice lb N lq], (IsVals · (.slice vb m vq) f8), (IsPks · (.slice lb N lq) l), HasMax]) (fun P hP => by simp only [List.mem_cons, List.not_mem_nil, or_false] at hP ⊢; rcases hP with rfl | rfl | rfl | rfl | rfl <;> simp)
        clear hst h5 e0 e1 e2 e3 e4 e5 e6 e7 e8 e9 e10 e11 e12 e13 e14 e15 e16 e17 e18 e19 e20 e21 e22 e23 e24 e25 e26 e27 e28 e29
        go_wp2_with fail
        go_meet
        case rel => exact ⟨rfl, hx9⟩
  case rest =>
  obtain ⟨rfl, h7⟩ := hcut
  clear h5
  have c0 := (h7.is 1 rfl : IsCells _ _ _).c1
  go_wp2_with fail
  refine (copy_c h7 (h7.is 4 rfl) n (h7.is 3 rfl) HN.out hle2 RC.out L4.out).mono ?_
  rintro e w8 ⟨r2, q2, rfl, h8⟩
  clear h7 c0
  go_upto_region 9 with fail
  have h9 := h8.boxC #[.slice r2 N4 q2] 24
  clear h8
  generalize World.alloc _ _ = W9 at h9 ⊢
  generalize w8.heap.size = g11 at h9 ⊢
  go_cut [110] from 68 to 109 (fun c wr => c = .bool false ∧ St w wr [] [IsCells (w.heap.size + 1) #[.string a1, .bool a2, .int .i64 a3, .string f1, .int .i64 f2, .int .i64 f3, .int .i64 f4, .string f5, .string f6, .int .i64 f7, .slice vb m vq], IsCells w.heap.size #[.slice lb N lq], (IsVals · (.slice vb m vq) f8), (IsPks · (.slice lb N lq) l), HasMax])
  case first =>
    by_cases hs : s4 = 0
    · subst hs
      obtain ⟨i, hil, rfl, rfl, hlt⟩ := copy_ok0 RC.out
      have hiN : i < N := by rw [← HN.out]; exact hil
      obtain rfl : N4 = N + 1 := by rw [← L4.out, List.length_append, HN.out]; rfl
      have hkt := (h9.is 1 rfl : IsPks _ _ _).take N (by rw [L4.out]; omega)
      rw [List.take_append_of_le_length (by rw [HN.out]; omega), List.take_of_length_le (by rw [HN.out]; omega)] at hkt
      obtain ⟨_, _, erow, hcap, hmx, -⟩ := (h9.is 1 rfl : IsPks _ _ _).shape
      rw [L4.out] at erow
      cases erow
      rw [L4.out] at hcap
      unfold maxLen at hmx
      obtain ⟨ga, oa, va, qa, rfl, hva, hra⟩ := (h9.is 1 rfl : IsPks _ _ _).pks N (by rw [L4.out]; omega)
      obtain ⟨gc, oc, vc, qc, rfl, hvc, hrc⟩ := (h9.is 5 rfl : IsPks _ _ _).pks i hil
      have hel : (l ++ [l[i]])[N]'(by rw [L4.out]; omega) = l[i] := by
        rw [List.getElem_append_right (by rw [HN.out]; omega)]
        simp [HN.out]
      rw [hel] at hva hra
      obtain ⟨x, hx⟩ : ∃ x, l[i] = x := ⟨_, rfl⟩
      rw [hx] at hva hra hvc hrc
      clear hx hel RC
      obtain ⟨x1, x2, x3, z1, z2, z3, z4, z5, z6, z7, z8⟩ := x
      simp only [Pk.cellsA] at hva hra hvc hrc
      obtain ⟨k, hkk⟩ : ∃ k, z8.length = k := ⟨_, rfl⟩
      rw [hkk] at hva hra hvc hrc
      have HKK := Lib.hid hkk
      have h10 := ((((h9.keep (Mono.seq rdPk_up _ _) hkt).keep (Mono.seq rdVal_up _ _) hva).keep (Mono.range _ _ _) hra).keep (Mono.seq rdVal_up _ _) hvc).keep (Mono.range _ _ _) hrc
      have hw1 : IntKind.i64.wrap ((N : Int) + 1) = (N : Int) + 1 := by rw [IntKind.wrap_i64]; omega
      have HW1 := Lib.hid hw1
      clear h9 hkt hva hra hvc hrc hw1 hkk
      refine wp_region_st [pVal ?c9a_0, pVal (.bool true), pVal ?c9a_2, pVal ?c9a_3, pVal (.bool false), pVal (.bool false), pVal ?c9a_6, pVal ?c9a_7, pVal (.bool false), pVal (.bool false), pVal (.bool false), pVal ?c9a_11, pVal (.slice (some ⟨ga, oa, none⟩) (N + 1) q2), pVal ?c9a_13, pVal ?c9a_14, pVal (.int .i64 ((N : Int) + 1)), pVal (.bool false), pVal (.bool false), pVal (.bool false), pVal ?c9a_19, pVal (.slice (some ⟨ga, oa, none⟩) (N + 1) q2), pVal ?c9a_21, pVal (.slice (some ⟨ga, oa, none⟩) N q2), pVal ?c9a_23, pVal (.agg #[.slice (some ⟨gc, oc, none⟩) N lq]), pVal (.bool true), pVal (.bool false), pVal (.bool false), pVal (.bool false), pVal ?c9a_29, pVal (.slice (some ⟨ga, oa, none⟩) (N + 1) q2), pVal ?c9a_31, pVal (.pointer (some ⟨ga, oa + N * 11, none⟩)), pVal (.agg #[.string x1, .bool x2, .int .i64 x3, .string z1, .int .i64 z2, .int .i64 z3, .int .i64 z4, .string z5, .string z6, .int .i64 z7, .slice va k qa]), pVal ?c9a_34, pVal (.slice (some ⟨gc, oc, none⟩) N lq), pVal ?c9a_36, pVal (.pointer (some ⟨gc, oc + i * 11, none⟩)), pVal (.agg #[.string x1, .bool x2, .int .i64 x3, .string z1, .int .i64 z2, .int .i64 z3, .int .i64 z4, .string z5, .string z6, .int .i64 z7, .slice vc k qc]), pVal (.bool true), pVal (.bool false), pVal (.bool false), pVal (.bool false)] (osC []) 193 [0, 1, 3, 7, 15, 31, 63, 63, 255, 511, 1023, 2047, 4095, 8191, 2047, 18431, 65535, 131071, 262143, 524287, 1048575, 524287, 4194303, 8388607, 524287, 33554431, 67108863, 134217727, 268435455, 536870911, 1073741823, 536870911, 4294967295, 8589934591, 536870911, 17716740095, 536870911, 120795955199, 258234908671, 549755813887, 1099511627775, 2199023255551, 4398046511103] [[], [(0, 68)], [(1, 69)], [(2, 70)], [(2, 70), (3, 71)], [(2, 70), (4, 72)], [(5, 73)], [(5, 73)], [(5, 73), (7, 75), (6, 74)], [(2, 70), (8, 76), (5, 73)], [(2, 70), (9, 77)], [(10, 78)], [(10, 78), (11, 79)], [(10, 78), (12, 80)], [(10, 78)], [(10, 78), (14, 82)], [(10, 78), (15, 83), (13, 81)], [(2, 70), (16, 84), (10, 78)], [(2, 70), (17, 85)], [(18, 86)], [(18, 86), (19, 87)], [(18, 86)], [(18, 86), (21, 89), (20, 88)], [(18, 86), (22, 90)], [(18, 86)], [(18, 86), (24, 92), (23, 91)], [(18, 86), (25, 93)], [(2, 70), (26, 94), (18, 86)], [(2, 70), (27, 95)], [(28, 96)], [(28, 96), (29, 97)], [(28, 96)], [(28, 96), (31, 99), (30, 98)], [(28, 96), (32, 100)], [(28, 96)], [(28, 96), (34, 102)], [(28, 96)], [(28, 96), (36, 104), (35, 103)], [(28, 96), (37, 105)], [(28, 96), (38, 106), (33, 101)], [(28, 96), (39, 107)], [(2, 70), (40, 108), (28, 96)], [(41, 109), (2, 70)]] [(0, 68), (1, 69), (2, 70), (3, 71), (4, 72), (5, 73), (6, 74), (7, 75), (8, 76), (9, 77), (10, 78), (11, 79), (12, 80), (13, 81), (14, 82), (15, 83), (16, 84), (17, 85), (18, 86), (19, 87), (20, 88), (21, 89), (22, 90), (23, 91), (24, 92), (25, 93), (26, 94), (27, 95), (28, 96), (29, 97), (30, 98), (31, 99), (32, 100), (33, 101), (34, 102), (35, 103), (36, 104), (37, 105), (38, 106), (39, 107), (40, 108), (41, 109), (42, 110)] (by kernel_rfl) (by kernel_rfl) rfl rfl h10 osC0 osC1 ?ob ?en
      case ob =>
        refine ⟨?_, ?_, ?_, ?_, ?_, ?_, ?_, ?_, ?_, ?_, ?_, ?_, ?_, ?_, ?_, ?_, ?_, ?_, ?_, ?_, ?_, ?_, ?_, ?_, ?_, ?_, ?_, ?_, ?_, ?_, ?_, ?_, ?_, ?_, ?_, ?_, ?_, ?_, ?_, ?_, ?_, ?_, ?_, trivial⟩
        · -- 0: t68 := Op.move (t10)
          intro zx1 zx2 zx3 zx4 L V W hL hd hw hst 
          refine ob_c rfl ?_ hst rfl
          go_simp
          try with_reducible rfl
        · -- 1: t69 := Op.binOp BinOp.eql 33 (t68) (const (int IntKind.i64 0)) 33
          intro zx1 zx2 zx3 zx4 L V W hL hd hw hst u0 e0 p0
          obtain rfl : u0 = _ := p0
          refine ob_c (by first | rfl | (simp [wantE, dstOf, zx1]; done)) ?_ hst rfl
          go_simp
          all_goals (skip)
        · -- 2: t70 := Op.move (t69)
          intro zx1 zx2 zx3 zx4 L V W hL hd hw hst u1 e1 p1
          obtain rfl : u1 = _ := p1
          refine ob_c rfl ?_ hst rfl
          go_simp
          try with_reducible rfl
        · -- 3: t71 := Op.move (t2)
          intro zx1 zx2 zx3 zx4 L V W hL hd hw hst u2 e2 p2
          obtain rfl : u2 = _ := p2
          refine ob_c (by first | rfl | (simp [wantE, dstOf, zx1]; done)) ?_ hst rfl
          go_simp
          try with_reducible rfl
        · -- 4: t72 := Op.binOp BinOp.lss 3 (t71) (const (int IntKind.i64 0)) 3
          intro zx1 zx2 zx3 zx4 L V W hL hd hw hst u3 e3 p3 u2 e2 p2
          obtain rfl : u3 = _ := p3
          obtain rfl : u2 = _ := p2
          refine ob_c (by first | rfl | (simp [wantE, dstOf, zx1]; done)) ?_ hst rfl
          go_simp
          all_goals (simp; omega)
        · -- 5: t73 := Op.move (t72)
          intro zx1 zx2 zx3 zx4 L V W hL hd hw hst u4 e4 p4 u2 e2 p2
          obtain rfl : u4 = _ := p4
          obtain rfl : u2 = _ := p2
          refine ob_c (by first | rfl | (simp [wantE, dstOf, zx1]; done)) ?_ hst rfl
          go_simp
          all_goals (skip)
        · -- 6: t74 := Op.move (t2)
          intro zx1 zx2 zx3 zx4 L V W hL hd hw hst u5 e5 p5
          obtain rfl : u5 = _ := p5
          refine ob_c (by first | rfl | (simp [wantE, dstOf, zx1]; done)) ?_ hst rfl
          go_simp
          try with_reducible rfl
        · -- 7: t75 := Op.move (t8)
          intro zx1 zx2 zx3 zx4 L V W hL hd hw hst u5 e5 p5
          obtain rfl : u5 = _ := p5
          refine ob_c (by first | rfl | (simp [wantE, dstOf, zx1]; done)) ?_ hst rfl
          go_simp
          try with_reducible rfl
        · -- 8: t76 := Op.binOp BinOp.geq 3 (t74) (t75) 3
          intro zx1 zx2 zx3 zx4 L V W hL hd hw hst u6 e6 p6 u7 e7 p7 u5 e5 p5
          obtain rfl : u6 = _ := p6
          obtain rfl : u7 = _ := p7
          obtain rfl : u5 = _ := p5
          refine ob_c (by first | rfl | (simp [wantE, dstOf, zx1]; done)) ?_ hst rfl
          go_simp
          all_goals (simp; omega)
        · -- 9: t77 := Op.pick (t73) (const (bool true)) (t76)
          intro zx1 zx2 zx3 zx4 L V W hL hd hw hst u5 e5 p5 u8 e8 p8 u2 e2 p2
          obtain rfl : u5 = _ := p5
          obtain rfl : u8 = _ := p8
          obtain rfl : u2 = _ := p2
          refine ob_c (by first | rfl | (simp [wantE, dstOf, zx1]; done)) ?_ hst rfl
          go_simp
          all_goals (skip)
        · -- 10: t78 := Op.move (t77)
          intro zx1 zx2 zx3 zx4 L V W hL hd hw hst u9 e9 p9 u2 e2 p2
          obtain rfl : u9 = _ := p9
          obtain rfl : u2 = _ := p2
          refine ob_c (by first | rfl | (simp [wantE, dstOf, zx1]; done)) ?_ hst rfl
          go_simp
          all_goals (skip)
        · -- 11: t79 := Op.fieldAddr 24 (t11) 0
          intro zx1 zx2 zx3 zx4 L V W hL hd hw hst u10 e10 p10
          obtain rfl : u10 = _ := p10
          refine ob_c (by first | rfl | (simp [wantE, dstOf, zx1]; done)) ?_ hst rfl
          go_simp
          try with_reducible rfl
        · -- 12: t80 := Op.load 22 (t79)
          intro zx1 zx2 zx3 zx4 L V W hL hd hw hst u11 e11 p11 u10 e10 p10
          obtain rfl : u11 = _ := p11
          obtain rfl : u10 = _ := p10
          have hz := mask_is _ _ _ _ ((hst.base 5 rfl : IsCells _ _ _) 0 _ rfl)
          refine ob_c (by first | rfl | (simp [wantE, dstOf, zx1]; done)) ?_ hst rfl
          go_simp
          try with_reducible rfl
        · -- 13: t81 := Op.call { callee := builtin Builtin.len, args := #[t80], argTypes := #[22] }
          intro zx1 zx2 zx3 zx4 L V W hL hd hw hst u12 e12 p12 u10 e10 p10
          obtain rfl : u12 = _ := p12
          obtain rfl : u10 = _ := p10
          refine ob_c (by first | rfl | (simp [wantE, dstOf, zx1]; done)) ?_ hst rfl
          go_simp
          try with_reducible rfl
        · -- 14: t82 := Op.move (t8)
          intro zx1 zx2 zx3 zx4 L V W hL hd hw hst u10 e10 p10
          obtain rfl : u10 = _ := p10
          refine ob_c (by first | rfl | (simp [wantE, dstOf, zx1]; done)) ?_ hst rfl
          go_simp
          try with_reducible rfl
        · -- 15: t83 := Op.binOp BinOp.add 3 (t82) (const (int IntKind.i64 1)) 3
          intro zx1 zx2 zx3 zx4 L V W hL hd hw hst u14 e14 p14 u10 e10 p10
          obtain rfl : u14 = _ := p14
          obtain rfl : u10 = _ := p10
          refine ob_c (by first | rfl | (simp [wantE, dstOf, zx1]; done)) ?_ hst rfl
          go_simp
          all_goals (rw [HW1.out])
        · -- 16: t84 := Op.binOp BinOp.neq 3 (t81) (t83) 3
          intro zx1 zx2 zx3 zx4 L V W hL hd hw hst u13 e13 p13 u15 e15 p15 u10 e10 p10
          obtain rfl : u13 = _ := p13
          obtain rfl : u15 = _ := p15
          obtain rfl : u10 = _ := p10
          refine ob_c (by first | rfl | (simp [wantE, dstOf, zx1]; done)) ?_ hst rfl
          go_simp
          all_goals (simp)
        · -- 17: t85 := Op.pick (t78) (const (bool true)) (t84)
          intro zx1 zx2 zx3 zx4 L V W hL hd hw hst u10 e10 p10 u16 e16 p16 u2 e2 p2
          obtain rfl : u10 = _ := p10
          obtain rfl : u16 = _ := p16
          obtain rfl : u2 = _ := p2
          refine ob_c (by first | rfl | (simp [wantE, dstOf, zx1]; done)) ?_ hst rfl
          go_simp
          all_goals (skip)
        · -- 18: t86 := Op.move (t85)
          intro zx1 zx2 zx3 zx4 L V W hL hd hw hst u17 e17 p17 u2 e2 p2
          obtain rfl : u17 = _ := p17
          obtain rfl : u2 = _ := p2
          refine ob_c (by first | rfl | (simp [wantE, dstOf, zx1]; done)) ?_ hst rfl
          go_simp
          all_goals (skip)
        · -- 19: t87 := Op.fieldAddr 24 (t11) 0
          intro zx1 zx2 zx3 zx4 L V W hL hd hw hst u18 e18 p18
          obtain rfl : u18 = _ := p18
          refine ob_c (by first | rfl | (simp [wantE, dstOf, zx1]; done)) ?_ hst rfl
          go_simp
          try with_reducible rfl
        · -- 20: t88 := Op.load 22 (t87)
          intro zx1 zx2 zx3 zx4 L V W hL hd hw hst u19 e19 p19 u18 e18 p18
          obtain rfl : u19 = _ := p19
          obtain rfl : u18 = _ := p18
          have hz := mask_is _ _ _ _ ((hst.base 5 rfl : IsCells _ _ _) 0 _ rfl)
          refine ob_c (by first | rfl | (simp [wantE, dstOf, zx1]; done)) ?_ hst rfl
          go_simp
          try with_reducible rfl
        · -- 21: t89 := Op.move (t8)
          intro zx1 zx2 zx3 zx4 L V W hL hd hw hst u18 e18 p18
          obtain rfl : u18 = _ := p18
          refine ob_c (by first | rfl | (simp [wantE, dstOf, zx1]; done)) ?_ hst rfl
          go_simp
          try with_reducible rfl
        · -- 22: t90 := Op.slice 22 (t88) none (some (t89)) none
          intro zx1 zx2 zx3 zx4 L V W hL hd hw hst u20 e20 p20 u21 e21 p21 u18 e18 p18
          obtain rfl : u20 = _ := p20
          obtain rfl : u21 = _ := p21
          obtain rfl : u18 = _ := p18
          refine ob_c (by first | rfl | (simp [wantE, dstOf, zx1]; done)) ?_ hst rfl
          go_simp
          all_goals (exact fun h => absurd h (by omega))
        · -- 23: t91 := Op.build 24 #[(0, t90)]
          intro zx1 zx2 zx3 zx4 L V W hL hd hw hst u22 e22 p22 u18 e18 p18
          obtain rfl : u22 = _ := p22
          obtain rfl : u18 = _ := p18
          refine ob_c (by first | rfl | (simp [wantE, dstOf, zx1]; done)) ?_ hst rfl
          go_simp
          try with_reducible rfl
        · -- 24: t92 := Op.load 24 (t3)
          intro zx1 zx2 zx3 zx4 L V W hL hd hw hst u18 e18 p18
          obtain rfl : u18 = _ := p18
          have hz := mask_is _ _ _ _ ((hst.base 8 rfl : IsCells _ _ _) 0 _ rfl)
          refine ob_c (by first | rfl | (simp [wantE, dstOf, zx1]; done)) ?_ hst rfl
          go_simp
          try with_reducible rfl
        · -- 25: t93 := Op.call { callee := value (func 12), args := #[t91, t92], argTypes := #[24, 24] }
          intro zx1 zx2 zx3 zx4 L V W hL hd hw hst u23 e23 p23 u24 e24 p24 u18 e18 p18
          obtain rfl : u23 = _ := p23
          obtain rfl : u24 = _ := p24
          obtain rfl : u18 = _ := p18
          refine ob_call (by first | rfl | (simp [wantE, dstOf, zx1]; done)) ?_ (sameCh_p hst ((hst.base 4 rfl : IsPks _ _ _).sub rdPk_up (mask_is _ _)) HN.out ((hst.base 10 rfl : IsPks _ _ _).sub rdPk_up (mask_is _ _)) HN.out (decide_eq_true rfl))
          go_simp
          try rfl
        · -- 26: t94 := Op.unOp UnOp.not 4 (t93)
          intro zx1 zx2 zx3 zx4 L V W hL hd hw hst u25 e25 p25 u18 e18 p18
          obtain rfl : u25 = _ := p25
          obtain rfl : u18 = _ := p18
          refine ob_c (by first | rfl | (simp [wantE, dstOf, zx1]; done)) ?_ hst rfl
          go_simp
          all_goals (skip)
        · -- 27: t95 := Op.pick (t86) (const (bool true)) (t94)
          intro zx1 zx2 zx3 zx4 L V W hL hd hw hst u18 e18 p18 u26 e26 p26 u2 e2 p2
          obtain rfl : u18 = _ := p18
          obtain rfl : u26 = _ := p26
          obtain rfl : u2 = _ := p2
          refine ob_c (by first | rfl | (simp [wantE, dstOf, zx1]; done)) ?_ hst rfl
          go_simp
          all_goals (skip)
        · -- 28: t96 := Op.move (t95)
          intro zx1 zx2 zx3 zx4 L V W hL hd hw hst u27 e27 p27 u2 e2 p2
          obtain rfl : u27 = _ := p27
          obtain rfl : u2 = _ := p2
          refine ob_c (by first | rfl | (simp [wantE, dstOf, zx1]; done)) ?_ hst rfl
          go_simp
          all_goals (skip)
        · -- 29: t97 := Op.fieldAddr 24 (t11) 0
          intro zx1 zx2 zx3 zx4 L V W hL hd hw hst u28 e28 p28
          obtain rfl : u28 = _ := p28
          refine ob_c (by first | rfl | (simp [wantE, dstOf, zx1]; done)) ?_ hst rfl
          go_simp
          try with_reducible rfl
        · -- 30: t98 := Op.load 22 (t97)
          intro zx1 zx2 zx3 zx4 L V W hL hd hw hst u29 e29 p29 u28 e28 p28
          obtain rfl : u29 = _ := p29
          obtain rfl : u28 = _ := p28
          have hz := mask_is _ _ _ _ ((hst.base 5 rfl : IsCells _ _ _) 0 _ rfl)
          refine ob_c (by first | rfl | (simp [wantE, dstOf, zx1]; done)) ?_ hst rfl
          go_simp
          try with_reducible rfl
        · -- 31: t99 := Op.move (t8)
          intro zx1 zx2 zx3 zx4 L V W hL hd hw hst u28 e28 p28
          obtain rfl : u28 = _ := p28
          refine ob_c (by first | rfl | (simp [wantE, dstOf, zx1]; done)) ?_ hst rfl
          go_simp
          try with_reducible rfl
        · -- 32: t100 := Op.indexAddr 22 (t98) (t99)
          intro zx1 zx2 zx3 zx4 L V W hL hd hw hst u30 e30 p30 u31 e31 p31 u28 e28 p28
          obtain rfl : u30 = _ := p30
          obtain rfl : u31 = _ := p31
          obtain rfl : u28 = _ := p28
          refine ob_c (by first | rfl | (simp [wantE, dstOf, zx1]; done)) ?_ hst rfl
          go_simp
          all_goals (exact fun h => absurd h (by omega))
        · -- 33: t101 := Op.load 31 (t100)
          intro zx1 zx2 zx3 zx4 L V W hL hd hw hst u32 e32 p32 u28 e28 p28
          obtain rfl : u32 = _ := p32
          obtain rfl : u28 = _ := p28
          exact ob_c (by first | rfl | (simp [wantE, dstOf, zx1]; done)) (run_load_mid rfl rfl ((hst.base 2 rfl : World.rangeAt _ _ _ _) |> Mono.range _ _ _ _ _ (mask_is _ _)) Try.underlying31 rfl rfl) hst rfl
        · -- 34: t102 := Op.fieldAddr 24 (t3) 0
          intro zx1 zx2 zx3 zx4 L V W hL hd hw hst u28 e28 p28
          obtain rfl : u28 = _ := p28
          refine ob_c (by first | rfl | (simp [wantE, dstOf, zx1]; done)) ?_ hst rfl
          go_simp
          try with_reducible rfl
        · -- 35: t103 := Op.load 22 (t102)
          intro zx1 zx2 zx3 zx4 L V W hL hd hw hst u34 e34 p34 u28 e28 p28
          obtain rfl : u34 = _ := p34
          obtain rfl : u28 = _ := p28
          have hz := mask_is _ _ _ _ ((hst.base 8 rfl : IsCells _ _ _) 0 _ rfl)
          refine ob_c (by first | rfl | (simp [wantE, dstOf, zx1]; done)) ?_ hst rfl
          go_simp
          try with_reducible rfl
        · -- 36: t104 := Op.move (t2)
          intro zx1 zx2 zx3 zx4 L V W hL hd hw hst u28 e28 p28
          obtain rfl : u28 = _ := p28
          refine ob_c (by first | rfl | (simp [wantE, dstOf, zx1]; done)) ?_ hst rfl
          go_simp
          try with_reducible rfl
        · -- 37: t105 := Op.indexAddr 22 (t103) (t104)
          intro zx1 zx2 zx3 zx4 L V W hL hd hw hst u35 e35 p35 u36 e36 p36 u28 e28 p28
          obtain rfl : u35 = _ := p35
          obtain rfl : u36 = _ := p36
          obtain rfl : u28 = _ := p28
          refine ob_c (by first | rfl | (simp [wantE, dstOf, zx1]; done)) ?_ hst rfl
          go_simp
          all_goals (first | done | exact fun h => absurd h (by omega))
        · -- 38: t106 := Op.load 31 (t105)
          intro zx1 zx2 zx3 zx4 L V W hL hd hw hst u37 e37 p37 u28 e28 p28
          obtain rfl : u37 = _ := p37
          obtain rfl : u28 = _ := p28
          exact ob_c (by first | rfl | (simp [wantE, dstOf, zx1]; done)) (run_load_mid rfl rfl ((hst.base 0 rfl : World.rangeAt _ _ _ _) |> Mono.range _ _ _ _ _ (mask_is _ _)) Try.underlying31 rfl rfl) hst rfl
        · -- 39: t107 := Op.call { callee := value (func 13), args := #[t101, t106], argTypes := #[31, 31] }
          intro zx1 zx2 zx3 zx4 L V W hL hd hw hst u33 e33 p33 u38 e38 p38 u28 e28 p28
          obtain rfl : u33 = _ := p33
          obtain rfl : u38 = _ := p38
          obtain rfl : u28 = _ := p28
          refine ob_call (by first | rfl | (simp [wantE, dstOf, zx1]; done)) ?_ (samePk_p hst (⟨x1, x2, x3, ⟨z1, z2, z3, z4, z5, z6, z7, z8⟩⟩ : Pk) (⟨x1, x2, x3, ⟨z1, z2, z3, z4, z5, z6, z7, z8⟩⟩ : Pk) ((hst.base 3 rfl : IsVals _ _ _).sub rdVal_up (mask_is _ _)) HKK.out ((hst.base 1 rfl : IsVals _ _ _).sub rdVal_up (mask_is _ _)) HKK.out (decide_eq_true rfl))
          go_simp
          try rfl
        · -- 40: t108 := Op.unOp UnOp.not 4 (t107)
          intro zx1 zx2 zx3 zx4 L V W hL hd hw hst u39 e39 p39 u28 e28 p28
          obtain rfl : u39 = _ := p39
          obtain rfl : u28 = _ := p28
          refine ob_c (by first | rfl | (simp [wantE, dstOf, zx1]; done)) ?_ hst rfl
          go_simp
          all_goals (skip)
        · -- 41: t109 := Op.pick (t96) (const (bool true)) (t108)
          intro zx1 zx2 zx3 zx4 L V W hL hd hw hst u28 e28 p28 u40 e40 p40 u2 e2 p2
          obtain rfl : u28 = _ := p28
          obtain rfl : u40 = _ := p40
          obtain rfl : u2 = _ := p2
          refine ob_c (by first | rfl | (simp [wantE, dstOf, zx1]; done)) ?_ hst rfl
          go_simp
          all_goals (skip)
        · -- 42: t110 := Op.pick (t70) (t109) (const (bool false))
          intro zx1 zx2 zx3 zx4 L V W hL hd hw hst u2 e2 p2 u41 e41 p41
          obtain rfl : u2 = _ := p2
          obtain rfl : u41 = _ := p41
          refine ob_c (by first | rfl | (simp [wantE, dstOf, zx1]; done)) ?_ hst rfl
          go_simp
          all_goals (skip)
      case en =>
        intro V W hst u0 e0 p0 u1 e1 p1 u2 e2 p2 u3 e3 p3 u4 e4 p4 u5 e5 p5 u6 e6 p6 u7 e7 p7 u8 e8 p8 u9 e9 p9 u10 e10 p10 u11 e11 p11 u12 e12 p12 u13 e13 p13 u14 e14 p14 u15 e15 p15 u16 e16 p16 u17 e17 p17 u18 e18 p18 u19 e19 p19 u20 e20 p20 u21 e21 p21 u22 e22 p22 u23 e23 p23 u24 e24 p24 u25 e25 p25 u26 e26 p26 u27 e27 p27 u28 e28 p28 u29 e29 p29 u30 e30 p30 u31 e31 p31 u32 e32 p32 u33 e33 p33 u34 e34 p34 u35 e35 p35 u36 e36 p36 u37 e37 p37 u38 e38 p38 u39 e39 p39 u40 e40 p40 u41 e41 p41 u42 e42 p42
        obtain rfl : u0 = _ := p0
        obtain rfl : u1 = _ := p1
        obtain rfl : u2 = _ := p2
        obtain rfl : u3 = _ := p3
        obtain rfl : u4 = _ := p4
        obtain rfl : u5 = _ := p5
        obtain rfl : u6 = _ := p6
        obtain rfl : u7 = _ := p7
        obtain rfl : u8 = _ := p8
        obtain rfl : u9 = _ := p9
        obtain rfl : u10 = _ := p10
        obtain rfl : u11 = _ := p11
        obtain rfl : u12 = _ := p12
        obtain rfl : u13 = _ := p13
        obtain rfl : u14 = _ := p14
        obtain rfl : u15 = _ := p15
        obtain rfl : u16 = _ := p16
        obtain rfl : u17 = _ := p17
        obtain rfl : u18 = _ := p18
        obtain rfl : u19 = _ := p19
        obtain rfl : u20 = _ := p20
        obtain rfl : u21 = _ := p21
        obtain rfl : u22 = _ := p22
        obtain rfl : u23 = _ := p23
        obtain rfl : u24 = _ := p24
        obtain rfl : u25 = _ := p25
        obtain rfl : u26 = _ := p26
        obtain rfl : u27 = _ := p27
        obtain rfl : u28 = _ := p28
        obtain rfl : u29 = _ := p29
        obtain rfl : u30 = _ := p30
        obtain rfl : u31 = _ := p31
        obtain rfl : u32 = _ := p32
        obtain rfl : u33 = _ := p33
        obtain rfl : u34 = _ := p34
        obtain rfl : u35 = _ := p35
        obtain rfl : u36 = _ := p36
        obtain rfl : u37 = _ := p37
        obtain rfl : u38 = _ := p38
        obtain rfl : u39 = _ := p39
        obtain rfl : u40 = _ := p40
        obtain rfl : u41 = _ := p41
        obtain rfl : u42 = _ := p42
        simp only [EndAll, Act.put, List.getElem_toArray, List.getElem_cons_succ, List.getElem_cons_zero, List.setIfInBounds_toArray, List.set_cons_zero, List.set_cons_succ]
        rw [show osC [] (fun _ => true) V = [] from rfl] at hst
        have hx9 := hst.facts (fs' := [IsCells (w.heap.size + 1) #[.string a1, .bool a2, .int .i64 a3, .string f1, .int .i64 f2, .int .i64 f3, .int .i64 f4, .string f5, .string f6, .int .i64 f7, .slice vb m vq], IsCells w.heap.size #[.slice (some ⟨gc, oc, none⟩) N lq], (IsVals · (.slice vb m vq) f8), (IsPks · (.slice (some ⟨gc, oc, none⟩) N lq) l), HasMax]) (fun P hP => by simp only [List.mem_cons, List.not_mem_nil, or_false] at hP ⊢; rcases hP with rfl | rfl | rfl | rfl | rfl <;> simp)
        clear hst h10 e0 e1 e2 e3 e4 e5 e6 e7 e8 e9 e10 e11 e12 e13 e14 e15 e16 e17 e18 e19 e20 e21 e22 e23 e24 e25 e26 e27 e28 e29 e30 e31 e32 e33 e34 e35 e36 e37 e38 e39 e40 e41 e42
        go_wp2_with fail
        go_meet
        case rel => exact ⟨rfl, hx9⟩
    · have hs' := beq_of hs
      have HS := Lib.hid hs'
      clear hs'
      refine wp_region_st [pVal ?c9b_0, pVal (.bool false), pVal (.bool false), pVal undef, pVal undef, pVal undef, pVal undef, pVal undef, pVal undef, pVal undef, pVal undef, pVal undef, pVal undef, pVal undef, pVal undef, pVal undef, pVal undef, pVal undef, pVal undef, pVal undef, pVal undef, pVal undef, pVal undef, pVal undef, pVal undef, pVal undef, pVal undef, pVal undef, pVal undef, pVal undef, pVal undef, pVal undef, pVal undef, pVal undef, pVal undef, pVal undef, pVal undef, pVal undef, pVal undef, pVal undef, pVal undef, pVal undef, pVal (.bool false)] (osC []) 193 [0, 1, 3, 7, 15, 31, 63, 63, 255, 511, 1023, 2047, 4095, 8191, 2047, 18431, 65535, 131071, 262143, 524287, 1048575, 524287, 4194303, 8388607, 524287, 33554431, 67108863, 134217727, 268435455, 536870911, 1073741823, 536870911, 4294967295, 8589934591, 536870911, 17716740095, 536870911, 120795955199, 258234908671, 549755813887, 1099511627775, 2199023255551, 4398046511103] [[], [(0, 68)], [(1, 69)], [(2, 70)], [(2, 70), (3, 71)], [(2, 70), (4, 72)], [(5, 73)], [(5, 73)], [(5, 73), (7, 75), (6, 74)], [(2, 70), (8, 76), (5, 73)], [(2, 70), (9, 77)], [(10, 78)], [(10, 78), (11, 79)], [(10, 78), (12, 80)], [(10, 78)], [(10, 78), (14, 82)], [(10, 78), (15, 83), (13, 81)], [(2, 70), (16, 84), (10, 78)], [(2, 70), (17, 85)], [(18, 86)], [(18, 86), (19, 87)], [(18, 86)], [(18, 86), (21, 89), (20, 88)], [(18, 86), (22, 90)], [(18, 86)], [(18, 86), (24, 92), (23, 91)], [(18, 86), (25, 93)], [(2, 70), (26, 94), (18, 86)], [(2, 70), (27, 95)], [(28, 96)], [(28, 96), (29, 97)], [(28, 96)], [(28, 96), (31, 99), (30, 98)], [(28, 96), (32, 100)], [(28, 96)], [(28, 96), (34, 102)], [(28, 96)], [(28, 96), (36, 104), (35, 103)], [(28, 96), (37, 105)], [(28, 96), (38, 106), (33, 101)], [(28, 96), (39, 107)], [(2, 70), (40, 108), (28, 96)], [(41, 109), (2, 70)]] [(0, 68), (1, 69), (2, 70), (3, 71), (4, 72), (5, 73), (6, 74), (7, 75), (8, 76), (9, 77), (10, 78), (11, 79), (12, 80), (13, 81), (14, 82), (15, 83), (16, 84), (17, 85), (18, 86), (19, 87), (20, 88), (21, 89), (22, 90), (23, 91), (24, 92), (25, 93), (26, 94), (27, 95), (28, 96), (29, 97), (30, 98), (31, 99), (32, 100), (33, 101), (34, 102), (35, 103), (36, 104), (37, 105), (38, 106), (39, 107), (40, 108), (41, 109), (42, 110)] (by kernel_rfl) (by kernel_rfl) rfl rfl h9 osC0 osC1 ?ob ?en
      case ob =>
        refine ⟨?_, ?_, ?_, ?_, ?_, ?_, ?_, ?_, ?_, ?_, ?_, ?_, ?_, ?_, ?_, ?_, ?_, ?_, ?_, ?_, ?_, ?_, ?_, ?_, ?_, ?_, ?_, ?_, ?_, ?_, ?_, ?_, ?_, ?_, ?_, ?_, ?_, ?_, ?_, ?_, ?_, ?_, ?_, trivial⟩
        · -- 0: t68 := Op.move (t10)
          intro zx1 zx2 zx3 zx4 L V W hL hd hw hst 
          refine ob_c rfl ?_ hst rfl
          go_simp
          try with_reducible rfl
        · -- 1: t69 := Op.binOp BinOp.eql 33 (t68) (const (int IntKind.i64 0)) 33
          intro zx1 zx2 zx3 zx4 L V W hL hd hw hst u0 e0 p0
          obtain rfl : u0 = _ := p0
          refine ob_c (by first | rfl | (simp [wantE, dstOf, zx1]; done)) ?_ hst rfl
          go_simp
          all_goals (rw [HS.out])
        · -- 2: t70 := Op.move (t69)
          intro zx1 zx2 zx3 zx4 L V W hL hd hw hst u1 e1 p1
          obtain rfl : u1 = _ := p1
          refine ob_c (by first | rfl | (simp [wantE, dstOf, zx1]; done)) ?_ hst rfl
          go_simp
          all_goals (skip)
        · -- 3: t71 := Op.move (t2)
          intro zx1 zx2 zx3 zx4 L V W hL hd hw hst u2 e2 p2
          obtain rfl : u2 = _ := p2
          refine ob_o ?_ hst ?_
          · first | rfl | (simp [wantE, dstOf, zx1]; done)
          · rfl
        · -- 4: t72 := Op.binOp BinOp.lss 3 (t71) (const (int IntKind.i64 0)) 3
          intro zx1 zx2 zx3 zx4 L V W hL hd hw hst u3 e3 p3 u2 e2 p2
          obtain rfl : u3 = _ := p3
          obtain rfl : u2 = _ := p2
          refine ob_o ?_ hst ?_
          · first | rfl | (simp [wantE, dstOf, zx1]; done)
          · rfl
        · -- 5: t73 := Op.move (t72)
          intro zx1 zx2 zx3 zx4 L V W hL hd hw hst u4 e4 p4 u2 e2 p2
          obtain rfl : u4 = _ := p4
          obtain rfl : u2 = _ := p2
          refine ob_o ?_ hst ?_
          · first | rfl | (simp [wantE, dstOf, zx1]; done)
          · rfl
        · -- 6: t74 := Op.move (t2)
          intro zx1 zx2 zx3 zx4 L V W hL hd hw hst u5 e5 p5
          obtain rfl : u5 = _ := p5
          refine ob_o ?_ hst ?_
          · first | rfl | (simp [wantE, dstOf, zx1]; done)
          · rfl
        · -- 7: t75 := Op.move (t8)
          intro zx1 zx2 zx3 zx4 L V W hL hd hw hst u5 e5 p5
          obtain rfl : u5 = _ := p5
          refine ob_o ?_ hst ?_
          · first | rfl | (simp [wantE, dstOf, zx1]; done)
          · rfl
        · -- 8: t76 := Op.binOp BinOp.geq 3 (t74) (t75) 3
          intro zx1 zx2 zx3 zx4 L V W hL hd hw hst u6 e6 p6 u7 e7 p7 u5 e5 p5
          obtain rfl : u6 = _ := p6
          obtain rfl : u7 = _ := p7
          obtain rfl : u5 = _ := p5
          refine ob_o ?_ hst ?_
          · first | rfl | (simp [wantE, dstOf, zx1]; done)
          · rfl
        · -- 9: t77 := Op.pick (t73) (const (bool true)) (t76)
          intro zx1 zx2 zx3 zx4 L V W hL hd hw hst u5 e5 p5 u8 e8 p8 u2 e2 p2
          obtain rfl : u5 = _ := p5
          obtain rfl : u8 = _ := p8
          obtain rfl : u2 = _ := p2
          refine ob_o ?_ hst ?_
          · first | rfl | (simp [wantE, dstOf, zx1]; done)
          · rfl
        · -- 10: t78 := Op.move (t77)
          intro zx1 zx2 zx3 zx4 L V W hL hd hw hst u9 e9 p9 u2 e2 p2
          obtain rfl : u9 = _ := p9
          obtain rfl : u2 = _ := p2
          refine ob_o ?_ hst ?_
          · first | rfl | (simp [wantE, dstOf, zx1]; done)
          · rfl
        · -- 11: t79 := Op.fieldAddr 24 (t11) 0
          intro zx1 zx2 zx3 zx4 L V W hL hd hw hst u10 e10 p10
          obtain rfl : u10 = _ := p10
          refine ob_o ?_ hst ?_
          · first | rfl | (simp [wantE, dstOf, zx1]; done)
          · rfl
        · -- 12: t80 := Op.load 22 (t79)
          intro zx1 zx2 zx3 zx4 L V W hL hd hw hst u11 e11 p11 u10 e10 p10
          obtain rfl : u11 = _ := p11
          obtain rfl : u10 = _ := p10
          refine ob_o ?_ hst ?_
          · first | rfl | (simp [wantE, dstOf, zx1]; done)
          · rfl
        · -- 13: t81 := Op.call { callee := builtin Builtin.len, args := #[t80], argTypes := #[22] }
          intro zx1 zx2 zx3 zx4 L V W hL hd hw hst u12 e12 p12 u10 e10 p10
          obtain rfl : u12 = _ := p12
          obtain rfl : u10 = _ := p10
          refine ob_o ?_ hst ?_
          · first | rfl | (simp [wantE, dstOf, zx1]; done)
          · rfl
        · -- 14: t82 := Op.move (t8)
          intro zx1 zx2 zx3 zx4 L V W hL hd hw hst u10 e10 p10
          obtain rfl : u10 = _ := p10
          refine ob_o ?_ hst ?_
          · first | rfl | (simp [wantE, dstOf, zx1]; done)
          · rfl
        · -- 15: t83 := Op.binOp BinOp.add 3 (t82) (const (int IntKind.i64 1)) 3
          intro zx1 zx2 zx3 zx4 L V W hL hd hw hst u14 e14 p14 u10 e10 p10
          obtain rfl : u14 = _ := p14
          obtain rfl : u10 = _ := p10
          refine ob_o ?_ hst ?_
          · first | rfl | (simp [wantE, dstOf, zx1]; done)
          · rfl
        · -- 16: t84 := Op.binOp BinOp.neq 3 (t81) (t83) 3
          intro zx1 zx2 zx3 zx4 L V W hL hd hw hst u13 e13 p13 u15 e15 p15 u10 e10 p10
          obtain rfl : u13 = _ := p13
          obtain rfl : u15 = _ := p15
          obtain rfl : u10 = _ := p10
          refine ob_o ?_ hst ?_
          · first | rfl | (simp [wantE, dstOf, zx1]; done)
          · rfl
        · -- 17: t85 := Op.pick (t78) (const (bool true)) (t84)
          intro zx1 zx2 zx3 zx4 L V W hL hd hw hst u10 e10 p10 u16 e16 p16 u2 e2 p2
          obtain rfl : u10 = _ := p10
          obtain rfl : u16 = _ := p16
          obtain rfl : u2 = _ := p2
          refine ob_o ?_ hst ?_
          · first | rfl | (simp [wantE, dstOf, zx1]; done)
          · rfl
        · -- 18: t86 := Op.move (t85)
          intro zx1 zx2 zx3 zx4 L V W hL hd hw hst u17 e17 p17 u2 e2 p2
          obtain rfl : u17 = _ := p17
          obtain rfl : u2 = _ := p2
          refine ob_o ?_ hst ?_
          · first | rfl | (simp [wantE, dstOf, zx1]; done)
          · rfl
        · -- 19: t87 := Op.fieldAddr 24 (t11) 0
          intro zx1 zx2 zx3 zx4 L V W hL hd hw hst u18 e18 p18
          obtain rfl : u18 = _ := p18
          refine ob_o ?_ hst ?_
          · first | rfl | (simp [wantE, dstOf, zx1]; done)
          · rfl
        · -- 20: t88 := Op.load 22 (t87)
          intro zx1 zx2 zx3 zx4 L V W hL hd hw hst u19 e19 p19 u18 e18 p18
          obtain rfl : u19 = _ := p19
          obtain rfl : u18 = _ := p18
          refine ob_o ?_ hst ?_
          · first | rfl | (simp [wantE, dstOf, zx1]; done)
          · rfl
        · -- 21: t89 := Op.move (t8)
          intro zx1 zx2 zx3 zx4 L V W hL hd hw hst u18 e18 p18
          obtain rfl : u18 = _ := p18
          refine ob_o ?_ hst ?_
          · first | rfl | (simp [wantE, dstOf, zx1]; done)
          · rfl
        · -- 22: t90 := Op.slice 22 (t88) none (some (t89)) none
          intro zx1 zx2 zx3 zx4 L V W hL hd hw hst u20 e20 p20 u21 e21 p21 u18 e18 p18
          obtain rfl : u20 = _ := p20
          obtain rfl : u21 = _ := p21
          obtain rfl : u18 = _ := p18
          refine ob_o ?_ hst ?_
          · first | rfl | (simp [wantE, dstOf, zx1]; done)
          · rfl
        · -- 23: t91 := Op.build 24 #[(0, t90)]
          intro zx1 zx2 zx3 zx4 L V W hL hd hw hst u22 e22 p22 u18 e18 p18
          obtain rfl : u22 = _ := p22
          obtain rfl : u18 = _ := p18
          refine ob_o ?_ hst ?_
          · first | rfl | (simp [wantE, dstOf, zx1]; done)
          · rfl
        · -- 24: t92 := Op.load 24 (t3)
          intro zx1 zx2 zx3 zx4 L V W hL hd hw hst u18 e18 p18
          obtain rfl : u18 = _ := p18
          refine ob_o ?_ hst ?_
          · first | rfl | (simp [wantE, dstOf, zx1]; done)
          · rfl
        · -- 25: t93 := Op.call { callee := value (func 12), args := #[t91, t92], argTypes := #[24, 24] }
          intro zx1 zx2 zx3 zx4 L V W hL hd hw hst u23 e23 p23 u24 e24 p24 u18 e18 p18
          obtain rfl : u23 = _ := p23
          obtain rfl : u24 = _ := p24
          obtain rfl : u18 = _ := p18
          refine ob_o ?_ hst ?_
          · first | rfl | (simp [wantE, dstOf, zx1]; done)
          · rfl
        · -- 26: t94 := Op.unOp UnOp.not 4 (t93)
          intro zx1 zx2 zx3 zx4 L V W hL hd hw hst u25 e25 p25 u18 e18 p18
          obtain rfl : u25 = _ := p25
          obtain rfl : u18 = _ := p18
          refine ob_o ?_ hst ?_
          · first | rfl | (simp [wantE, dstOf, zx1]; done)
          · rfl
        · -- 27: t95 := Op.pick (t86) (const (bool true)) (t94)
          intro zx1 zx2 zx3 zx4 L V W hL hd hw hst u18 e18 p18 u26 e26 p26 u2 e2 p2
          obtain rfl : u18 = _ := p18
          obtain rfl : u26 = _ := p26
          obtain rfl : u2 = _ := p2
          refine ob_o ?_ hst ?_
          · first | rfl | (simp [wantE, dstOf, zx1]; done)
          · rfl
        · -- 28: t96 := Op.move (t95)
          intro zx1 zx2 zx3 zx4 L V W hL hd hw hst u27 e27 p27 u2 e2 p2
          obtain rfl : u27 = _ := p27
          obtain rfl : u2 = _ := p2
          refine ob_o ?_ hst ?_
          · first | rfl | (simp [wantE, dstOf, zx1]; done)
          · rfl
        · -- 29: t97 := Op.fieldAddr 24 (t11) 0
          intro zx1 zx2 zx3 zx4 L V W hL hd hw hst u28 e28 p28
          obtain rfl : u28 = _ := p28
          refine ob_o ?_ hst ?_
          · first | rfl | (simp [wantE, dstOf, zx1]; done)
          · rfl
        · -- 30: t98 := Op.load 22 (t97)
          intro zx1 zx2 zx3 zx4 L V W hL hd hw hst u29 e29 p29 u28 e28 p28
          obtain rfl : u29 = _ := p29
          obtain rfl : u28 = _ := p28
          refine ob_o ?_ hst ?_
          · first | rfl | (simp [wantE, dstOf, zx1]; done)
          · rfl
        · -- 31: t99 := Op.move (t8)
          intro zx1 zx2 zx3 zx4 L V W hL hd hw hst u28 e28 p28
          obtain rfl : u28 = _ := p28
          refine ob_o ?_ hst ?_
          · first | rfl | (simp [wantE, dstOf, zx1]; done)
          · rfl
        · -- 32: t100 := Op.indexAddr 22 (t98) (t99)
          intro zx1 zx2 zx3 zx4 L V W hL hd hw hst u30 e30 p30 u31 e31 p31 u28 e28 p28
          obtain rfl : u30 = _ := p30
          obtain rfl : u31 = _ := p31
          obtain rfl : u28 = _ := p28
          refine ob_o ?_ hst ?_
          · first | rfl | (simp [wantE, dstOf, zx1]; done)
          · rfl
        · -- 33: t101 := Op.load 31 (t100)
          intro zx1 zx2 zx3 zx4 L V W hL hd hw hst u32 e32 p32 u28 e28 p28
          obtain rfl : u32 = _ := p32
          obtain rfl : u28 = _ := p28
          refine ob_o ?_ hst ?_
          · first | rfl | (simp [wantE, dstOf, zx1]; done)
          · rfl
        · -- 34: t102 := Op.fieldAddr 24 (t3) 0
          intro zx1 zx2 zx3 zx4 L V W hL hd hw hst u28 e28 p28
          obtain rfl : u28 = _ := p28
          refine ob_o ?_ hst ?_
          · first | rfl | (simp [wantE, dstOf, zx1]; done)
          · rfl
        · -- 35: t103 := Op.load 22 (t102)
          intro zx1 zx2 zx3 zx4 L V W hL hd hw hst u34 e34 p34 u28 e28 p28
          obtain rfl : u34 = _ := p34
          obtain rfl : u28 = _ := p28
          refine ob_o ?_ hst ?_
          · first | rfl | (simp [wantE, dstOf, zx1]; done)
          · rfl
        · -- 36: t104 := Op.move (t2)
          intro zx1 zx2 zx3 zx4 L V W hL hd hw hst u28 e28 p28
          obtain rfl : u28 = _ := p28
          refine ob_o ?_ hst ?_
          · first | rfl | (simp [wantE, dstOf, zx1]; done)
          · rfl
        · -- 37: t105 := Op.indexAddr 22 (t103) (t104)
          intro zx1 zx2 zx3 zx4 L V W hL hd hw hst u35 e35 p35 u36 e36 p36 u28 e28 p28
          obtain rfl : u35 = _ := p35
          obtain rfl : u36 = _ := p36
          obtain rfl : u28 = _ := p28
          refine ob_o ?_ hst ?_
          · first | rfl | (simp [wantE, dstOf, zx1]; done)
          · rfl
        · -- 38: t106 := Op.load 31 (t105)
          intro zx1 zx2 zx3 zx4 L V W hL hd hw hst u37 e37 p37 u28 e28 p28
          obtain rfl : u37 = _ := p37
          obtain rfl : u28 = _ := p28
          refine ob_o ?_ hst ?_
          · first | rfl | (simp [wantE, dstOf, zx1]; done)
          · rfl
        · -- 39: t107 := Op.call { callee := value (func 13), args := #[t101, t106], argTypes := #[31, 31] }
          intro zx1 zx2 zx3 zx4 L V W hL hd hw hst u33 e33 p33 u38 e38 p38 u28 e28 p28
          obtain rfl : u33 = _ := p33
          obtain rfl : u38 = _ := p38
          obtain rfl : u28 = _ := p28
          refine ob_o ?_ hst ?_
          · first | rfl | (simp [wantE, dstOf, zx1]; done)
          · rfl
        · -- 40: t108 := Op.unOp UnOp.not 4 (t107)
          intro zx1 zx2 zx3 zx4 L V W hL hd hw hst u39 e39 p39 u28 e28 p28
          obtain rfl : u39 = _ := p39
          obtain rfl : u28 = _ := p28
          refine ob_o ?_ hst ?_
          · first | rfl | (simp [wantE, dstOf, zx1]; done)
          · rfl
        · -- 41: t109 := Op.pick (t96) (const (bool true)) (t108)
          intro zx1 zx2 zx3 zx4 L V W hL hd hw hst u28 e28 p28 u40 e40 p40 u2 e2 p2
          obtain rfl : u28 = _ := p28
          obtain rfl : u40 = _ := p40
          obtain rfl : u2 = _ := p2
          refine ob_o ?_ hst ?_
          · first | rfl | (simp [wantE, dstOf, zx1]; done)
          · rfl
        · -- 42: t110 := Op.pick (t70) (t109) (const (bool false))
          intro zx1 zx2 zx3 zx4 L V W hL hd hw hst u2 e2 p2 u41 e41 p41
          obtain rfl : u2 = _ := p2
          obtain rfl : u41 = _ := p41
          refine ob_c rfl ?_ hst rfl
          go_simp
      case en =>
        intro V W hst u0 e0 p0 u1 e1 p1 u2 e2 p2 u3 e3 p3 u4 e4 p4 u5 e5 p5 u6 e6 p6 u7 e7 p7 u8 e8 p8 u9 e9 p9 u10 e10 p10 u11 e11 p11 u12 e12 p12 u13 e13 p13 u14 e14 p14 u15 e15 p15 u16 e16 p16 u17 e17 p17 u18 e18 p18 u19 e19 p19 u20 e20 p20 u21 e21 p21 u22 e22 p22 u23 e23 p23 u24 e24 p24 u25 e25 p25 u26 e26 p26 u27 e27 p27 u28 e28 p28 u29 e29 p29 u30 e30 p30 u31 e31 p31 u32 e32 p32 u33 e33 p33 u34 e34 p34 u35 e35 p35 u36 e36 p36 u37 e37 p37 u38 e38 p38 u39 e39 p39 u40 e40 p40 u41 e41 p41 u42 e42 p42
        obtain rfl : u0 = _ := p0
        obtain rfl : u1 = _ := p1
        obtain rfl : u2 = _ := p2
        obtain rfl : u3 = _ := p3
        obtain rfl : u4 = _ := p4
        obtain rfl : u5 = _ := p5
        obtain rfl : u6 = _ := p6
        obtain rfl : u7 = _ := p7
        obtain rfl : u8 = _ := p8
        obtain rfl : u9 = _ := p9
        obtain rfl : u10 = _ := p10
        obtain rfl : u11 = _ := p11
        obtain rfl : u12 = _ := p12
        obtain rfl : u13 = _ := p13
        obtain rfl : u14 = _ := p14
        obtain rfl : u15 = _ := p15
        obtain rfl : u16 = _ := p16
        obtain rfl : u17 = _ := p17
        obtain rfl : u18 = _ := p18
        obtain rfl : u19 = _ := p19
        obtain rfl : u20 = _ := p20
        obtain rfl : u21 = _ := p21
        obtain rfl : u22 = _ := p22
        obtain rfl : u23 = _ := p23
        obtain rfl : u24 = _ := p24
        obtain rfl : u25 = _ := p25
        obtain rfl : u26 = _ := p26
        obtain rfl : u27 = _ := p27
        obtain rfl : u28 = _ := p28
        obtain rfl : u29 = _ := p29
        obtain rfl : u30 = _ := p30
        obtain rfl : u31 = _ := p31
        obtain rfl : u32 = _ := p32
        obtain rfl : u33 = _ := p33
        obtain rfl : u34 = _ := p34
        obtain rfl : u35 = _ := p35
        obtain rfl : u36 = _ := p36
        obtain rfl : u37 = _ := p37
        obtain rfl : u38 = _ := p38
        obtain rfl : u39 = _ := p39
        obtain rfl : u40 = _ := p40
        obtain rfl : u41 = _ := p41
        obtain rfl : u42 = _ := p42
        simp only [EndAll, Act.put, List.getElem_toArray, List.getElem_cons_succ, List.getElem_cons_zero, List.setIfInBounds_toArray, List.set_cons_zero, List.set_cons_succ]
        rw [show osC [] (fun _ => true) V = [] from rfl] at hst
        have hx9 := hst.facts (fs' := [IsCells (w.heap.size + 1) #[.string a1, .bool a2, .int .i64 a3, .string f1, .int .i64 f2, .int .i64 f3, .int .i64 f4, .string f5, .string f6, .int .i64 f7, .slice vb m vq], IsCells w.heap.size #[.slice lb N lq], (IsVals · (.slice vb m vq) f8), (IsPks · (.slice lb N lq) l), HasMax]) (fun P hP => by simp only [List.mem_cons, List.not_mem_nil, or_false] at hP ⊢; rcases hP with rfl | rfl | rfl | rfl | rfl <;> simp)
        clear hst h9 e0 e1 e2 e3 e4 e5 e6 e7 e8 e9 e10 e11 e12 e13 e14 e15 e16 e17 e18 e19 e20 e21 e22 e23 e24 e25 e26 e27 e28 e29 e30 e31 e32 e33 e34 e35 e36 e37 e38 e39 e40 e41 e42
        go_wp2_with fail
        go_meet
        case rel => exact ⟨rfl, hx9⟩
  case rest =>
  obtain ⟨rfl, h11⟩ := hcut
  clear h9
  have c0 := (h11.is 1 rfl : IsCells _ _ _).c1
  go_wp2_with fail
  refine (drop_c h11 n (h11.is 3 rfl) HN.out hle2 RR.out L2.out).mono ?_
  rintro e w12 ⟨r3, q3, rfl, h12⟩
  clear h11 c0
  go_upto_region 12 with fail
  have h13 := h12.boxC #[.slice r3 N2 q3] 24
  clear h12
  generalize World.alloc _ _ = W13 at h13 ⊢
  generalize w12.heap.size = g12 at h13 ⊢
  have c0 := (h13.is 3 rfl : IsCells _ _ _).c1
  go_wp2_with fail
  refine (deliver_c h13 n (h13.is 5 rfl) HN.out hle2 RD.out L2.out HKQ.out).mono ?_
  rintro e w14 ⟨r4, q4, ub, pb, rfl, h14⟩
  clear h13 c0
  simp only [Pk.val, Pk.cellsA] at h14 ⊢
  have h15 := (h14.alloc (.cells #[.slice none 0 0] 24)).alloc (.cells #[.string ⟨#[]⟩, .bool false, .int .i64 0, .string ⟨#[]⟩, .int .i64 0, .int .i64 0, .int .i64 0, .string ⟨#[]⟩, .string ⟨#[]⟩, .int .i64 0, .slice none 0 0] 31)
  simp only [al_size] at h15
  have h16 := h15.setRow (os1 := [_]) (cs' := #[.slice r4 N2 q4])
  have h17 := h16.setRow (os1 := []) (cs' := #[.string b1, .bool b2, .int .i64 b3, .string g1, .int .i64 g2, .int .i64 g3, .int .i64 g4, .string g5, .string g6, .int .i64 g7, .slice ub kq pb])
  go_upto_region 13 with (first
    | (refine wpList_store_row rfl 24 (.tmp 13) (.tmp 121) rfl w14.heap.size #[.slice r4 N2 q4] rfl rfl 24 _ (h15.at_ 1 rfl) ch_info rfl (ch_one _ _ _) ?_)
    | (refine wpList_store_row rfl 31 (.tmp 14) (.tmp 122) rfl (w14.heap.size + 1) #[.string b1, .bool b2, .int .i64 b3, .string g1, .int .i64 g2, .int .i64 g3, .int .i64 g4, .string g5, .string g6, .int .i64 g7, .slice ub kq pb] rfl rfl 31 _ (h16.at_ 0 rfl) pk_size rfl (pk_one _ _ _ _ _ _ _ _ _ _ _ _ _) ?_))
  have x1 := isCells_of (h17.at_ 0 rfl)
  have x2 := isCells_of (h17.at_ 1 rfl)
  have h18 := (((h17.loose (os1 := [])).loose (os1 := [])).keep (Mono.cells _ _) x2).keep (Mono.cells _ _) x1
  clear h14 h15 h16 h17 x1 x2
  generalize World.setRow _ _ _ = W18 at h18 ⊢
  generalize w14.heap.size = g13 at h18 ⊢
  by_cases hin : 0 ≤ n ∧ n < N
  case neg =>
    obtain rfl : s2 = 4 := by
      have h := RD.out
      rw [delR_out (by rw [HN.out]; exact hin)] at h
      exact (congrArg (fun x : List Pk × Pk × Int => x.2.2) h).symm
    by_cases hn0 : 0 ≤ n
    · have hn1 : (N : Int) ≤ n := by omega
      refine wp_region_st0 [pVal ?c13a_0, pVal ?c13a_1, pVal (.bool false), pVal (.bool false), pVal ?c13a_4, pVal (.bool false), pVal ?c13a_6, pVal (.bool true), pVal (.bool true), pVal ?c13a_9, pVal ?c13a_10, pVal (.bool false), pVal (.bool false), pVal (.bool false), pVal (.bool false), pVal (.bool false), pVal (.agg #[.slice r3 N2 q3]), pVal (.agg #[.slice r4 N2 q4]), pVal (.bool true), pVal (.bool false), pVal (.bool false)] (osC []) 193 [0, 0, 3, 7, 15, 31, 15, 79, 207, 463, 463, 1999, 4047, 8191, 16383, 32767, 65535, 65535, 262143, 524287, 1048575] [[], [], [(1, 125), (0, 124)], [(2, 126)], [(3, 127)], [(3, 127), (4, 128)], [(3, 127)], [(3, 127), (6, 130)], [(3, 127), (7, 131)], [(8, 132)], [(8, 132)], [(8, 132), (10, 134), (9, 133)], [(3, 127), (11, 135), (8, 132)], [(3, 127), (12, 136), (5, 129)], [(13, 137), (3, 127)], [(14, 138)], [(15, 139)], [(15, 139)], [(15, 139), (17, 141), (16, 140)], [(15, 139), (18, 142)], [(19, 143), (15, 139)]] [(0, 124), (1, 125), (2, 126), (3, 127), (4, 128), (5, 129), (6, 130), (7, 131), (8, 132), (9, 133), (10, 134), (11, 135), (12, 136), (13, 137), (14, 138), (15, 139), (16, 140), (17, 141), (18, 142), (19, 143), (20, 144)] (by kernel_rfl) rfl rfl h18 osC0 osC1 ?ob ?en
      case ob =>
        refine ⟨?_, ?_, ?_, ?_, ?_, ?_, ?_, ?_, ?_, ?_, ?_, ?_, ?_, ?_, ?_, ?_, ?_, ?_, ?_, ?_, ?_, trivial⟩
        · -- 0: t124 := Op.move (t10)
          intro zx1 zx2 zx3 zx4 L V W hL hd hw hst 
          refine ob_c rfl ?_ hst rfl
          go_simp
          try with_reducible rfl
        · -- 1: t125 := Op.move (t15)
          intro zx1 zx2 zx3 zx4 L V W hL hd hw hst 
          refine ob_c rfl ?_ hst rfl
          go_simp
          try with_reducible rfl
        · -- 2: t126 := Op.binOp BinOp.neq 33 (t124) (t125) 33
          intro zx1 zx2 zx3 zx4 L V W hL hd hw hst u0 e0 p0 u1 e1 p1
          obtain rfl : u0 = _ := p0
          obtain rfl : u1 = _ := p1
          refine ob_c (by first | rfl | (simp [wantE, dstOf, zx1]; done)) ?_ hst rfl
          go_simp
          all_goals (first | done | omega | (simp; omega) | (simp; done))
        · -- 3: t127 := Op.move (t126)
          intro zx1 zx2 zx3 zx4 L V W hL hd hw hst u2 e2 p2
          obtain rfl : u2 = _ := p2
          refine ob_c (by first | rfl | (simp [wantE, dstOf, zx1]; done)) ?_ hst rfl
          go_simp
          all_goals (first | done | omega | (simp; omega) | (simp; done))
        · -- 4: t128 := Op.move (t10)
          intro zx1 zx2 zx3 zx4 L V W hL hd hw hst u3 e3 p3
          obtain rfl : u3 = _ := p3
          refine ob_c (by first | rfl | (simp [wantE, dstOf, zx1]; done)) ?_ hst rfl
          go_simp
          try with_reducible rfl
        · -- 5: t129 := Op.binOp BinOp.eql 33 (t128) (const (int IntKind.i64 0)) 33
          intro zx1 zx2 zx3 zx4 L V W hL hd hw hst u4 e4 p4 u3 e3 p3
          obtain rfl : u4 = _ := p4
          obtain rfl : u3 = _ := p3
          refine ob_c (by first | rfl | (simp [wantE, dstOf, zx1]; done)) ?_ hst rfl
          go_simp
          all_goals (first | done | omega | (simp; omega) | (simp; done))
        · -- 6: t130 := Op.move (t2)
          intro zx1 zx2 zx3 zx4 L V W hL hd hw hst u3 e3 p3
          obtain rfl : u3 = _ := p3
          refine ob_c (by first | rfl | (simp [wantE, dstOf, zx1]; done)) ?_ hst rfl
          go_simp
          try with_reducible rfl
        · -- 7: t131 := Op.binOp BinOp.geq 3 (t130) (const (int IntKind.i64 0)) 3
          intro zx1 zx2 zx3 zx4 L V W hL hd hw hst u6 e6 p6 u3 e3 p3
          obtain rfl : u6 = _ := p6
          obtain rfl : u3 = _ := p3
          refine ob_c (by first | rfl | (simp [wantE, dstOf, zx1]; done)) ?_ hst rfl
          go_simp
          all_goals (first | done | omega | (simp; omega) | (simp; done))
        · -- 8: t132 := Op.move (t131)
          intro zx1 zx2 zx3 zx4 L V W hL hd hw hst u7 e7 p7 u3 e3 p3
          obtain rfl : u7 = _ := p7
          obtain rfl : u3 = _ := p3
          refine ob_c (by first | rfl | (simp [wantE, dstOf, zx1]; done)) ?_ hst rfl
          go_simp
          all_goals (first | done | omega | (simp; omega) | (simp; done))
        · -- 9: t133 := Op.move (t2)
          intro zx1 zx2 zx3 zx4 L V W hL hd hw hst u8 e8 p8
          obtain rfl : u8 = _ := p8
          refine ob_c (by first | rfl | (simp [wantE, dstOf, zx1]; done)) ?_ hst rfl
          go_simp
          try with_reducible rfl
        · -- 10: t134 := Op.move (t8)
          intro zx1 zx2 zx3 zx4 L V W hL hd hw hst u8 e8 p8
          obtain rfl : u8 = _ := p8
          refine ob_c (by first | rfl | (simp [wantE, dstOf, zx1]; done)) ?_ hst rfl
          go_simp
          try with_reducible rfl
        · -- 11: t135 := Op.binOp BinOp.lss 3 (t133) (t134) 3
          intro zx1 zx2 zx3 zx4 L V W hL hd hw hst u9 e9 p9 u10 e10 p10 u8 e8 p8
          obtain rfl : u9 = _ := p9
          obtain rfl : u10 = _ := p10
          obtain rfl : u8 = _ := p8
          refine ob_c (by first | rfl | (simp [wantE, dstOf, zx1]; done)) ?_ hst rfl
          go_simp
          all_goals (first | done | omega | (simp; omega) | (simp; done))
        · -- 12: t136 := Op.pick (t132) (t135) (const (bool false))
          intro zx1 zx2 zx3 zx4 L V W hL hd hw hst u8 e8 p8 u11 e11 p11 u3 e3 p3
          obtain rfl : u8 = _ := p8
          obtain rfl : u11 = _ := p11
          obtain rfl : u3 = _ := p3
          refine ob_c (by first | rfl | (simp [wantE, dstOf, zx1]; done)) ?_ hst rfl
          go_simp
          all_goals (first | done | omega | (simp; omega) | (simp; done))
        · -- 13: t137 := Op.binOp BinOp.neq 4 (t129) (t136) 4
          intro zx1 zx2 zx3 zx4 L V W hL hd hw hst u5 e5 p5 u12 e12 p12 u3 e3 p3
          obtain rfl : u5 = _ := p5
          obtain rfl : u12 = _ := p12
          obtain rfl : u3 = _ := p3
          refine ob_c (by first | rfl | (simp [wantE, dstOf, zx1]; done)) ?_ hst rfl
          go_simp
          all_goals (first | done | omega | (simp; omega) | (simp; done))
        · -- 14: t138 := Op.pick (t127) (const (bool true)) (t137)
          intro zx1 zx2 zx3 zx4 L V W hL hd hw hst u3 e3 p3 u13 e13 p13
          obtain rfl : u3 = _ := p3
          obtain rfl : u13 = _ := p13
          refine ob_c (by first | rfl | (simp [wantE, dstOf, zx1]; done)) ?_ hst rfl
          go_simp
          all_goals (first | done | omega | (simp; omega) | (simp; done))
        · -- 15: t139 := Op.move (t138)
          intro zx1 zx2 zx3 zx4 L V W hL hd hw hst u14 e14 p14
          obtain rfl : u14 = _ := p14
          refine ob_c (by first | rfl | (simp [wantE, dstOf, zx1]; done)) ?_ hst rfl
          go_simp
          all_goals (first | done | omega | (simp; omega) | (simp; done))
        · -- 16: t140 := Op.load 24 (t12)
          intro zx1 zx2 zx3 zx4 L V W hL hd hw hst u15 e15 p15
          obtain rfl : u15 = _ := p15
          have hz := mask_is _ _ _ _ ((hst.base 4 rfl : IsCells _ _ _) 0 _ rfl)
          refine ob_c (by first | rfl | (simp [wantE, dstOf, zx1]; done)) ?_ hst rfl
          go_simp
          try with_reducible rfl
        · -- 17: t141 := Op.load 24 (t13)
          intro zx1 zx2 zx3 zx4 L V W hL hd hw hst u15 e15 p15
          obtain rfl : u15 = _ := p15
          have hz := mask_is _ _ _ _ ((hst.base 1 rfl : IsCells _ _ _) 0 _ rfl)
          refine ob_c (by first | rfl | (simp [wantE, dstOf, zx1]; done)) ?_ hst rfl
          go_simp
          try with_reducible rfl
        · -- 18: t142 := Op.call { callee := value (func 12), args := #[t140, t141], argTypes := #[24, 24] }
          intro zx1 zx2 zx3 zx4 L V W hL hd hw hst u16 e16 p16 u17 e17 p17 u15 e15 p15
          obtain rfl : u16 = _ := p16
          obtain rfl : u17 = _ := p17
          obtain rfl : u15 = _ := p15
          refine ob_call (by first | rfl | (simp [wantE, dstOf, zx1]; done)) ?_ (sameCh_p hst ((hst.base 5 rfl : IsPks _ _ _).sub rdPk_up (mask_is _ _)) L2.out ((hst.base 3 rfl : IsPks _ _ _).sub rdPk_up (mask_is _ _)) L2.out (decide_eq_true rfl))
          go_simp
          try rfl
        · -- 19: t143 := Op.unOp UnOp.not 4 (t142)
          intro zx1 zx2 zx3 zx4 L V W hL hd hw hst u18 e18 p18 u15 e15 p15
          obtain rfl : u18 = _ := p18
          obtain rfl : u15 = _ := p15
          refine ob_c (by first | rfl | (simp [wantE, dstOf, zx1]; done)) ?_ hst rfl
          go_simp
          all_goals (first | done | omega | (simp; omega) | (simp; done))
        · -- 20: t144 := Op.pick (t139) (const (bool true)) (t143)
          intro zx1 zx2 zx3 zx4 L V W hL hd hw hst u15 e15 p15 u19 e19 p19
          obtain rfl : u15 = _ := p15
          obtain rfl : u19 = _ := p19
          refine ob_c (by first | rfl | (simp [wantE, dstOf, zx1]; done)) ?_ hst rfl
          go_simp
          all_goals (first | done | omega | (simp; omega) | (simp; done))
      case en =>
        intro V W hst u0 e0 p0 u1 e1 p1 u2 e2 p2 u3 e3 p3 u4 e4 p4 u5 e5 p5 u6 e6 p6 u7 e7 p7 u8 e8 p8 u9 e9 p9 u10 e10 p10 u11 e11 p11 u12 e12 p12 u13 e13 p13 u14 e14 p14 u15 e15 p15 u16 e16 p16 u17 e17 p17 u18 e18 p18 u19 e19 p19 u20 e20 p20
        obtain rfl : u0 = _ := p0
        obtain rfl : u1 = _ := p1
        obtain rfl : u2 = _ := p2
        obtain rfl : u3 = _ := p3
        obtain rfl : u4 = _ := p4
        obtain rfl : u5 = _ := p5
        obtain rfl : u6 = _ := p6
        obtain rfl : u7 = _ := p7
        obtain rfl : u8 = _ := p8
        obtain rfl : u9 = _ := p9
        obtain rfl : u10 = _ := p10
        obtain rfl : u11 = _ := p11
        obtain rfl : u12 = _ := p12
        obtain rfl : u13 = _ := p13
        obtain rfl : u14 = _ := p14
        obtain rfl : u15 = _ := p15
        obtain rfl : u16 = _ := p16
        obtain rfl : u17 = _ := p17
        obtain rfl : u18 = _ := p18
        obtain rfl : u19 = _ := p19
        obtain rfl : u20 = _ := p20
        simp only [EndAll, Act.put, List.getElem_toArray, List.getElem_cons_succ, List.getElem_cons_zero, List.setIfInBounds_toArray, List.set_cons_zero, List.set_cons_succ]
        rw [show osC [] (fun _ => true) V = [] from rfl] at hst
        have h19 := hst.facts (fs' := [HasMax]) (fun P hP => by simp only [List.mem_cons, List.not_mem_nil, or_false] at hP ⊢; rcases hP with rfl <;> simp)
        clear hst h18  e0 e1 e2 e3 e4 e5 e6 e7 e8 e9 e10 e11 e12 e13 e14 e15 e16 e17 e18 e19 e20
        go_wp2_with fail
        go_ret
        exact ⟨rfl, h19.below⟩
    · have hn1 : n < 0 := by omega
      refine wp_region_st0 [pVal ?c13b_0, pVal ?c13b_1, pVal (.bool false), pVal (.bool false), pVal ?c13b_4, pVal (.bool false), pVal ?c13b_6, pVal (.bool false), pVal (.bool false), pVal undef, pVal undef, pVal undef, pVal (.bool false), pVal (.bool false), pVal (.bool false), pVal (.bool false), pVal (.agg #[.slice r3 N2 q3]), pVal (.agg #[.slice r4 N2 q4]), pVal (.bool true), pVal (.bool false), pVal (.bool false)] (osC []) 193 [0, 0, 3, 7, 15, 31, 15, 79, 207, 463, 463, 1999, 4047, 8191, 16383, 32767, 65535, 65535, 262143, 524287, 1048575] [[], [], [(1, 125), (0, 124)], [(2, 126)], [(3, 127)], [(3, 127), (4, 128)], [(3, 127)], [(3, 127), (6, 130)], [(3, 127), (7, 131)], [(8, 132)], [(8, 132)], [(8, 132), (10, 134), (9, 133)], [(3, 127), (11, 135), (8, 132)], [(3, 127), (12, 136), (5, 129)], [(13, 137), (3, 127)], [(14, 138)], [(15, 139)], [(15, 139)], [(15, 139), (17, 141), (16, 140)], [(15, 139), (18, 142)], [(19, 143), (15, 139)]] [(0, 124), (1, 125), (2, 126), (3, 127), (4, 128), (5, 129), (6, 130), (7, 131), (8, 132), (9, 133), (10, 134), (11, 135), (12, 136), (13, 137), (14, 138), (15, 139), (16, 140), (17, 141), (18, 142), (19, 143), (20, 144)] (by kernel_rfl) rfl rfl h18 osC0 osC1 ?ob ?en
      case ob =>
        refine ⟨?_, ?_, ?_, ?_, ?_, ?_, ?_, ?_, ?_, ?_, ?_, ?_, ?_, ?_, ?_, ?_, ?_, ?_, ?_, ?_, ?_, trivial⟩
        · -- 0: t124 := Op.move (t10)
          intro zx1 zx2 zx3 zx4 L V W hL hd hw hst 
          refine ob_c rfl ?_ hst rfl
          go_simp
          try with_reducible rfl
        · -- 1: t125 := Op.move (t15)
          intro zx1 zx2 zx3 zx4 L V W hL hd hw hst 
          refine ob_c rfl ?_ hst rfl
          go_simp
          try with_reducible rfl
        · -- 2: t126 := Op.binOp BinOp.neq 33 (t124) (t125) 33
          intro zx1 zx2 zx3 zx4 L V W hL hd hw hst u0 e0 p0 u1 e1 p1
          obtain rfl : u0 = _ := p0
          obtain rfl : u1 = _ := p1
          refine ob_c (by first | rfl | (simp [wantE, dstOf, zx1]; done)) ?_ hst rfl
          go_simp
          all_goals (first | done | omega | (simp; omega) | (simp; done))
        · -- 3: t127 := Op.move (t126)
          intro zx1 zx2 zx3 zx4 L V W hL hd hw hst u2 e2 p2
          obtain rfl : u2 = _ := p2
          refine ob_c (by first | rfl | (simp [wantE, dstOf, zx1]; done)) ?_ hst rfl
          go_simp
          all_goals (first | done | omega | (simp; omega) | (simp; done))
        · -- 4: t128 := Op.move (t10)
          intro zx1 zx2 zx3 zx4 L V W hL hd hw hst u3 e3 p3
          obtain rfl : u3 = _ := p3
          refine ob_c (by first | rfl | (simp [wantE, dstOf, zx1]; done)) ?_ hst rfl
          go_simp
          try with_reducible rfl
        · -- 5: t129 := Op.binOp BinOp.eql 33 (t128) (const (int IntKind.i64 0)) 33
          intro zx1 zx2 zx3 zx4 L V W hL hd hw hst u4 e4 p4 u3 e3 p3
          obtain rfl : u4 = _ := p4
          obtain rfl : u3 = _ := p3
          refine ob_c (by first | rfl | (simp [wantE, dstOf, zx1]; done)) ?_ hst rfl
          go_simp
          all_goals (first | done | omega | (simp; omega) | (simp; done))
        · -- 6: t130 := Op.move (t2)
          intro zx1 zx2 zx3 zx4 L V W hL hd hw hst u3 e3 p3
          obtain rfl : u3 = _ := p3
          refine ob_c (by first | rfl | (simp [wantE, dstOf, zx1]; done)) ?_ hst rfl
          go_simp
          try with_reducible rfl
        · -- 7: t131 := Op.binOp BinOp.geq 3 (t130) (const (int IntKind.i64 0)) 3
          intro zx1 zx2 zx3 zx4 L V W hL hd hw hst u6 e6 p6 u3 e3 p3
          obtain rfl : u6 = _ := p6
          obtain rfl : u3 = _ := p3
          refine ob_c (by first | rfl | (simp [wantE, dstOf, zx1]; done)) ?_ hst rfl
          go_simp
          all_goals (first | done | omega | (simp; omega) | (simp; done))
        · -- 8: t132 := Op.move (t131)
          intro zx1 zx2 zx3 zx4 L V W hL hd hw hst u7 e7 p7 u3 e3 p3
          obtain rfl : u7 = _ := p7
          obtain rfl : u3 = _ := p3
          refine ob_c (by first | rfl | (simp [wantE, dstOf, zx1]; done)) ?_ hst rfl
          go_simp
          all_goals (first | done | omega | (simp; omega) | (simp; done))
        · -- 9: t133 := Op.move (t2)
          intro zx1 zx2 zx3 zx4 L V W hL hd hw hst u8 e8 p8
          obtain rfl : u8 = _ := p8
          refine ob_o ?_ hst ?_
          · first | rfl | (simp [wantE, dstOf, zx1]; done)
          · rfl
        · -- 10: t134 := Op.move (t8)
          intro zx1 zx2 zx3 zx4 L V W hL hd hw hst u8 e8 p8
          obtain rfl : u8 = _ := p8
          refine ob_o ?_ hst ?_
          · first | rfl | (simp [wantE, dstOf, zx1]; done)
          · rfl
        · -- 11: t135 := Op.binOp BinOp.lss 3 (t133) (t134) 3
          intro zx1 zx2 zx3 zx4 L V W hL hd hw hst u9 e9 p9 u10 e10 p10 u8 e8 p8
          obtain rfl : u9 = _ := p9
          obtain rfl : u10 = _ := p10
          obtain rfl : u8 = _ := p8
          refine ob_o ?_ hst ?_
          · first | rfl | (simp [wantE, dstOf, zx1]; done)
          · rfl
        · -- 12: t136 := Op.pick (t132) (t135) (const (bool false))
          intro zx1 zx2 zx3 zx4 L V W hL hd hw hst u8 e8 p8 u11 e11 p11 u3 e3 p3
          obtain rfl : u8 = _ := p8
          obtain rfl : u11 = _ := p11
          obtain rfl : u3 = _ := p3
          refine ob_c (by first | rfl | (simp [wantE, dstOf, zx1]; done)) ?_ hst rfl
          go_simp
          all_goals (first | done | omega | (simp; omega) | (simp; done))
        · -- 13: t137 := Op.binOp BinOp.neq 4 (t129) (t136) 4
          intro zx1 zx2 zx3 zx4 L V W hL hd hw hst u5 e5 p5 u12 e12 p12 u3 e3 p3
          obtain rfl : u5 = _ := p5
          obtain rfl : u12 = _ := p12
          obtain rfl : u3 = _ := p3
          refine ob_c (by first | rfl | (simp [wantE, dstOf, zx1]; done)) ?_ hst rfl
          go_simp
          all_goals (first | done | omega | (simp; omega) | (simp; done))
        · -- 14: t138 := Op.pick (t127) (const (bool true)) (t137)
          intro zx1 zx2 zx3 zx4 L V W hL hd hw hst u3 e3 p3 u13 e13 p13
          obtain rfl : u3 = _ := p3
          obtain rfl : u13 = _ := p13
          refine ob_c (by first | rfl | (simp [wantE, dstOf, zx1]; done)) ?_ hst rfl
          go_simp
          all_goals (first | done | omega | (simp; omega) | (simp; done))
        · -- 15: t139 := Op.move (t138)
          intro zx1 zx2 zx3 zx4 L V W hL hd hw hst u14 e14 p14
          obtain rfl : u14 = _ := p14
          refine ob_c (by first | rfl | (simp [wantE, dstOf, zx1]; done)) ?_ hst rfl
          go_simp
          all_goals (first | done | omega | (simp; omega) | (simp; done))
        · -- 16: t140 := Op.load 24 (t12)
          intro zx1 zx2 zx3 zx4 L V W hL hd hw hst u15 e15 p15
          obtain rfl : u15 = _ := p15
          have hz := mask_is _ _ _ _ ((hst.base 4 rfl : IsCells _ _ _) 0 _ rfl)
          refine ob_c (by first | rfl | (simp [wantE, dstOf, zx1]; done)) ?_ hst rfl
          go_simp
          try with_reducible rfl
        · -- 17: t141 := Op.load 24 (t13)
          intro zx1 zx2 zx3 zx4 L V W hL hd hw hst u15 e15 p15
          obtain rfl : u15 = _ := p15
          have hz := mask_is _ _ _ _ ((hst.base 1 rfl : IsCells _ _ _) 0 _ rfl)
          refine ob_c (by first | rfl | (simp [wantE, dstOf, zx1]; done)) ?_ hst rfl
          go_simp
          try with_reducible rfl
        · -- 18: t142 := Op.call { callee := value (func 12), args := #[t140, t141], argTypes := #[24, 24] }
          intro zx1 zx2 zx3 zx4 L V W hL hd hw hst u16 e16 p16 u17 e17 p17 u15 e15 p15
          obtain rfl : u16 = _ := p16
          obtain rfl : u17 = _ := p17
          obtain rfl : u15 = _ := p15
          refine ob_call (by first | rfl | (simp [wantE, dstOf, zx1]; done)) ?_ (sameCh_p hst ((hst.base 5 rfl : IsPks _ _ _).sub rdPk_up (mask_is _ _)) L2.out ((hst.base 3 rfl : IsPks _ _ _).sub rdPk_up (mask_is _ _)) L2.out (decide_eq_true rfl))
          go_simp
          try rfl
        · -- 19: t143 := Op.unOp UnOp.not 4 (t142)
          intro zx1 zx2 zx3 zx4 L V W hL hd hw hst u18 e18 p18 u15 e15 p15
          obtain rfl : u18 = _ := p18
          obtain rfl : u15 = _ := p15
          refine ob_c (by first | rfl | (simp [wantE, dstOf, zx1]; done)) ?_ hst rfl
          go_simp
          all_goals (first | done | omega | (simp; omega) | (simp; done))
        · -- 20: t144 := Op.pick (t139) (const (bool true)) (t143)
          intro zx1 zx2 zx3 zx4 L V W hL hd hw hst u15 e15 p15 u19 e19 p19
          obtain rfl : u15 = _ := p15
          obtain rfl : u19 = _ := p19
          refine ob_c (by first | rfl | (simp [wantE, dstOf, zx1]; done)) ?_ hst rfl
          go_simp
          all_goals (first | done | omega | (simp; omega) | (simp; done))
      case en =>
        intro V W hst u0 e0 p0 u1 e1 p1 u2 e2 p2 u3 e3 p3 u4 e4 p4 u5 e5 p5 u6 e6 p6 u7 e7 p7 u8 e8 p8 u9 e9 p9 u10 e10 p10 u11 e11 p11 u12 e12 p12 u13 e13 p13 u14 e14 p14 u15 e15 p15 u16 e16 p16 u17 e17 p17 u18 e18 p18 u19 e19 p19 u20 e20 p20
        obtain rfl : u0 = _ := p0
        obtain rfl : u1 = _ := p1
        obtain rfl : u2 = _ := p2
        obtain rfl : u3 = _ := p3
        obtain rfl : u4 = _ := p4
        obtain rfl : u5 = _ := p5
        obtain rfl : u6 = _ := p6
        obtain rfl : u7 = _ := p7
        obtain rfl : u8 = _ := p8
        obtain rfl : u9 = _ := p9
        obtain rfl : u10 = _ := p10
        obtain rfl : u11 = _ := p11
        obtain rfl : u12 = _ := p12
        obtain rfl : u13 = _ := p13
        obtain rfl : u14 = _ := p14
        obtain rfl : u15 = _ := p15
        obtain rfl : u16 = _ := p16
        obtain rfl : u17 = _ := p17
        obtain rfl : u18 = _ := p18
        obtain rfl : u19 = _ := p19
        obtain rfl : u20 = _ := p20
        simp only [EndAll, Act.put, List.getElem_toArray, List.getElem_cons_succ, List.getElem_cons_zero, List.setIfInBounds_toArray, List.set_cons_zero, List.set_cons_succ]
        rw [show osC [] (fun _ => true) V = [] from rfl] at hst
        have h19 := hst.facts (fs' := [HasMax]) (fun P hP => by simp only [List.mem_cons, List.not_mem_nil, or_false] at hP ⊢; rcases hP with rfl <;> simp)
        clear hst h18  e0 e1 e2 e3 e4 e5 e6 e7 e8 e9 e10 e11 e12 e13 e14 e15 e16 e17 e18 e19 e20
        go_wp2_with fail
        go_ret
        exact ⟨rfl, h19.below⟩
  obtain ⟨i, rfl, hiN⟩ : ∃ i : Nat, n = (i : Int) ∧ i < N := ⟨n.toNat, by omega, by omega⟩
  have hil : i < l.length := by rw [HN.out]; exact hiN
  have e2 := RD.out
  rw [delR_in hil] at e2
  simp only [Prod.mk.injEq] at e2
  obtain ⟨rfl, hQ, rfl⟩ := e2
  have HQ := Lib.hid hQ
  have hN2 : N = N2 + 1 := by have := L2.out; rw [List.length_eraseIdx_of_lt hil, HN.out] at this; omega
  have hw2 : IntKind.i64.wrap ((N : Int) - 1) = (N2 : Int) := by rw [IntKind.wrap_i64]; omega
  have HW2 := Lib.hid hw2
  clear hQ
  refine wp_region_st0 [pVal ?c13c_0, pVal ?c13c_1, pVal (.bool false), pVal (.bool false), pVal ?c13c_4, pVal (.bool true), pVal ?c13c_6, pVal (.bool true), pVal (.bool true), pVal ?c13c_9, pVal ?c13c_10, pVal (.bool true), pVal (.bool true), pVal (.bool false), pVal (.bool false), pVal (.bool false), pVal (.agg #[.slice r3 N2 q3]), pVal (.agg #[.slice r4 N2 q4]), pVal (.bool true), pVal (.bool false), pVal (.bool false)] (osC []) 193 [0, 0, 3, 7, 15, 31, 15, 79, 207, 463, 463, 1999, 4047, 8191, 16383, 32767, 65535, 65535, 262143, 524287, 1048575] [[], [], [(1, 125), (0, 124)], [(2, 126)], [(3, 127)], [(3, 127), (4, 128)], [(3, 127)], [(3, 127), (6, 130)], [(3, 127), (7, 131)], [(8, 132)], [(8, 132)], [(8, 132), (10, 134), (9, 133)], [(3, 127), (11, 135), (8, 132)], [(3, 127), (12, 136), (5, 129)], [(13, 137), (3, 127)], [(14, 138)], [(15, 139)], [(15, 139)], [(15, 139), (17, 141), (16, 140)], [(15, 139), (18, 142)], [(19, 143), (15, 139)]] [(0, 124), (1, 125), (2, 126), (3, 127), (4, 128), (5, 129), (6, 130), (7, 131), (8, 132), (9, 133), (10, 134), (11, 135), (12, 136), (13, 137), (14, 138), (15, 139), (16, 140), (17, 141), (18, 142), (19, 143), (20, 144)] (by kernel_rfl) rfl rfl h18 osC0 osC1 ?ob ?en
  case ob =>
    refine ⟨?_, ?_, ?_, ?_, ?_, ?_, ?_, ?_, ?_, ?_, ?_, ?_, ?_, ?_, ?_, ?_, ?_, ?_, ?_, ?_, ?_, trivial⟩
    · -- 0: t124 := Op.move (t10)
      intro zx1 zx2 zx3 zx4 L V W hL hd hw hst 
      refine ob_c rfl ?_ hst rfl
      go_simp
      try with_reducible rfl
    · -- 1: t125 := Op.move (t15)
      intro zx1 zx2 zx3 zx4 L V W hL hd hw hst 
      refine ob_c rfl ?_ hst rfl
      go_simp
      try with_reducible rfl
    · -- 2: t126 := Op.binOp BinOp.neq 33 (t124) (t125) 33
      intro zx1 zx2 zx3 zx4 L V W hL hd hw hst u0 e0 p0 u1 e1 p1
      obtain rfl : u0 = _ := p0
      obtain rfl : u1 = _ := p1
      refine ob_c (by first | rfl | (simp [wantE, dstOf, zx1]; done)) ?_ hst rfl
      go_simp
      all_goals (first | done | omega | (simp; omega) | (simp; done))
    · -- 3: t127 := Op.move (t126)
      intro zx1 zx2 zx3 zx4 L V W hL hd hw hst u2 e2 p2
      obtain rfl : u2 = _ := p2
      refine ob_c (by first | rfl | (simp [wantE, dstOf, zx1]; done)) ?_ hst rfl
      go_simp
      all_goals (first | done | omega | (simp; omega) | (simp; done))
    · -- 4: t128 := Op.move (t10)
      intro zx1 zx2 zx3 zx4 L V W hL hd hw hst u3 e3 p3
      obtain rfl : u3 = _ := p3
      refine ob_c (by first | rfl | (simp [wantE, dstOf, zx1]; done)) ?_ hst rfl
      go_simp
      try with_reducible rfl
    · -- 5: t129 := Op.binOp BinOp.eql 33 (t128) (const (int IntKind.i64 0)) 33
      intro zx1 zx2 zx3 zx4 L V W hL hd hw hst u4 e4 p4 u3 e3 p3
      obtain rfl : u4 = _ := p4
      obtain rfl : u3 = _ := p3
      refine ob_c (by first | rfl | (simp [wantE, dstOf, zx1]; done)) ?_ hst rfl
      go_simp
      all_goals (first | done | omega | (simp; omega) | (simp; done))
    · -- 6: t130 := Op.move (t2)
      intro zx1 zx2 zx3 zx4 L V W hL hd hw hst u3 e3 p3
      obtain rfl : u3 = _ := p3
      refine ob_c (by first | rfl | (simp [wantE, dstOf, zx1]; done)) ?_ hst rfl
      go_simp
      try with_reducible rfl
    · -- 7: t131 := Op.binOp BinOp.geq 3 (t130) (const (int IntKind.i64 0)) 3
      intro zx1 zx2 zx3 zx4 L V W hL hd hw hst u6 e6 p6 u3 e3 p3
      obtain rfl : u6 = _ := p6
      obtain rfl : u3 = _ := p3
      refine ob_c (by first | rfl | (simp [wantE, dstOf, zx1]; done)) ?_ hst rfl
      go_simp
      all_goals (first | done | omega | (simp; omega) | (simp; done))
    · -- 8: t132 := Op.move (t131)
      intro zx1 zx2 zx3 zx4 L V W hL hd hw hst u7 e7 p7 u3 e3 p3
      obtain rfl : u7 = _ := p7
      obtain rfl : u3 = _ := p3
      refine ob_c (by first | rfl | (simp [wantE, dstOf, zx1]; done)) ?_ hst rfl
      go_simp
      all_goals (first | done | omega | (simp; omega) | (simp; done))
    · -- 9: t133 := Op.move (t2)
      intro zx1 zx2 zx3 zx4 L V W hL hd hw hst u8 e8 p8
      obtain rfl : u8 = _ := p8
      refine ob_c (by first | rfl | (simp [wantE, dstOf, zx1]; done)) ?_ hst rfl
      go_simp
      try with_reducible rfl
    · -- 10: t134 := Op.move (t8)
      intro zx1 zx2 zx3 zx4 L V W hL hd hw hst u8 e8 p8
      obtain rfl : u8 = _ := p8
      refine ob_c (by first | rfl | (simp [wantE, dstOf, zx1]; done)) ?_ hst rfl
      go_simp
      try with_reducible rfl
    · -- 11: t135 := Op.binOp BinOp.lss 3 (t133) (t134) 3
      intro zx1 zx2 zx3 zx4 L V W hL hd hw hst u9 e9 p9 u10 e10 p10 u8 e8 p8
      obtain rfl : u9 = _ := p9
      obtain rfl : u10 = _ := p10
      obtain rfl : u8 = _ := p8
      refine ob_c (by first | rfl | (simp [wantE, dstOf, zx1]; done)) ?_ hst rfl
      go_simp
      all_goals (first | done | omega | (simp; omega) | (simp; done))
    · -- 12: t136 := Op.pick (t132) (t135) (const (bool false))
      intro zx1 zx2 zx3 zx4 L V W hL hd hw hst u8 e8 p8 u11 e11 p11 u3 e3 p3
      obtain rfl : u8 = _ := p8
      obtain rfl : u11 = _ := p11
      obtain rfl : u3 = _ := p3
      refine ob_c (by first | rfl | (simp [wantE, dstOf, zx1]; done)) ?_ hst rfl
      go_simp
      all_goals (first | done | omega | (simp; omega) | (simp; done))
    · -- 13: t137 := Op.binOp BinOp.neq 4 (t129) (t136) 4
      intro zx1 zx2 zx3 zx4 L V W hL hd hw hst u5 e5 p5 u12 e12 p12 u3 e3 p3
      obtain rfl : u5 = _ := p5
      obtain rfl : u12 = _ := p12
      obtain rfl : u3 = _ := p3
      refine ob_c (by first | rfl | (simp [wantE, dstOf, zx1]; done)) ?_ hst rfl
      go_simp
      all_goals (first | done | omega | (simp; omega) | (simp; done))
    · -- 14: t138 := Op.pick (t127) (const (bool true)) (t137)
      intro zx1 zx2 zx3 zx4 L V W hL hd hw hst u3 e3 p3 u13 e13 p13
      obtain rfl : u3 = _ := p3
      obtain rfl : u13 = _ := p13
      refine ob_c (by first | rfl | (simp [wantE, dstOf, zx1]; done)) ?_ hst rfl
      go_simp
      all_goals (first | done | omega | (simp; omega) | (simp; done))
    · -- 15: t139 := Op.move (t138)
      intro zx1 zx2 zx3 zx4 L V W hL hd hw hst u14 e14 p14
      obtain rfl : u14 = _ := p14
      refine ob_c (by first | rfl | (simp [wantE, dstOf, zx1]; done)) ?_ hst rfl
      go_simp
      all_goals (first | done | omega | (simp; omega) | (simp; done))
    · -- 16: t140 := Op.load 24 (t12)
      intro zx1 zx2 zx3 zx4 L V W hL hd hw hst u15 e15 p15
      obtain rfl : u15 = _ := p15
      have hz := mask_is _ _ _ _ ((hst.base 4 rfl : IsCells _ _ _) 0 _ rfl)
      refine ob_c (by first | rfl | (simp [wantE, dstOf, zx1]; done)) ?_ hst rfl
      go_simp
      try with_reducible rfl
    · -- 17: t141 := Op.load 24 (t13)
      intro zx1 zx2 zx3 zx4 L V W hL hd hw hst u15 e15 p15
      obtain rfl : u15 = _ := p15
      have hz := mask_is _ _ _ _ ((hst.base 1 rfl : IsCells _ _ _) 0 _ rfl)
      refine ob_c (by first | rfl | (simp [wantE, dstOf, zx1]; done)) ?_ hst rfl
      go_simp
      try with_reducible rfl
    · -- 18: t142 := Op.call { callee := value (func 12), args := #[t140, t141], argTypes := #[24, 24] }
      intro zx1 zx2 zx3 zx4 L V W hL hd hw hst u16 e16 p16 u17 e17 p17 u15 e15 p15
      obtain rfl : u16 = _ := p16
      obtain rfl : u17 = _ := p17
      obtain rfl : u15 = _ := p15
      refine ob_call (by first | rfl | (simp [wantE, dstOf, zx1]; done)) ?_ (sameCh_p hst ((hst.base 5 rfl : IsPks _ _ _).sub rdPk_up (mask_is _ _)) L2.out ((hst.base 3 rfl : IsPks _ _ _).sub rdPk_up (mask_is _ _)) L2.out (decide_eq_true rfl))
      go_simp
      try rfl
    · -- 19: t143 := Op.unOp UnOp.not 4 (t142)
      intro zx1 zx2 zx3 zx4 L V W hL hd hw hst u18 e18 p18 u15 e15 p15
      obtain rfl : u18 = _ := p18
      obtain rfl : u15 = _ := p15
      refine ob_c (by first | rfl | (simp [wantE, dstOf, zx1]; done)) ?_ hst rfl
      go_simp
      all_goals (first | done | omega | (simp; omega) | (simp; done))
    · -- 20: t144 := Op.pick (t139) (const (bool true)) (t143)
      intro zx1 zx2 zx3 zx4 L V W hL hd hw hst u15 e15 p15 u19 e19 p19
      obtain rfl : u15 = _ := p15
      obtain rfl : u19 = _ := p19
      refine ob_c (by first | rfl | (simp [wantE, dstOf, zx1]; done)) ?_ hst rfl
      go_simp
      all_goals (first | done | omega | (simp; omega) | (simp; done))
  case en =>
    intro V W hst u0 e0 p0 u1 e1 p1 u2 e2 p2 u3 e3 p3 u4 e4 p4 u5 e5 p5 u6 e6 p6 u7 e7 p7 u8 e8 p8 u9 e9 p9 u10 e10 p10 u11 e11 p11 u12 e12 p12 u13 e13 p13 u14 e14 p14 u15 e15 p15 u16 e16 p16 u17 e17 p17 u18 e18 p18 u19 e19 p19 u20 e20 p20
    obtain rfl : u0 = _ := p0
    obtain rfl : u1 = _ := p1
    obtain rfl : u2 = _ := p2
    obtain rfl : u3 = _ := p3
    obtain rfl : u4 = _ := p4
    obtain rfl : u5 = _ := p5
    obtain rfl : u6 = _ := p6
    obtain rfl : u7 = _ := p7
    obtain rfl : u8 = _ := p8
    obtain rfl : u9 = _ := p9
    obtain rfl : u10 = _ := p10
    obtain rfl : u11 = _ := p11
    obtain rfl : u12 = _ := p12
    obtain rfl : u13 = _ := p13
    obtain rfl : u14 = _ := p14
    obtain rfl : u15 = _ := p15
    obtain rfl : u16 = _ := p16
    obtain rfl : u17 = _ := p17
    obtain rfl : u18 = _ := p18
    obtain rfl : u19 = _ := p19
    obtain rfl : u20 = _ := p20
    simp only [EndAll, Act.put, List.getElem_toArray, List.getElem_cons_succ, List.getElem_cons_zero, List.setIfInBounds_toArray, List.set_cons_zero, List.set_cons_succ]
    rw [show osC [] (fun _ => true) V = [] from rfl] at hst
    have h19 := hst.facts (fs' := [IsCells (g13 + 1) #[.string b1, .bool b2, .int .i64 b3, .string g1, .int .i64 g2, .int .i64 g3, .int .i64 g4, .string g5, .string g6, .int .i64 g7, .slice ub kq pb], (IsVals · (.slice ub kq pb) g8), IsCells g12 #[.slice r3 N2 q3], (IsPks · (.slice r3 N2 q3) (l.eraseIdx i)), IsCells w.heap.size #[.slice lb N lq], (IsPks · (.slice lb N lq) l)]) (fun P hP => by simp only [List.mem_cons, List.not_mem_nil, or_false] at hP ⊢; rcases hP with rfl | rfl | rfl | rfl | rfl | rfl <;> simp)
    clear hst h18  e0 e1 e2 e3 e4 e5 e6 e7 e8 e9 e10 e11 e12 e13 e14 e15 e16 e17 e18 e19 e20
    go_upto_region 17 with fail
    obtain ⟨gc, oc, vc, qc, rfl, hvc, hrc⟩ := (h19.is 5 rfl : IsPks _ _ _).pks i hil
    rw [HQ.out] at hvc hrc
    simp only [Pk.cellsA] at hvc hrc
    rw [HKQ.out] at hvc hrc
    have h20 := (h19.keep (Mono.seq rdVal_up _ _) hvc).keep (Mono.range _ _ _) hrc
    clear h19 hvc hrc
    refine wp_region_st [pVal ?c17_0, pVal (.slice r3 N2 q3), pVal ?c17_2, pVal ?c17_3, pVal (.int .i64 (N2 : Int)), pVal (.bool false), pVal (.bool false), pVal (.agg #[.string b1, .bool b2, .int .i64 b3, .string g1, .int .i64 g2, .int .i64 g3, .int .i64 g4, .string g5, .string g6, .int .i64 g7, .slice ub kq pb]), pVal ?c17_8, pVal (.slice (some ⟨gc, oc, none⟩) N lq), pVal ?c17_10, pVal (.pointer (some ⟨gc, oc + i * 11, none⟩)), pVal (.agg #[.string b1, .bool b2, .int .i64 b3, .string g1, .int .i64 g2, .int .i64 g3, .int .i64 g4, .string g5, .string g6, .int .i64 g7, .slice vc kq qc]), pVal (.bool true), pVal (.bool false), pVal (.bool false)] (osC []) 193 [0, 1, 3, 0, 8, 31, 63, 127, 127, 383, 127, 1919, 3967, 8191, 16383, 32767] [[], [(0, 152)], [(1, 153)], [], [(3, 155)], [(4, 156), (2, 154)], [(5, 157)], [(6, 158)], [(6, 158)], [(6, 158), (8, 160)], [(6, 158)], [(6, 158), (10, 162), (9, 161)], [(6, 158), (11, 163)], [(6, 158), (12, 164), (7, 159)], [(6, 158), (13, 165)], [(14, 166), (6, 158)]] [(0, 152), (1, 153), (2, 154), (3, 155), (4, 156), (5, 157), (6, 158), (7, 159), (8, 160), (9, 161), (10, 162), (11, 163), (12, 164), (13, 165), (14, 166), (15, 167)] (by kernel_rfl) (by kernel_rfl) rfl rfl h20 osC0 osC1 ?ob ?en
    case ob =>
      refine ⟨?_, ?_, ?_, ?_, ?_, ?_, ?_, ?_, ?_, ?_, ?_, ?_, ?_, ?_, ?_, ?_, trivial⟩
      · -- 0: t152 := Op.fieldAddr 24 (t12) 0
        intro zx1 zx2 zx3 zx4 L V W hL hd hw hst 
        refine ob_c rfl ?_ hst rfl
        go_simp
        try with_reducible rfl
      · -- 1: t153 := Op.load 22 (t152)
        intro zx1 zx2 zx3 zx4 L V W hL hd hw hst u0 e0 p0
        obtain rfl : u0 = _ := p0
        have hz := mask_is _ _ _ _ ((hst.base 4 rfl : IsCells _ _ _) 0 _ rfl)
        refine ob_c (by first | rfl | (simp [wantE, dstOf, zx1]; done)) ?_ hst rfl
        go_simp
        try with_reducible rfl
      · -- 2: t154 := Op.call { callee := builtin Builtin.len, args := #[t153], argTypes := #[22] }
        intro zx1 zx2 zx3 zx4 L V W hL hd hw hst u1 e1 p1
        obtain rfl : u1 = _ := p1
        refine ob_c rfl ?_ hst rfl
        go_simp
        try with_reducible rfl
      · -- 3: t155 := Op.move (t8)
        intro zx1 zx2 zx3 zx4 L V W hL hd hw hst 
        refine ob_c rfl ?_ hst rfl
        go_simp
        try with_reducible rfl
      · -- 4: t156 := Op.binOp BinOp.sub 3 (t155) (const (int IntKind.i64 1)) 3
        intro zx1 zx2 zx3 zx4 L V W hL hd hw hst u3 e3 p3
        obtain rfl : u3 = _ := p3
        refine ob_c (by first | rfl | (simp [wantE, dstOf, zx1]; done)) ?_ hst rfl
        go_simp
        all_goals (first | rw [HW2.out] | (rw [IntKind.wrap_i64]; omega))
      · -- 5: t157 := Op.binOp BinOp.neq 3 (t154) (t156) 3
        intro zx1 zx2 zx3 zx4 L V W hL hd hw hst u2 e2 p2 u4 e4 p4
        obtain rfl : u2 = _ := p2
        obtain rfl : u4 = _ := p4
        refine ob_c (by first | rfl | (simp [wantE, dstOf, zx1]; done)) ?_ hst rfl
        go_simp
        all_goals (first | done | omega | (simp; omega) | (simp; done))
      · -- 6: t158 := Op.move (t157)
        intro zx1 zx2 zx3 zx4 L V W hL hd hw hst u5 e5 p5
        obtain rfl : u5 = _ := p5
        refine ob_c (by first | rfl | (simp [wantE, dstOf, zx1]; done)) ?_ hst rfl
        go_simp
        all_goals (first | done | omega | (simp; omega) | (simp; done))
      · -- 7: t159 := Op.load 31 (t14)
        intro zx1 zx2 zx3 zx4 L V W hL hd hw hst u6 e6 p6
        obtain rfl : u6 = _ := p6
        exact ob_c (by first | rfl | (simp [wantE, dstOf, zx1]; done)) (run_load_mid rfl rfl ((hst.base 2 rfl : IsCells _ _ _) |> Mono.cells _ _ _ _ (mask_is _ _) |>.range) Try.underlying31 rfl rfl) hst rfl
      · -- 8: t160 := Op.fieldAddr 24 (t3) 0
        intro zx1 zx2 zx3 zx4 L V W hL hd hw hst u6 e6 p6
        obtain rfl : u6 = _ := p6
        refine ob_c (by first | rfl | (simp [wantE, dstOf, zx1]; done)) ?_ hst rfl
        go_simp
        try with_reducible rfl
      · -- 9: t161 := Op.load 22 (t160)
        intro zx1 zx2 zx3 zx4 L V W hL hd hw hst u8 e8 p8 u6 e6 p6
        obtain rfl : u8 = _ := p8
        obtain rfl : u6 = _ := p6
        have hz := mask_is _ _ _ _ ((hst.base 6 rfl : IsCells _ _ _) 0 _ rfl)
        refine ob_c (by first | rfl | (simp [wantE, dstOf, zx1]; done)) ?_ hst rfl
        go_simp
        try with_reducible rfl
      · -- 10: t162 := Op.move (t2)
        intro zx1 zx2 zx3 zx4 L V W hL hd hw hst u6 e6 p6
        obtain rfl : u6 = _ := p6
        refine ob_c (by first | rfl | (simp [wantE, dstOf, zx1]; done)) ?_ hst rfl
        go_simp
        try with_reducible rfl
      · -- 11: t163 := Op.indexAddr 22 (t161) (t162)
        intro zx1 zx2 zx3 zx4 L V W hL hd hw hst u9 e9 p9 u10 e10 p10 u6 e6 p6
        obtain rfl : u9 = _ := p9
        obtain rfl : u10 = _ := p10
        obtain rfl : u6 = _ := p6
        refine ob_c (by first | rfl | (simp [wantE, dstOf, zx1]; done)) ?_ hst rfl
        go_simp
        all_goals (first | done | exact fun h => absurd h (by omega))
      · -- 12: t164 := Op.load 31 (t163)
        intro zx1 zx2 zx3 zx4 L V W hL hd hw hst u11 e11 p11 u6 e6 p6
        obtain rfl : u11 = _ := p11
        obtain rfl : u6 = _ := p6
        exact ob_c (by first | rfl | (simp [wantE, dstOf, zx1]; done)) (run_load_mid rfl rfl ((hst.base 0 rfl : World.rangeAt _ _ _ _) |> Mono.range _ _ _ _ _ (mask_is _ _)) Try.underlying31 rfl rfl) hst rfl
      · -- 13: t165 := Op.call { callee := value (func 13), args := #[t159, t164], argTypes := #[31, 31] }
        intro zx1 zx2 zx3 zx4 L V W hL hd hw hst u7 e7 p7 u12 e12 p12 u6 e6 p6
        obtain rfl : u7 = _ := p7
        obtain rfl : u12 = _ := p12
        obtain rfl : u6 = _ := p6
        refine ob_call (by first | rfl | (simp [wantE, dstOf, zx1]; done)) ?_ (samePk_p hst (⟨b1, b2, b3, ⟨g1, g2, g3, g4, g5, g6, g7, g8⟩⟩ : Pk) (⟨b1, b2, b3, ⟨g1, g2, g3, g4, g5, g6, g7, g8⟩⟩ : Pk) ((hst.base 3 rfl : IsVals _ _ _).sub rdVal_up (mask_is _ _)) HKQ.out ((hst.base 1 rfl : IsVals _ _ _).sub rdVal_up (mask_is _ _)) HKQ.out (decide_eq_true rfl))
        go_simp
        try rfl
      · -- 14: t166 := Op.unOp UnOp.not 4 (t165)
        intro zx1 zx2 zx3 zx4 L V W hL hd hw hst u13 e13 p13 u6 e6 p6
        obtain rfl : u13 = _ := p13
        obtain rfl : u6 = _ := p6
        refine ob_c (by first | rfl | (simp [wantE, dstOf, zx1]; done)) ?_ hst rfl
        go_simp
        all_goals (first | done | omega | (simp; omega) | (simp; done))
      · -- 15: t167 := Op.pick (t158) (const (bool true)) (t166)
        intro zx1 zx2 zx3 zx4 L V W hL hd hw hst u6 e6 p6 u14 e14 p14
        obtain rfl : u6 = _ := p6
        obtain rfl : u14 = _ := p14
        refine ob_c (by first | rfl | (simp [wantE, dstOf, zx1]; done)) ?_ hst rfl
        go_simp
        all_goals (first | done | omega | (simp; omega) | (simp; done))
    case en =>
      intro V W hst u0 e0 p0 u1 e1 p1 u2 e2 p2 u3 e3 p3 u4 e4 p4 u5 e5 p5 u6 e6 p6 u7 e7 p7 u8 e8 p8 u9 e9 p9 u10 e10 p10 u11 e11 p11 u12 e12 p12 u13 e13 p13 u14 e14 p14 u15 e15 p15
      obtain rfl : u0 = _ := p0
      obtain rfl : u1 = _ := p1
      obtain rfl : u2 = _ := p2
      obtain rfl : u3 = _ := p3
      obtain rfl : u4 = _ := p4
      obtain rfl : u5 = _ := p5
      obtain rfl : u6 = _ := p6
      obtain rfl : u7 = _ := p7
      obtain rfl : u8 = _ := p8
      obtain rfl : u9 = _ := p9
      obtain rfl : u10 = _ := p10
      obtain rfl : u11 = _ := p11
      obtain rfl : u12 = _ := p12
      obtain rfl : u13 = _ := p13
      obtain rfl : u14 = _ := p14
      obtain rfl : u15 = _ := p15
      simp only [EndAll, Act.put, List.getElem_toArray, List.getElem_cons_succ, List.getElem_cons_zero, List.setIfInBounds_toArray, List.set_cons_zero, List.set_cons_succ]
      rw [show osC [] (fun _ => true) V = [] from rfl] at hst
      have h22 := hst.facts (fs' := [IsCells g12 #[.slice r3 N2 q3], (IsPks · (.slice r3 N2 q3) (l.eraseIdx i)), IsCells w.heap.size #[.slice (some ⟨gc, oc, none⟩) N lq], (IsPks · (.slice (some ⟨gc, oc, none⟩) N lq) l)]) (fun P hP => by simp only [List.mem_cons, List.not_mem_nil, or_false] at hP ⊢; rcases hP with rfl | rfl | rfl | rfl <;> simp)
      clear hst h20  e0 e1 e2 e3 e4 e5 e6 e7 e8 e9 e10 e11 e12 e13 e14 e15
      go_wp2_with fail
      go_loopw [16] (fun c wr => ∃ j : Nat, j ≤ N2 ∧ c = .int .i64 j ∧ St w wr [] [IsCells g12 #[.slice r3 N2 q3], (IsPks · (.slice r3 N2 q3) (l.eraseIdx i)), IsCells w.heap.size #[.slice (some ⟨gc, oc, none⟩) N lq], (IsPks · (.slice (some ⟨gc, oc, none⟩) N lq) l)]) (fun c _ => N2 - (intOf c).toNat)
      case atStart => exact ⟨0, by omega, rfl, h22⟩
      case round =>
        clear h22
        obtain ⟨j, hj, rfl, hst⟩ := hrel
        by_cases hlt : j < N2
        · obtain ⟨gd, od, vd, qd, rfl, hvd, hrd⟩ := (hst.is 1 rfl : IsPks _ _ _).pks j (by rw [L2.out]; exact hlt)
          obtain ⟨y, hy⟩ : ∃ y, (l.eraseIdx i)[j]'(by rw [L2.out]; exact hlt) = y := ⟨_, rfl⟩
          rw [hy] at hvd hrd
          by_cases hij : i ≤ j
          · obtain ⟨jj, hjj⟩ : ∃ jj, jj = j + 1 := ⟨_, rfl⟩
            have hjN : jj < N := by omega
            have hy2 : l[jj]'(by rw [HN.out]; exact hjN) = y := (erase_hi _ _ hij hjj).symm.trans hy
            have hw3 : IntKind.i64.wrap ((j : Int) + 1) = (jj : Int) := by rw [IntKind.wrap_i64]; omega
            obtain ⟨ve, qe, hve, hre⟩ := (hst.is 3 rfl : IsPks _ _ _).pksS jj (by rw [HN.out]; exact hjN)
            rw [hy2] at hve hre
            clear hy hy2
            obtain ⟨y1, y2, y3, z1, z2, z3, z4, z5, z6, z7, z8⟩ := y
            simp only [Pk.cellsA] at hvd hrd hve hre
            obtain ⟨ky, hky⟩ : ∃ m, z8.length = m := ⟨_, rfl⟩
            rw [hky] at hvd hrd hve hre
            have HKY := Lib.hid hky
            have h23 := (((hst.keep (Mono.seq rdVal_up _ _) hvd).keep (Mono.range _ _ _) hrd).keep (Mono.seq rdVal_up _ _) hve).keep (Mono.range _ _ _) hre
            clear hst hvd hrd hve hre hky
            go_upto_region 25 with fail
            refine wp_region_st [pVal ?c25a_0, pVal (.slice (some ⟨gd, od, none⟩) N2 q3), pVal ?c25a_2, pVal (.pointer (some ⟨gd, od + j * 11, none⟩)), pVal (.agg #[.string y1, .bool y2, .int .i64 y3, .string z1, .int .i64 z2, .int .i64 z3, .int .i64 z4, .string z5, .string z6, .int .i64 z7, .slice vd ky qd]), pVal ?c25a_5, pVal (.slice (some ⟨gc, oc, none⟩) N lq), pVal ?c25a_7, pVal (.pointer (some ⟨gc, oc + jj * 11, none⟩)), pVal (.agg #[.string y1, .bool y2, .int .i64 y3, .string z1, .int .i64 z2, .int .i64 z3, .int .i64 z4, .string z5, .string z6, .int .i64 z7, .slice ve ky qe]), pVal (.bool true), pVal (.bool false)] (osC []) 193 [0, 1, 0, 7, 15, 0, 32, 0, 224, 480, 1023, 2047] [[], [(0, 180)], [], [(2, 182), (1, 181)], [(3, 183)], [], [(5, 185)], [], [(7, 187), (6, 186)], [(8, 188)], [(9, 189), (4, 184)], [(10, 190)]] [(0, 180), (1, 181), (2, 182), (3, 183), (4, 184), (5, 185), (6, 186), (7, 187), (8, 188), (9, 189), (10, 190), (11, 191)] (by kernel_rfl) (by kernel_rfl) rfl rfl h23 osC0 osC1 ?ob ?en
            case ob =>
              refine ⟨?_, ?_, ?_, ?_, ?_, ?_, ?_, ?_, ?_, ?_, ?_, ?_, trivial⟩
              · -- 0: t180 := Op.fieldAddr 24 (t12) 0
                intro zx1 zx2 zx3 zx4 L V W hL hd hw hst 
                refine ob_c rfl ?_ hst rfl
                go_simp
                try with_reducible rfl
              · -- 1: t181 := Op.load 22 (t180)
                intro zx1 zx2 zx3 zx4 L V W hL hd hw hst u0 e0 p0
                obtain rfl : u0 = _ := p0
                have hz := mask_is _ _ _ _ ((hst.base 4 rfl : IsCells _ _ _) 0 _ rfl)
                refine ob_c (by first | rfl | (simp [wantE, dstOf, zx1]; done)) ?_ hst rfl
                go_simp
                try with_reducible rfl
              · -- 2: t182 := Op.move (t16)
                intro zx1 zx2 zx3 zx4 L V W hL hd hw hst 
                refine ob_c rfl ?_ hst rfl
                go_simp
                try with_reducible rfl
              · -- 3: t183 := Op.indexAddr 22 (t181) (t182)
                intro zx1 zx2 zx3 zx4 L V W hL hd hw hst u1 e1 p1 u2 e2 p2
                obtain rfl : u1 = _ := p1
                obtain rfl : u2 = _ := p2
                refine ob_c (by first | rfl | (simp [wantE, dstOf, zx1]; done)) ?_ hst rfl
                go_simp
                all_goals (first | done | exact fun h => absurd h (by omega))
              · -- 4: t184 := Op.load 31 (t183)
                intro zx1 zx2 zx3 zx4 L V W hL hd hw hst u3 e3 p3
                obtain rfl : u3 = _ := p3
                exact ob_c (by first | rfl | (simp [wantE, dstOf, zx1]; done)) (run_load_mid rfl rfl ((hst.base 2 rfl : World.rangeAt _ _ _ _) |> Mono.range _ _ _ _ _ (mask_is _ _)) Try.underlying31 rfl rfl) hst rfl
              · -- 5: t185 := Op.fieldAddr 24 (t3) 0
                intro zx1 zx2 zx3 zx4 L V W hL hd hw hst 
                refine ob_c rfl ?_ hst rfl
                go_simp
                try with_reducible rfl
              · -- 6: t186 := Op.load 22 (t185)
                intro zx1 zx2 zx3 zx4 L V W hL hd hw hst u5 e5 p5
                obtain rfl : u5 = _ := p5
                have hz := mask_is _ _ _ _ ((hst.base 6 rfl : IsCells _ _ _) 0 _ rfl)
                refine ob_c (by first | rfl | (simp [wantE, dstOf, zx1]; done)) ?_ hst rfl
                go_simp
                try with_reducible rfl
              · -- 7: t187 := Op.move (t17)
                intro zx1 zx2 zx3 zx4 L V W hL hd hw hst 
                refine ob_c rfl ?_ hst rfl
                go_simp
                try with_reducible rfl
              · -- 8: t188 := Op.indexAddr 22 (t186) (t187)
                intro zx1 zx2 zx3 zx4 L V W hL hd hw hst u6 e6 p6 u7 e7 p7
                obtain rfl : u6 = _ := p6
                obtain rfl : u7 = _ := p7
                refine ob_c (by first | rfl | (simp [wantE, dstOf, zx1]; done)) ?_ hst rfl
                go_simp
                all_goals (first | done | exact fun h => absurd h (by omega))
              · -- 9: t189 := Op.load 31 (t188)
                intro zx1 zx2 zx3 zx4 L V W hL hd hw hst u8 e8 p8
                obtain rfl : u8 = _ := p8
                exact ob_c (by first | rfl | (simp [wantE, dstOf, zx1]; done)) (run_load_mid rfl rfl ((hst.base 0 rfl : World.rangeAt _ _ _ _) |> Mono.range _ _ _ _ _ (mask_is _ _)) Try.underlying31 rfl rfl) hst rfl
              · -- 10: t190 := Op.call { callee := value (func 13), args := #[t184, t189], argTypes := #[31, 31] }
                intro zx1 zx2 zx3 zx4 L V W hL hd hw hst u4 e4 p4 u9 e9 p9
                obtain rfl : u4 = _ := p4
                obtain rfl : u9 = _ := p9
                refine ob_call (by first | rfl | (simp [wantE, dstOf, zx1]; done)) ?_ (samePk_p hst (⟨y1, y2, y3, ⟨z1, z2, z3, z4, z5, z6, z7, z8⟩⟩ : Pk) (⟨y1, y2, y3, ⟨z1, z2, z3, z4, z5, z6, z7, z8⟩⟩ : Pk) ((hst.base 3 rfl : IsVals _ _ _).sub rdVal_up (mask_is _ _)) HKY.out ((hst.base 1 rfl : IsVals _ _ _).sub rdVal_up (mask_is _ _)) HKY.out (decide_eq_true rfl))
                go_simp
                try rfl
              · -- 11: t191 := Op.unOp UnOp.not 4 (t190)
                intro zx1 zx2 zx3 zx4 L V W hL hd hw hst u10 e10 p10
                obtain rfl : u10 = _ := p10
                refine ob_c (by first | rfl | (simp [wantE, dstOf, zx1]; done)) ?_ hst rfl
                go_simp
                all_goals (first | done | omega | (simp; omega) | (simp; done))
            case en =>
              intro V W hst u0 e0 p0 u1 e1 p1 u2 e2 p2 u3 e3 p3 u4 e4 p4 u5 e5 p5 u6 e6 p6 u7 e7 p7 u8 e8 p8 u9 e9 p9 u10 e10 p10 u11 e11 p11
              obtain rfl : u0 = _ := p0
              obtain rfl : u1 = _ := p1
              obtain rfl : u2 = _ := p2
              obtain rfl : u3 = _ := p3
              obtain rfl : u4 = _ := p4
              obtain rfl : u5 = _ := p5
              obtain rfl : u6 = _ := p6
              obtain rfl : u7 = _ := p7
              obtain rfl : u8 = _ := p8
              obtain rfl : u9 = _ := p9
              obtain rfl : u10 = _ := p10
              obtain rfl : u11 = _ := p11
              simp only [EndAll, Act.put, List.getElem_toArray, List.getElem_cons_succ, List.getElem_cons_zero, List.setIfInBounds_toArray, List.set_cons_zero, List.set_cons_succ]
              rw [show osC [] (fun _ => true) V = [] from rfl] at hst
              have h24 := hst.facts (fs' := [IsCells g12 #[.slice (some ⟨gd, od, none⟩) N2 q3], (IsPks · (.slice (some ⟨gd, od, none⟩) N2 q3) (l.eraseIdx i)), IsCells w.heap.size #[.slice (some ⟨gc, oc, none⟩) N lq], (IsPks · (.slice (some ⟨gc, oc, none⟩) N lq) l)]) (fun P hP => by simp only [List.mem_cons, List.not_mem_nil, or_false] at hP ⊢; rcases hP with rfl | rfl | rfl | rfl <;> simp)
              clear hst h23  e0 e1 e2 e3 e4 e5 e6 e7 e8 e9 e10 e11
              go_wp2_with fail
              go_roundw
              case rel => exact ⟨j + 1, by omega, by go_num, h24⟩
              case measure => simp [intOf]; omega
          · have hjN : j < N := by omega
            have hy2 : l[j]'(by rw [HN.out]; exact hjN) = y := (erase_lo _ _ hij).symm.trans hy
            obtain ⟨ve, qe, hve, hre⟩ := (hst.is 3 rfl : IsPks _ _ _).pksS j (by rw [HN.out]; exact hjN)
            rw [hy2] at hve hre
            clear hy hy2
            obtain ⟨y1, y2, y3, z1, z2, z3, z4, z5, z6, z7, z8⟩ := y
            simp only [Pk.cellsA] at hvd hrd hve hre
            obtain ⟨ky, hky⟩ : ∃ m, z8.length = m := ⟨_, rfl⟩
            rw [hky] at hvd hrd hve hre
            have HKY := Lib.hid hky
            have h23 := (((hst.keep (Mono.seq rdVal_up _ _) hvd).keep (Mono.range _ _ _) hrd).keep (Mono.seq rdVal_up _ _) hve).keep (Mono.range _ _ _) hre
            clear hst hvd hrd hve hre hky
            go_upto_region 25 with fail
            refine wp_region_st [pVal ?c25b_0, pVal (.slice (some ⟨gd, od, none⟩) N2 q3), pVal ?c25b_2, pVal (.pointer (some ⟨gd, od + j * 11, none⟩)), pVal (.agg #[.string y1, .bool y2, .int .i64 y3, .string z1, .int .i64 z2, .int .i64 z3, .int .i64 z4, .string z5, .string z6, .int .i64 z7, .slice vd ky qd]), pVal ?c25b_5, pVal (.slice (some ⟨gc, oc, none⟩) N lq), pVal ?c25b_7, pVal (.pointer (some ⟨gc, oc + j * 11, none⟩)), pVal (.agg #[.string y1, .bool y2, .int .i64 y3, .string z1, .int .i64 z2, .int .i64 z3, .int .i64 z4, .string z5, .string z6, .int .i64 z7, .slice ve ky qe]), pVal (.bool true), pVal (.bool false)] (osC []) 193 [0, 1, 0, 7, 15, 0, 32, 0, 224, 480, 1023, 2047] [[], [(0, 180)], [], [(2, 182), (1, 181)], [(3, 183)], [], [(5, 185)], [], [(7, 187), (6, 186)], [(8, 188)], [(9, 189), (4, 184)], [(10, 190)]] [(0, 180), (1, 181), (2, 182), (3, 183), (4, 184), (5, 185), (6, 186), (7, 187), (8, 188), (9, 189), (10, 190), (11, 191)] (by kernel_rfl) (by kernel_rfl) rfl rfl h23 osC0 osC1 ?ob ?en
            case ob =>
              refine ⟨?_, ?_, ?_, ?_, ?_, ?_, ?_, ?_, ?_, ?_, ?_, ?_, trivial⟩
              · -- 0: t180 := Op.fieldAddr 24 (t12) 0
                intro zx1 zx2 zx3 zx4 L V W hL hd hw hst 
                refine ob_c rfl ?_ hst rfl
                go_simp
                try with_reducible rfl
              · -- 1: t181 := Op.load 22 (t180)
                intro zx1 zx2 zx3 zx4 L V W hL hd hw hst u0 e0 p0
                obtain rfl : u0 = _ := p0
                have hz := mask_is _ _ _ _ ((hst.base 4 rfl : IsCells _ _ _) 0 _ rfl)
                refine ob_c (by first | rfl | (simp [wantE, dstOf, zx1]; done)) ?_ hst rfl
                go_simp
                try with_reducible rfl
              · -- 2: t182 := Op.move (t16)
                intro zx1 zx2 zx3 zx4 L V W hL hd hw hst 
                refine ob_c rfl ?_ hst rfl
                go_simp
                try with_reducible rfl
              · -- 3: t183 := Op.indexAddr 22 (t181) (t182)
                intro zx1 zx2 zx3 zx4 L V W hL hd hw hst u1 e1 p1 u2 e2 p2
                obtain rfl : u1 = _ := p1
                obtain rfl : u2 = _ := p2
                refine ob_c (by first | rfl | (simp [wantE, dstOf, zx1]; done)) ?_ hst rfl
                go_simp
                all_goals (first | done | exact fun h => absurd h (by omega))
              · -- 4: t184 := Op.load 31 (t183)
                intro zx1 zx2 zx3 zx4 L V W hL hd hw hst u3 e3 p3
                obtain rfl : u3 = _ := p3
                exact ob_c (by first | rfl | (simp [wantE, dstOf, zx1]; done)) (run_load_mid rfl rfl ((hst.base 2 rfl : World.rangeAt _ _ _ _) |> Mono.range _ _ _ _ _ (mask_is _ _)) Try.underlying31 rfl rfl) hst rfl
              · -- 5: t185 := Op.fieldAddr 24 (t3) 0
                intro zx1 zx2 zx3 zx4 L V W hL hd hw hst 
                refine ob_c rfl ?_ hst rfl
                go_simp
                try with_reducible rfl
              · -- 6: t186 := Op.load 22 (t185)
                intro zx1 zx2 zx3 zx4 L V W hL hd hw hst u5 e5 p5
                obtain rfl : u5 = _ := p5
                have hz := mask_is _ _ _ _ ((hst.base 6 rfl : IsCells _ _ _) 0 _ rfl)
                refine ob_c (by first | rfl | (simp [wantE, dstOf, zx1]; done)) ?_ hst rfl
                go_simp
                try with_reducible rfl
              · -- 7: t187 := Op.move (t17)
                intro zx1 zx2 zx3 zx4 L V W hL hd hw hst 
                refine ob_c rfl ?_ hst rfl
                go_simp
                try with_reducible rfl
              · -- 8: t188 := Op.indexAddr 22 (t186) (t187)
                intro zx1 zx2 zx3 zx4 L V W hL hd hw hst u6 e6 p6 u7 e7 p7
                obtain rfl : u6 = _ := p6
                obtain rfl : u7 = _ := p7
                refine ob_c (by first | rfl | (simp [wantE, dstOf, zx1]; done)) ?_ hst rfl
                go_simp
                all_goals (first | done | exact fun h => absurd h (by omega))
              · -- 9: t189 := Op.load 31 (t188)
                intro zx1 zx2 zx3 zx4 L V W hL hd hw hst u8 e8 p8
                obtain rfl : u8 = _ := p8
                exact ob_c (by first | rfl | (simp [wantE, dstOf, zx1]; done)) (run_load_mid rfl rfl ((hst.base 0 rfl : World.rangeAt _ _ _ _) |> Mono.range _ _ _ _ _ (mask_is _ _)) Try.underlying31 rfl rfl) hst rfl
              · -- 10: t190 := Op.call { callee := value (func 13), args := #[t184, t189], argTypes := #[31, 31] }
                intro zx1 zx2 zx3 zx4 L V W hL hd hw hst u4 e4 p4 u9 e9 p9
                obtain rfl : u4 = _ := p4
                obtain rfl : u9 = _ := p9
                refine ob_call (by first | rfl | (simp [wantE, dstOf, zx1]; done)) ?_ (samePk_p hst (⟨y1, y2, y3, ⟨z1, z2, z3, z4, z5, z6, z7, z8⟩⟩ : Pk) (⟨y1, y2, y3, ⟨z1, z2, z3, z4, z5, z6, z7, z8⟩⟩ : Pk) ((hst.base 3 rfl : IsVals _ _ _).sub rdVal_up (mask_is _ _)) HKY.out ((hst.base 1 rfl : IsVals _ _ _).sub rdVal_up (mask_is _ _)) HKY.out (decide_eq_true rfl))
                go_simp
                try rfl
              · -- 11: t191 := Op.unOp UnOp.not 4 (t190)
                intro zx1 zx2 zx3 zx4 L V W hL hd hw hst u10 e10 p10
                obtain rfl : u10 = _ := p10
                refine ob_c (by first | rfl | (simp [wantE, dstOf, zx1]; done)) ?_ hst rfl
                go_simp
                all_goals (first | done | omega | (simp; omega) | (simp; done))
            case en =>
              intro V W hst u0 e0 p0 u1 e1 p1 u2 e2 p2 u3 e3 p3 u4 e4 p4 u5 e5 p5 u6 e6 p6 u7 e7 p7 u8 e8 p8 u9 e9 p9 u10 e10 p10 u11 e11 p11
              obtain rfl : u0 = _ := p0
              obtain rfl : u1 = _ := p1
              obtain rfl : u2 = _ := p2
              obtain rfl : u3 = _ := p3
              obtain rfl : u4 = _ := p4
              obtain rfl : u5 = _ := p5
              obtain rfl : u6 = _ := p6
              obtain rfl : u7 = _ := p7
              obtain rfl : u8 = _ := p8
              obtain rfl : u9 = _ := p9
              obtain rfl : u10 = _ := p10
              obtain rfl : u11 = _ := p11
              simp only [EndAll, Act.put, List.getElem_toArray, List.getElem_cons_succ, List.getElem_cons_zero, List.setIfInBounds_toArray, List.set_cons_zero, List.set_cons_succ]
              rw [show osC [] (fun _ => true) V = [] from rfl] at hst
              have h24 := hst.facts (fs' := [IsCells g12 #[.slice (some ⟨gd, od, none⟩) N2 q3], (IsPks · (.slice (some ⟨gd, od, none⟩) N2 q3) (l.eraseIdx i)), IsCells w.heap.size #[.slice (some ⟨gc, oc, none⟩) N lq], (IsPks · (.slice (some ⟨gc, oc, none⟩) N lq) l)]) (fun P hP => by simp only [List.mem_cons, List.not_mem_nil, or_false] at hP ⊢; rcases hP with rfl | rfl | rfl | rfl <;> simp)
              clear hst h23  e0 e1 e2 e3 e4 e5 e6 e7 e8 e9 e10 e11
              go_wp2_with fail
              go_roundw
              case rel => exact ⟨j + 1, by omega, by go_num, h24⟩
              case measure => simp [intOf]; omega
        · obtain rfl : j = N2 := by omega
          go_wp2_with fail
          go_ret
          exact ⟨rfl, hst.below⟩
end Go.Proofs.Ytihohhjaomoemaa
