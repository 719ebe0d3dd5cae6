/- The walk over ChannelPackets. -/
import Derived.Test.YtihohhjaomoemaaEx40
set_option linter.unusedVariables false
set_option linter.unusedSimpArgs false
namespace Go.Proofs.Ytihohhjaomoemaa
open Go Go.RowKit

theorem same_c {w0 W : World} {fs : List (World → Prop)} (h : St w0 W [] fs) (a b : Fc) {ab bb : Option Addr} {aq bq n m : Nat} (ha : IsVals W (.slice ab n aq) a.fields) (han : a.fields.length = n) (hb : IsVals W (.slice bb m bq) b.fields) (hbm : b.fields.length = m) {r : Bool} (hr : decide (a = b) = r) :
    Calls Try.prog 17 #[a.val (.slice ab n aq), b.val (.slice bb m bq)] W fun e w' => e = .returned (.bool r) ∧ St w0 w' [] fs := by
  subst han hbm hr
  exact Calls.sV h (same_any W a b ab bb aq bq ha hb)
theorem send_no {l : List Pk} {p : Pk} (h : p.formed = false) : sendR l p = ([], 1) := by unfold sendR; rw [if_pos h]
theorem send_one {p : Pk} (h : p.formed = true) : sendR [] p = ([p], 0) := by unfold sendR; rw [if_neg (by rw [h]; decide), if_neg (by simp)]; rfl
theorem del_one (p : Pk) : delR [p] 0 = ([], p, 0) := by unfold delR; rw [if_pos ⟨by decide, by simp⟩]; rfl
theorem name_ne {s : ByteArray} (h : isName s = true) : s.toList.isEmpty = false := toList_ne (by
  unfold isName at h
  simp only [Bool.and_eq_true, decide_eq_true_eq] at h
  exact h.1.1.1)

set_option maxRecDepth 8000 in
set_option maxHeartbeats 8000000 in
theorem packets_walk (w : World) (hm : HasMax w) (p : Pk) (vb : Option Addr) (vq : Nat) (hp : IsVals w (.slice vb p.fact.fields.length vq) p.fact.fields) :
    Calls Try.prog 6 #[p.val (.slice vb p.fact.fields.length vq)] w fun e w' => e = .returned (.bool true) ∧ Below w.heap.size w w' := by
  obtain ⟨fm, hfm⟩ : ∃ b, p.formed = b := ⟨_, rfl⟩
  have hsr := @send_no [] p
  have hs1 := @send_one p
  have hd1 := del_one p
  rw [hfm] at hsr hs1
  have hff : fm = (isName p.src && (if p.ack then decide (1 ≤ p.next) && decide (p.next ≤ 1099511627777) && decide (p.fact = Fc.zero) else (p.next == 0) && (p.fact.src.toList == p.src.toList))) := by rw [← hfm]; rfl
  clear hfm
  obtain ⟨a1, a2, a3, f1, f2, f3, f4, f5, f6, f7, f8⟩ := p
  obtain ⟨bare, hbr⟩ : ∃ b, decide ((⟨f1, f2, f3, f4, f5, f6, f7, f8⟩ : Fc) = Fc.zero) = b := ⟨_, rfl⟩
  simp only [Pk.val, Pk.cellsA] at hp ⊢
  simp only [hbr] at hff
  obtain ⟨m, hmm⟩ : ∃ m, f8.length = m := ⟨_, rfl⟩
  rw [hmm] at hp ⊢
  have HMM := Lib.hid hmm
  have HSR := Lib.hid hsr
  have HS1 := Lib.hid hs1
  have HD1 := Lib.hid hd1
  have HFF := Lib.hid hff
  have HBR := Lib.hid hbr
  have h0 := (((St.start w).putOld hasMax_mono hm).putOld (P := (IsVals · (.slice vb m vq) f8)) (Mono.seq rdVal_up _ _) hp).boxC #[.string a1, .bool a2, .int .i64 a3, .string f1, .int .i64 f2, .int .i64 f3, .int .i64 f4, .string f5, .string f6, .int .i64 f7, .slice vb m vq] 31
  clear hp hmm hsr hs1 hd1 hff hbr
  go_enter Try.func6, Try.ntmps6
  go_wp2_with fail
  refine (Calls.sV h0 (example_any _ (h0.is 2 rfl))).mono ?_
  rintro e w1 ⟨rfl, h1⟩
  clear h0
  go_wp2_with (refine wpList_load_mid rfl 31 (.tmp 1) rfl w.heap.size 0 rfl [.string a1, .bool a2, .int .i64 a3, .string f1, .int .i64 f2, .int .i64 f3, .int .i64 f4, .string f5, .string f6, .int .i64 f7, .slice vb m vq] _ (h1.is 0 rfl : IsCells _ _ _).range Try.underlying31 rfl rfl ?_)
  cases fm with
  | false =>
    refine (send_c h1 (h1.is 2 rfl) (⟨a1, a2, a3, ⟨f1, f2, f3, f4, f5, f6, f7, f8⟩⟩ : Pk) (lb := none) (lq := 0) (IsSeq.nil _ _ _) rfl (h1.is 1 rfl) HMM.out (HSR.out rfl) rfl).mono ?_
    rintro e w2 ⟨b1, q1, rfl, h2⟩
    clear h1
    simp only [List.length_nil] at h2 ⊢
    go_upto_region 3 with fail
    have h3 := h2.boxC #[.slice b1 0 q1] 24
    clear h2
    generalize World.alloc _ _ = W3 at h3 ⊢
    generalize w2.heap.size = g1 at h3 ⊢
    obtain ⟨c0, c1, c2, c3, c4, c5, c6, c7, c8, c9, c10⟩ := (h3.is 2 rfl : IsCells _ _ _).c11
    go_wp2_with fail
    refine (same_c h3 ⟨f1, f2, f3, f4, f5, f6, f7, f8⟩ Fc.zero (bb := none) (bq := 0) (h3.is 3 rfl) HMM.out (IsSeq.nil _ _ _) rfl HBR.out).mono ?_
    rintro e w4 ⟨rfl, h4⟩
    clear h3 c0 c1 c2 c3 c4 c5 c6 c7 c8 c9 c10
    have d0 := (h4.is 0 rfl : IsCells _ _ _).c1
    go_wp2_with fail
    go_ret
    exact ⟨rfl, h4.below⟩
  | true =>
    refine (send_c h1 (h1.is 2 rfl) (⟨a1, a2, a3, ⟨f1, f2, f3, f4, f5, f6, f7, f8⟩⟩ : Pk) (lb := none) (lq := 0) (IsSeq.nil _ _ _) rfl (h1.is 1 rfl) HMM.out (HS1.out rfl) rfl).mono ?_
    rintro e w2 ⟨b1, q1, rfl, h2⟩
    clear h1
    rw [show ([(⟨a1, a2, a3, ⟨f1, f2, f3, f4, f5, f6, f7, f8⟩⟩ : Pk)] : List Pk).length = 1 from rfl] at h2 ⊢
    go_upto_region 3 with fail
    have h3 := h2.boxC #[.slice b1 1 q1] 24
    clear h2
    generalize World.alloc _ _ = W3 at h3 ⊢
    generalize w2.heap.size = g1 at h3 ⊢
    obtain ⟨c0, c1, c2, c3, c4, c5, c6, c7, c8, c9, c10⟩ := (h3.is 2 rfl : IsCells _ _ _).c11
    go_wp2_with fail
    refine (same_c h3 ⟨f1, f2, f3, f4, f5, f6, f7, f8⟩ Fc.zero (bb := none) (bq := 0) (h3.is 3 rfl) HMM.out (IsSeq.nil _ _ _) rfl HBR.out).mono ?_
    rintro e w4 ⟨rfl, h4⟩
    clear h3 c0 c1 c2 c3 c4 c5 c6 c7 c8 c9 c10
    have hff := HFF.out
    have hna : isName a1 = true := by
      cases hq : isName a1 with
      | true => rfl
      | false => rw [hq] at hff; simp at hff
    have hne := name_ne hna
    rw [hna, Bool.true_and] at hff
    obtain ⟨c0, c1, c2, c3, c4, c5, c6, c7, c8, c9, c10⟩ := (h4.is 2 rfl : IsCells _ _ _).c11
    have d0 := (h4.is 0 rfl : IsCells _ _ _).c1
    cases a2 with
    | true =>
      simp only [if_true] at hff
      replace hff := hff.symm
      simp only [Bool.and_eq_true, decide_eq_true_eq] at hff
      obtain ⟨⟨hlo, -⟩, rfl⟩ := hff
      have hlo2 : ¬ a3 < 1 := by omega
      clear HFF hna
      go_wp2_with fail
      refine (deliver_c h4 0 (l := [(⟨a1, true, a3, ⟨f1, f2, f3, f4, f5, f6, f7, f8⟩⟩ : Pk)]) (h4.is 1 rfl) rfl (by decide) HD1.out rfl HMM.out).mono ?_
      rintro e w5 ⟨b5, q5, ub, uq, rfl, h5⟩
      clear h4 c0 c1 c2 c3 c4 c5 c6 c7 c8 c9 c10 d0
      simp only [Pk.val, Pk.cellsA, List.length_nil] at h5 ⊢
      go_upto_region 9 with fail
      have h6 := (h5.boxC #[.slice b5 0 q5] 24).boxC #[.string a1, .bool true, .int .i64 a3, .string f1, .int .i64 f2, .int .i64 f3, .int .i64 f4, .string f5, .string f6, .int .i64 f7, .slice ub m uq] 31
      simp only [al_size] at h6
      clear h5
      generalize World.alloc (World.alloc _ _) _ = W6 at h6 ⊢
      obtain ⟨c0, c1, c2, c3, c4, c5, c6, c7, c8, c9, c10⟩ := (h6.is 6 rfl : IsCells _ _ _).c11
      obtain ⟨e0, e1, e2, e3, e4, e5, e6, e7, e8, e9, e10⟩ := (h6.is 0 rfl : IsCells _ _ _).c11
      have d0 := (h6.is 1 rfl : IsCells _ _ _).c1
      go_wp2_with fail
      refine (same_c h6 ⟨f1, f2, f3, f4, f5, f6, f7, f8⟩ ⟨f1, f2, f3, f4, f5, f6, f7, f8⟩ (h6.is 7 rfl) HMM.out (h6.is 2 rfl) HMM.out (decide_eq_true rfl)).mono ?_
      rintro e w7 ⟨rfl, h7⟩
      clear h6 c0 c1 c2 c3 c4 c5 c6 c7 c8 c9 c10 e0 e1 e2 e3 e4 e5 e6 e7 e8 e9 e10 d0
      obtain ⟨c0, c1, c2, c3, c4, c5, c6, c7, c8, c9, c10⟩ := (h7.is 6 rfl : IsCells _ _ _).c11
      obtain ⟨e0, e1, e2, e3, e4, e5, e6, e7, e8, e9, e10⟩ := (h7.is 0 rfl : IsCells _ _ _).c11
      go_wp2_with fail
      go_ret
      exact ⟨rfl, h7.below⟩
    | false =>
      simp only [Bool.false_eq_true, if_false] at hff
      replace hff := hff.symm
      simp only [Bool.and_eq_true, beq_iff_eq] at hff
      obtain ⟨rfl, hsrc⟩ := hff
      have hsrc2 := toList_inj.1 hsrc
      subst hsrc2
      clear HFF hna hsrc
      go_wp2_with fail
      refine (deliver_c h4 0 (l := [(⟨f1, false, 0, ⟨f1, f2, f3, f4, f5, f6, f7, f8⟩⟩ : Pk)]) (h4.is 1 rfl) rfl (by decide) HD1.out rfl HMM.out).mono ?_
      rintro e w5 ⟨b5, q5, ub, uq, rfl, h5⟩
      clear h4 c0 c1 c2 c3 c4 c5 c6 c7 c8 c9 c10 d0
      simp only [Pk.val, Pk.cellsA, List.length_nil] at h5 ⊢
      go_upto_region 9 with fail
      have h6 := (h5.boxC #[.slice b5 0 q5] 24).boxC #[.string f1, .bool false, .int .i64 0, .string f1, .int .i64 f2, .int .i64 f3, .int .i64 f4, .string f5, .string f6, .int .i64 f7, .slice ub m uq] 31
      simp only [al_size] at h6
      clear h5
      generalize World.alloc (World.alloc _ _) _ = W6 at h6 ⊢
      obtain ⟨c0, c1, c2, c3, c4, c5, c6, c7, c8, c9, c10⟩ := (h6.is 6 rfl : IsCells _ _ _).c11
      obtain ⟨e0, e1, e2, e3, e4, e5, e6, e7, e8, e9, e10⟩ := (h6.is 0 rfl : IsCells _ _ _).c11
      have d0 := (h6.is 1 rfl : IsCells _ _ _).c1
      go_wp2_with fail
      refine (same_c h6 ⟨f1, f2, f3, f4, f5, f6, f7, f8⟩ ⟨f1, f2, f3, f4, f5, f6, f7, f8⟩ (h6.is 7 rfl) HMM.out (h6.is 2 rfl) HMM.out (decide_eq_true rfl)).mono ?_
      rintro e w7 ⟨rfl, h7⟩
      clear h6 c0 c1 c2 c3 c4 c5 c6 c7 c8 c9 c10 e0 e1 e2 e3 e4 e5 e6 e7 e8 e9 e10 d0
      obtain ⟨c0, c1, c2, c3, c4, c5, c6, c7, c8, c9, c10⟩ := (h7.is 6 rfl : IsCells _ _ _).c11
      obtain ⟨e0, e1, e2, e3, e4, e5, e6, e7, e8, e9, e10⟩ := (h7.is 0 rfl : IsCells _ _ _).c11
      go_wp2_with fail
      go_ret
      exact ⟨rfl, h7.below⟩
end Go.Proofs.Ytihohhjaomoemaa
