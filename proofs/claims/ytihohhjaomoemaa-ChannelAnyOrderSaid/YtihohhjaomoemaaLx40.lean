/- The walk over ChannelExchange. -/
import Derived.Test.YtihohhjaomoemaaLq40
set_option linter.unusedVariables false
set_option linter.unusedSimpArgs false
namespace Go.Proofs.Ytihohhjaomoemaa
open Go Go.RowKit

theorem cell_at {W : World} {g : Nat} {a : Value} {t : TypeId} (h : W.heap[g]? = some (.cells #[a] t (0, 0))) : W.cell? ⟨g, 0, none⟩ = some a := by rw [cell_of_row _ _ _ _ _ _ h]; rfl
set_option maxRecDepth 8000 in
set_option maxHeartbeats 8000000 in
theorem exchange_walk (w : World) (hm : HasMax w) (l : List Pk) (lb : Option Addr) (lq : Nat) (hl : IsPks w (.slice lb l.length lq) l) (n : Int) (hn64 : -9223372036854775808 ≤ n ∧ n ≤ 9223372036854775807) (m' : Int) (hm64 : -9223372036854775808 ≤ m' ∧ m' ≤ 9223372036854775807) :
    Calls Try.prog 5 #[.agg #[.slice lb l.length lq], .int .i64 n, .int .i64 m'] w fun e w' => e = .returned (.bool true) ∧ Below w.heap.size w w' := by
  obtain ⟨N, hN⟩ : ∃ N, l.length = N := ⟨_, rfl⟩
  have hn63 : N ≤ 9223372036854775807 := by obtain ⟨_, _, e, q1, q2, -⟩ := hl.shape; unfold maxLen at q2; omega
  rw [hN] at hl ⊢
  have HN := Lib.hid hN
  clear hN
  have h0 := (((St.start w).putOld hasMax_mono hm).putOld (P := (IsPks · (.slice lb N lq) l)) (Mono.seq rdPk_up _ _) hl).boxC #[.slice lb N lq] 24
  clear hl
  go_enter Try.func5, Try.ntmps5
  go_wp2_with fail
  refine (Calls.sV h0 (example_any _ (h0.is 2 rfl))).mono ?_
  rintro e w1 ⟨rfl, h1⟩
  clear h0
  obtain ⟨ck, hck⟩ : ∃ c, chCheck l = c := ⟨_, rfl⟩
  have HCK := Lib.hid hck
  have c0 := (h1.is 0 rfl : IsCells _ _ _).c1
  go_wp2_with fail
  refine (refChCheck_c h1 (h1.is 1 rfl) HN.out hck).mono ?_
  rintro e w2 ⟨rfl, h2⟩
  clear h1 hck c0
  have c0 := (h2.is 0 rfl : IsCells _ _ _).c1
  by_cases hk : ck = 0
  case neg =>
    have hk' := bne_of hk
    clear HCK
    go_wp2_with fail
    go_ret
    exact ⟨rfl, h2.below⟩
  subst hk
  by_cases hn0 : n < 0
  · go_wp2_with fail
    go_ret
    exact ⟨rfl, h2.below⟩
  by_cases hmn : m' ≤ n
  · go_wp2_with fail
    go_ret
    exact ⟨rfl, h2.below⟩
  by_cases hml : (N : Int) ≤ m'
  · go_wp2_with fail
    go_ret
    exact ⟨rfl, h2.below⟩
  obtain ⟨i, rfl⟩ : ∃ i : Nat, n = (i : Int) := ⟨n.toNat, by omega⟩
  obtain ⟨j, rfl⟩ : ∃ j : Nat, m' = (j : Int) := ⟨m'.toNat, by omega⟩
  have hij : i < j := by omega
  have hjN : j < N := by omega
  have hle : N ≤ 1024 := by have := chk_len HCK.out; rw [HN.out] at this; exact this
  have hjl : j < l.length := by rw [HN.out]; exact hjN
  have hil : i < l.length := by omega
  have r1 := dropR_in hjl
  have r2 := delR_in (l := l.eraseIdx j) (i := i) (by rw [erase_len HN.out hjN]; omega)
  have r3 := delR_in hil
  have r4 := dropR_in (l := l.eraseIdx i) (i := j - 1) (by rw [erase_len HN.out (by omega)]; omega)
  have r5 := copyR_in hil
  rw [sendR_ok (chk_all HCK.out _ (List.getElem_mem hil)), HN.out] at r5
  have r6 := dropR_in (l := l ++ [l[i]]) (i := N) (by rw [List.length_append, HN.out]; simp)
  rw [show (l ++ [l[i]]).eraseIdx N = l from by rw [← HN.out]; exact erase_last _ _] at r6
  rw [getElem_erase_lt _ hij hjl] at r2
  rw [erase_comm _ hij] at r4
  have len1 := erase_len HN.out hjN
  have len2 := erase_len len1 (i := i) (by omega)
  have len3 := erase_len HN.out (i := i) (by omega)
  have len6 : (l ++ [l[i]]).length = N + 1 := by rw [List.length_append, HN.out]; rfl
  have e4 : ((j - 1 : Nat) : Int) = (j : Int) - 1 := by omega
  rw [e4] at r4
  generalize (l.eraseIdx j).eraseIdx i = l2 at *
  generalize l.eraseIdx j = l1 at *
  generalize l.eraseIdx i = l3 at *
  obtain ⟨p, hp⟩ : ∃ p, l[i] = p := ⟨_, rfl⟩
  rw [hp] at r2 r3 r5 r6 len6
  obtain ⟨a1, a2, a3, f1, f2, f3, f4, f5, f6, f7, f8⟩ := p
  obtain ⟨m, hmm⟩ : ∃ m, f8.length = m := ⟨_, rfl⟩
  have hle2 : N ≤ 1048576 := by omega
  have hle3 : N - 1 ≤ 1048576 := by omega
  have hle4 : N + 1 ≤ 1048576 := by omega
  have R1 := Lib.hid r1
  have R2 := Lib.hid r2
  have R3 := Lib.hid r3
  have R4 := Lib.hid r4
  have R5 := Lib.hid r5
  have R6 := Lib.hid r6
  have L1 := Lib.hid len1
  have L2 := Lib.hid len2
  have L3 := Lib.hid len3
  have L6 := Lib.hid len6
  have HMM := Lib.hid hmm
  have hjw : IntKind.i64.wrap ((j : Int) - 1) = (j : Int) - 1 := by rw [IntKind.wrap_i64]; omega
  clear r1 r2 r3 r4 r5 r6 len1 len2 len3 len6 hmm hp e4 hil hjl HCK
  go_wp2_with fail
  refine (drop_s h2 j (h2.get 1 rfl) HN.out hle2 R1.out L1.out).mono ?_
  rintro e w3 ⟨b1, q1, rfl, h3⟩
  clear h2 c0
  go_upto_region 5 with fail
  have h4 := h3.alloc (.cells #[.slice b1 (N - 1) q1] 24)
  clear h3
  generalize World.alloc _ _ = W4 at h4 ⊢
  generalize w3.heap.size = g8 at h4 ⊢
  have d0 := cell_at (h4.at_ 0 rfl)
  go_wp2_with fail
  refine (deliver_s h4 i (h4.get 0 rfl) L1.out hle3 R2.out L2.out HMM.out).mono ?_
  rintro e w5 ⟨b2, q2, va, qa, rfl, h5⟩
  clear h4 d0
  simp only [Pk.val, Pk.cellsA] at h5 ⊢
  go_upto_region 6 with (first
    | (refine wpList_store_row rfl 24 (.tmp 8) (.tmp 50) rfl g8 #[.slice b2 (N - 1 - 1) q2] rfl rfl 24 _ ((h5.alloc (.cells #[.string ⟨#[]⟩, .bool false, .int .i64 0, .string ⟨#[]⟩, .int .i64 0, .int .i64 0, .int .i64 0, .string ⟨#[]⟩, .string ⟨#[]⟩, .int .i64 0, .slice none 0 0] 31)).at_ 1 rfl) ch_info rfl (ch_one _ _ _) ?_)
    | (refine wpList_store_row rfl 31 (.tmp 10) (.tmp 51) rfl w5.heap.size #[.string a1, .bool a2, .int .i64 a3, .string f1, .int .i64 f2, .int .i64 f3, .int .i64 f4, .string f5, .string f6, .int .i64 f7, .slice va m qa] rfl rfl 31 _ (((h5.alloc (.cells #[.string ⟨#[]⟩, .bool false, .int .i64 0, .string ⟨#[]⟩, .int .i64 0, .int .i64 0, .int .i64 0, .string ⟨#[]⟩, .string ⟨#[]⟩, .int .i64 0, .slice none 0 0] 31)).setRow (os1 := [_]) (cs' := #[.slice b2 (N - 1 - 1) q2])).at_ 0 rfl) pk_size rfl (pk_one _ _ _ _ _ _ _ _ _ _ _ _ _) ?_))
  have h6 := ((h5.alloc (.cells #[.string ⟨#[]⟩, .bool false, .int .i64 0, .string ⟨#[]⟩, .int .i64 0, .int .i64 0, .int .i64 0, .string ⟨#[]⟩, .string ⟨#[]⟩, .int .i64 0, .slice none 0 0] 31)).setRow (os1 := [_]) (cs' := #[.slice b2 (N - 1 - 1) q2])).setRow (os1 := []) (cs' := #[.string a1, .bool a2, .int .i64 a3, .string f1, .int .i64 f2, .int .i64 f3, .int .i64 f4, .string f5, .string f6, .int .i64 f7, .slice va m qa])
  clear h5
  generalize World.setRow _ _ _ = W6 at h6 ⊢
  generalize w5.heap.size = g10 at h6 ⊢
  have x10 := isCells_of (h6.at_ 0 rfl)
  have x8 := isCells_of (h6.at_ 1 rfl)
  have h7 := (((h6.loose (os1 := [])).loose (os1 := [])).keep (Mono.cells _ _) x8).keep (Mono.cells _ _) x10
  clear h6 x8 x10
  have c0 := (h7.is 5 rfl : IsCells _ _ _).c1
  go_wp2_with fail
  refine (deliver_c h7 i (h7.is 6 rfl) HN.out hle2 R3.out L3.out HMM.out).mono ?_
  rintro e w8 ⟨b3, q3, ua, pa, rfl, h8⟩
  clear h7 c0
  simp only [Pk.val, Pk.cellsA] at h8 ⊢
  go_upto_region 7 with fail
  have h9 := (h8.alloc (.cells #[.slice b3 (N - 1) q3] 24)).alloc (.cells #[.string a1, .bool a2, .int .i64 a3, .string f1, .int .i64 f2, .int .i64 f3, .int .i64 f4, .string f5, .string f6, .int .i64 f7, .slice ua m pa] 31)
  simp only [al_size] at h9
  clear h8
  generalize World.alloc (World.alloc _ _) _ = W9 at h9 ⊢
  have d0 := cell_at (h9.at_ 1 rfl)
  go_wp2_with fail
  refine (drop_s h9 ((j : Int) - 1) (h9.get 1 rfl) L3.out hle3 R4.out L2.out).mono ?_
  rintro e w10 ⟨b4, q4, rfl, h10⟩
  clear h9 d0
  go_upto_region 8 with (refine wpList_store_row rfl 24 (.tmp 12) (.tmp 65) rfl w8.heap.size #[.slice b4 (N - 1 - 1) q4] rfl rfl 24 _ (h10.at_ 1 rfl) ch_info rfl (ch_one _ _ _) ?_)
  have h11 := h10.setRow (os1 := [_]) (cs' := #[.slice b4 (N - 1 - 1) q4])
  clear h10
  generalize World.setRow _ _ _ = W11 at h11 ⊢
  have x13 := isCells_of (h11.at_ 0 rfl)
  have x12 := isCells_of (h11.at_ 1 rfl)
  have h12 := (((h11.loose (os1 := [])).loose (os1 := [])).keep (Mono.cells _ _) x12).keep (Mono.cells _ _) x13
  clear h11 x12 x13
  have c8 := (h12.is 6 rfl : IsCells _ _ _).c1
  have c12 := (h12.is 1 rfl : IsCells _ _ _).c1
  go_wp2_with fail
  refine (sameCh_c h12 (h12.is 8 rfl) L2.out (h12.is 2 rfl) L2.out (decide_eq_true rfl)).mono ?_
  rintro e w13 ⟨rfl, h13⟩
  clear h12 c8 c12
  obtain ⟨k0, k1, k2, k3, k4, k5, k6, k7, k8, k9, k10⟩ := (h13.is 5 rfl : IsCells _ _ _).c11
  obtain ⟨y0, y1, y2, y3, y4, y5, y6, y7, y8, y9, y10⟩ := (h13.is 0 rfl : IsCells _ _ _).c11
  go_wp2_with fail
  refine (samePk_c h13 (⟨a1, a2, a3, ⟨f1, f2, f3, f4, f5, f6, f7, f8⟩⟩ : Pk) (⟨a1, a2, a3, ⟨f1, f2, f3, f4, f5, f6, f7, f8⟩⟩ : Pk) (h13.is 7 rfl) HMM.out (h13.is 3 rfl) HMM.out (decide_eq_true rfl)).mono ?_
  rintro e w14 ⟨rfl, h14⟩
  clear h13 k0 k1 k2 k3 k4 k5 k6 k7 k8 k9 k10 y0 y1 y2 y3 y4 y5 y6 y7 y8 y9 y10
  have c0 := (h14.is 10 rfl : IsCells _ _ _).c1
  by_cases hlim : 1024 ≤ N
  · obtain rfl : N = 1024 := by omega
    go_wp2_with fail
    refine (copy_c h14 (h14.is 12 rfl) i (h14.is 11 rfl) HN.out hle2 (l2 := []) (c := 2) (by rw [R5.out, if_pos (by omega)]) rfl).mono ?_
    rintro e w15 ⟨b5, q5, rfl, h15⟩
    clear h14 c0
    go_upto_region 11 with fail
    have h16 := h15.boxC #[.slice b5 0 q5] 24
    clear h15
    generalize World.alloc _ _ = W16 at h16 ⊢
    have c0 := (h16.is 12 rfl : IsCells _ _ _).c1
    go_wp2_with fail
    go_ret
    exact ⟨rfl, h16.below⟩
  · go_wp2_with fail
    refine (copy_c h14 (h14.is 12 rfl) i (h14.is 11 rfl) HN.out hle2 (l2 := l ++ [(⟨a1, a2, a3, ⟨f1, f2, f3, f4, f5, f6, f7, f8⟩⟩ : Pk)]) (c := 0) (by rw [R5.out, if_neg hlim]) L6.out).mono ?_
    rintro e w15 ⟨b5, q5, rfl, h15⟩
    clear h14 c0
    go_upto_region 11 with fail
    have h16 := h15.alloc (.cells #[.slice b5 (N + 1) q5] 24)
    clear h15
    generalize World.alloc _ _ = W16 at h16 ⊢
    have c0 := (h16.is 11 rfl : IsCells _ _ _).c1
    have d0 := cell_at (h16.at_ 0 rfl)
    have hne : ((N : Int) == 1024) = false := by simp; omega
    go_wp2_with fail
    refine (drop_s h16 (N : Int) (h16.get 0 rfl) L6.out hle4 R6.out HN.out).mono ?_
    rintro e w17 ⟨b6, q6, rfl, h17⟩
    clear h16 c0 d0
    go_upto_region 14 with (refine wpList_store_row rfl 24 (.tmp 16) (.tmp 114) rfl w15.heap.size #[.slice b6 N q6] rfl rfl 24 _ (h17.at_ 0 rfl) ch_info rfl (ch_one _ _ _) ?_)
    have h18 := h17.setRow (os1 := []) (cs' := #[.slice b6 N q6])
    clear h17
    generalize World.setRow _ _ _ = W18 at h18 ⊢
    have x16 := isCells_of (h18.at_ 0 rfl)
    have h19 := (h18.loose (os1 := [])).keep (Mono.cells _ _) x16
    clear h18 x16
    have c16 := (h19.is 0 rfl : IsCells _ _ _).c1
    have c0 := (h19.is 13 rfl : IsCells _ _ _).c1
    go_wp2_with fail
    refine (sameCh_c h19 (h19.is 1 rfl) HN.out (h19.is 14 rfl) HN.out (decide_eq_true rfl)).mono ?_
    rintro e w20 ⟨rfl, h20⟩
    clear h19 c0 c16
    go_wp2_with fail
    go_ret
    exact ⟨rfl, h20.below⟩
end Go.Proofs.Ytihohhjaomoemaa
