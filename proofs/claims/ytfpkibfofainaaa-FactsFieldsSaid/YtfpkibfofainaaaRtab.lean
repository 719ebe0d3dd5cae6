/- The walk over the reference's Table. -/
import Derived.Test.YtfpkibfofainaaaCat
set_option linter.unusedVariables false
set_option linter.unusedSimpArgs false
namespace Go.Proofs.Ytfpkibfofainaaa
open Go.RowKit

set_option maxRecDepth 8000 in
set_option maxHeartbeats 4000000 in
theorem refTable_any (w : World) (S : Nat → Bool) (tb : Option Addr) (tq : Nat) (tl : List Tb) (u1 u2 u3 : Value) (name : ByteArray) (ht : IsTbs (mask S w) (.slice tb tl.length tq) tl) :
    Calls Try.prog 23 #[.agg #[.slice tb tl.length tq, u1, u2, u3], .string name] w fun e w' => ∃ b q, e = .returned (.tuple #[.agg (((findTb tl name).getD Tb.zero).row b q).toArray, .bool (findTb tl name).isSome]) ∧
      IsFds (mask S w') (.slice b ((findTb tl name).getD Tb.zero).fields.length q) ((findTb tl name).getD Tb.zero).fields ∧ Below w.heap.size w w' := by
  obtain ⟨r, hr⟩ : ∃ r, findTb tl name = r := ⟨_, rfl⟩
  have HR := Lib.hid hr
  rw [hr]
  clear hr
  obtain ⟨n, hn⟩ : ∃ n, tl.length = n := ⟨_, rfl⟩
  have hn63 : n ≤ 9223372036854775807 := by obtain ⟨_, _, e, q1, q2, -⟩ := ht.shape; unfold maxLen at q2; omega
  rw [hn] at ht ⊢
  have HN := Lib.hid hn
  clear hn
  have HT0 := Lib.hid ht
  have h0 := ((St.start w).alloc (.cells #[.slice tb n tq, u1, u2, u3] 45)).alloc (.cells #[.string ⟨#[]⟩, .string ⟨#[]⟩, .slice none 0 0, .int .i64 0] 51)
  rw [al_size] at h0
  go_enter Try.func23, Try.ntmps23
  go_wp2_with fail
  obtain ⟨g, hg⟩ : ∃ g, w.heap.size + 1 = g := ⟨_, rfl⟩
  rw [hg] at h0 ⊢
  have HG := Lib.hid hg
  clear hg
  go_loopw [6] (fun c wr => ∃ k : Nat, k ≤ n ∧ c = .int .i64 k ∧ (∀ i (h : i < tl.length), i < k → tl[i].name ≠ name) ∧ St w wr [(g, .cells #[.string ⟨#[]⟩, .string ⟨#[]⟩, .slice none 0 0, .int .i64 0] 51), (w.heap.size, .cells #[.slice tb n tq, u1, u2, u3] 45)] []) (fun c _ => n - (intOf c).toNat)
  case atStart => exact ⟨0, by omega, rfl, fun i _ h => absurd h (Nat.not_lt_zero _), h0⟩
  case round =>
    clear h0
    obtain ⟨k, hk, rfl, hno, hst⟩ := hrel
    have HNO := Lib.hid hno
    clear hno
    obtain ⟨z0, -, -, -⟩ := cells4 (hst.at_ 1 rfl)
    by_cases hlt : k < n
    · have hkl : k < tl.length := by rw [HN.out]; exact hlt
      obtain ⟨b, off, c0, c1, c2, c3, rfl, ⟨fb, fq, hrow, hfd⟩, x0, x1, x2, x3⟩ := HT0.out.row4 k hkl
      obtain ⟨t, ht⟩ : ∃ t, tl[k] = t := ⟨_, rfl⟩
      rw [ht] at hrow hfd
      simp only [Tb.row, List.cons.injEq, and_true] at hrow
      obtain ⟨rfl, rfl, rfl, rfl⟩ := hrow
      replace x0 := Sub.below hst.below rfl _ _ (mask_is _ _ _ _ x0)
      replace x1 := Sub.below hst.below rfl _ _ (mask_is _ _ _ _ x1)
      replace x2 := Sub.below hst.below rfl _ _ (mask_is _ _ _ _ x2)
      replace x3 := Sub.below hst.below rfl _ _ (mask_is _ _ _ _ x3)
      have HFD := Lib.hid hfd
      have HT := Lib.hid ht
      clear hfd ht
      obtain ⟨m, hm⟩ : ∃ m, t.fields.length = m := ⟨_, rfl⟩
      rw [hm] at x2 HFD
      have HM := Lib.hid hm
      clear hm
      obtain ⟨tn, te, tf, tk⟩ := t
      simp only at *
      have hst2 := hst
      by_cases heq : tn = name
      · subst heq
        have hr : r = some ⟨tn, te, tf, tk⟩ := by
          rw [← HR.out]
          unfold findTb
          rw [List.find?_eq_some_iff_getElem]
          exact ⟨by simp, k, hkl, HT.out, fun j hj => by simpa using HNO.out j (by omega) hj⟩
        have HR2 := Lib.hid hr
        clear hr
        go_wp2_with (refine wpList_store_row rfl 51 (.tmp 4) (.tmp 26) rfl _ #[.string tn, .string te, .slice fb m fq, .int .i64 tk] rfl rfl 51 _ (hst2.at_ 0 rfl) tb_info rfl (tb_one _ _ _ _ _ _) ?_)
        have h9 := hst2.setRow (os1 := []) (cs' := #[.string tn, .string te, .slice fb m fq, .int .i64 tk])
        refine ret_tb g _ _ _ _ rfl rfl (h9.at_ 0 rfl) rfl ?_
        rw [HR2.out]
        refine ⟨fb, fq, ?_, ?_, h9.below⟩
        · simp only [Option.getD_some, Tb.row, HM.out]; rfl
        · simp only [Option.getD_some]; rw [HM.out]; exact HFD.out.sub rdFd_up (mask_below h9.below rfl)
      · have hne : (tn.toList == name.toList) = false := by
          rw [ByteArray.toList_eq, ByteArray.toList_eq]
          have : ¬ tn.data.toList = name.data.toList := fun e => heq (by cases tn; cases name; simpa using e)
          simpa using this
        go_wp2_with fail
        go_roundw
        case rel =>
          refine ⟨k + 1, by omega, by go_num, fun i hi h => ?_, hst2⟩
          rcases Nat.lt_succ_iff_lt_or_eq.1 h with h | rfl
          · exact HNO.out i hi h
          · rw [HT.out]; exact heq
        case measure => simp [intOf]; omega
    · obtain rfl : k = n := by omega
      have hr : r = none := by
        rw [← HR.out]
        unfold findTb
        rw [List.find?_eq_none]
        intro x hx
        obtain ⟨i, hi, rfl⟩ := List.getElem_of_mem hx
        simpa using HNO.out i hi (by rw [← HN.out]; exact hi)
      have HR2 := Lib.hid hr
      clear hr
      go_wp2_with (refine wpList_store_row rfl 51 (.tmp 4) (.tmp 27) rfl _ #[.string ⟨#[]⟩, .string ⟨#[]⟩, .slice none 0 0, .int .i64 0] rfl rfl 51 _ (hst.at_ 0 rfl) tb_info rfl (tb_one _ _ _ _ _ _) ?_)
      have h9 := hst.setRow (os1 := []) (cs' := #[.string ⟨#[]⟩, .string ⟨#[]⟩, .slice none 0 0, .int .i64 0])
      refine ret_tb g _ _ _ _ rfl rfl (h9.at_ 0 rfl) rfl ?_
      rw [HR2.out]
      exact ⟨none, 0, rfl, IsSeq.nil 4 rdFd _, h9.below⟩
end Go.Proofs.Ytfpkibfofainaaa
