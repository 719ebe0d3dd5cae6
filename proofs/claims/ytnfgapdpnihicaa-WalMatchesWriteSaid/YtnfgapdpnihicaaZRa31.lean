/- The walks over asofref31.Content, Stream, zeros, Sectors. -/
import Derived.Test.YtnfgapdpnihicaaZRsc31
set_option linter.unusedVariables false
set_option linter.unusedSimpArgs false
namespace Go.Proofs.Ytnfgapdpnihicaa
open Go Go.RowKit
open Wl
theorem content_pre {rs : List (List UInt8)} {N : Nat} (hN : rs.length = N) (hn : N ≤ 1048576) (hr : ∀ r ∈ rs, r.length ≤ 1048576) : ∃ pre : Nat → List UInt8, pre 0 = Wire.encU N ∧ (∀ k (h : k < rs.length), pre (k + 1) = pre k ++ Wire.encU (rs[k]).length ++ rs[k]) ∧ pre N = content rs ∧ ∀ k, k ≤ N → (pre k).length ≤ 1200000000000 := by
  have hcl := content_len (rs := rs) (by omega) hr
  refine ⟨fun k => Wire.encU N ++ (rs.take k).flatMap Wire.encT, by simp, fun k h => ?_, ?_, fun k hk => ?_⟩
  · simp only
    rw [flat_take h]
    unfold Wire.encT
    simp only [List.append_assoc]
  · unfold content
    simp only
    rw [hN, ← hN, List.take_length]
  · refine Nat.le_trans ?_ hcl
    unfold content
    simp only [List.length_append]
    have h1 : rs.flatMap Wire.encT = (rs.take k).flatMap Wire.encT ++ (rs.drop k).flatMap Wire.encT := by rw [← List.flatMap_append, List.take_append_drop]
    rw [h1, List.length_append, hN]
    omega

set_option maxRecDepth 8000 in
set_option maxHeartbeats 4000000 in
theorem refContent_any (w : World) (rv : Value) (rs : List (List UInt8)) (hv : IsLists w rv rs) (hn : rs.length ≤ 1048576) (hr : ∀ r ∈ rs, r.length ≤ 1048576) :
    Calls Try.prog 75 #[rv] w fun e w' => ∃ v', e = .returned v' ∧ OwnBytes 5 w.heap.size w' v' (content rs) ∧ Below w.heap.size w w' := by
  obtain ⟨base, cap, rfl, hl1, hcap, -, -⟩ := hv.out
  obtain ⟨N, hN⟩ : ∃ N, rs.length = N := ⟨_, rfl⟩
  obtain ⟨pre, q0, q1, q2, q3⟩ := content_pre hN (by omega) hr
  rw [hN] at hv hn ⊢
  have HV := Lib.hid hv
  have HN := Lib.hid hN
  have HR := Lib.hid hr
  have HP := Lib.hid (And.intro q0 (And.intro q1 (And.intro q2 q3)))
  have hs64 : (N : Int) < 18446744073709551616 := by omega
  clear hv hN hr q0 q1 q2 q3 hl1
  go_enter Try.func75, Try.ntmps75
  go_wp2_with fail
  refine (refUint_any w N (by omega)).mono ?_
  rintro e w1 ⟨v1, rfl, ho1, hb1⟩
  rw [← HP.out.1] at ho1
  go_wp2_with fail
  go_loopw [3, 4] (fun cv iv wr => ∃ k : Nat, k ≤ N ∧ iv = .int .i64 k ∧ OwnBytes 5 w.heap.size wr cv (pre k) ∧ Below w.heap.size w wr) (fun _ iv _ => N - (intOf iv).toNat)
  case atStart => exact ⟨0, by omega, rfl, ho1, hb1⟩
  case round =>
    clear ho1 hb1
    obtain ⟨k, hk, rfl, hok, hbk⟩ := hrel
    by_cases hlt : k < N
    · have hlti : (k : Int) < (N : Int) := by omega
      have hkl : k < rs.length := by rw [HN.out]; exact hlt
      obtain ⟨_, _, e, -, -, -, hat⟩ := (HV.out.below hbk rfl : IsLists _ _ _).out
      rw [HN.out] at e
      cases e
      obtain ⟨gb, off, u, rfl, hcell, hu⟩ := hat k hkl
      obtain ⟨ub, uc, rfl, -⟩ := hu.out
      have hs := HP.out.2.1 k hkl
      have hrk := HR.out _ (List.getElem_mem hkl)
      have hpk := HP.out.2.2.2 (k + 1) (by omega)
      obtain ⟨r, hr⟩ : ∃ r, rs[k] = r := ⟨_, rfl⟩
      rw [hr] at hs hrk hu hcell
      obtain ⟨m, hm⟩ : ∃ m, r.length = m := ⟨_, rfl⟩
      rw [hm] at hcell hu hrk hs
      have hm64 : (m : Int) < 18446744073709551616 := by omega
      have HS := Lib.hid (And.intro hs (And.intro hpk (And.intro hr hm)))
      have hcell1 := hcell
      clear hs hpk hr hm hat hcell
      go_wp2_with fail
      refine (refUint_any _ m (by omega)).mono ?_
      rintro e w2 ⟨v2, rfl, ho2, hb2⟩
      have hok2 := hok.later hb2
      have hbk2 := hbk.trans (hb2.mono hbk.size)
      have hlen : (pre k).length + (Wire.encU m).length ≤ 140737488355328 ∧ (pre k ++ Wire.encU m).length + m ≤ 140737488355328 := by
        have h1 := congrArg List.length HS.out.1
        simp only [List.length_append] at h1 ⊢
        have h2 := HS.out.2.1
        have h3 := HS.out.2.2.2
        omega
      have HL := Lib.hid hlen
      clear hok hbk hlen hcell1
      go_upto_region 6 with (at_builtin; go_loud (refine wpList_append_bytes rfl (.tmp 15) (.tmp 22) 42 42 rfl w.heap.size 5 Try.underlying42 byte_info _ _ rfl hok2 _ (Wire.encU m) rfl (ho2.is.src Try.underlying42) HL.out.1 hbk2.size ?_; intro v3 w3 ho3 hg3))
      have hb3 := Below.grown hbk2 hg3 hbk2.size (fun k hk => (World.ownsRow.lt hok2 k hk).1)
      clear hok2 hbk2 ho2 hb2 hg3
      obtain ⟨_, _, e, -, -, -, hat⟩ := (HV.out.below hb3 rfl : IsLists _ _ _).out
      rw [HN.out] at e
      cases e
      obtain ⟨gb3, off3, u3, e3, hcell, hu3⟩ := hat k hkl
      cases e3
      obtain ⟨ub3, uc3, rfl, -⟩ := hu3.out
      rw [HS.out.2.2.1] at hcell hu3
      rw [HS.out.2.2.2] at hcell hu3
      clear hat hu
      go_upto_region 4 with (at_builtin; go_loud (refine wpList_append_bytes rfl (.tmp 24) (.tmp 28) 42 42 rfl w.heap.size 5 Try.underlying42 byte_info _ _ rfl ho3 _ r rfl (hu3.src Try.underlying42) (by rw [HS.out.2.2.2]; exact HL.out.2) hb3.size ?_; intro v4 w4 ho4 hg4))
      have hb4 := Below.grown hb3 hg4 hb3.size (fun k hk => (World.ownsRow.lt ho3 k hk).1)
      rw [← HS.out.1] at ho4
      clear ho3 hb3 hg4 hcell hu3
      go_wp2_with fail
      go_roundw
      case rel => exact ⟨k + 1, by omega, by go_num, ho4, hb4⟩
      case measure => simp [intOf]; omega
    · obtain rfl : N = k := by omega
      have hlti : ¬ (N : Int) < (N : Int) := by omega
      rw [HP.out.2.2.1] at hok
      go_wp2_with fail
      go_ret
      exact ⟨_, rfl, hok, hbk⟩

set_option maxRecDepth 8000 in
set_option maxHeartbeats 4000000 in
theorem refStream_any (w : World) (rv : Value) (rs : List (List UInt8)) (hv : IsLists w rv rs) (hn : rs.length ≤ 1048576) (hr : ∀ r ∈ rs, r.length ≤ 1048576) :
    Calls Try.prog 65 #[rv] w fun e w' => ∃ v', e = .returned v' ∧ OwnBytes 5 w.heap.size w' v' (stream rs) ∧ Below w.heap.size w w' := by
  have hcl := content_len hn hr
  have hc := refContent_any w rv rs hv hn hr
  have hst : stream rs = Wire.encU (content rs).length ++ content rs ++ sum4 (Wire.sumOf (content rs)) := rfl
  rw [hst]
  obtain ⟨c, hcc⟩ : ∃ c, content rs = c := ⟨_, rfl⟩
  rw [hcc] at hc hcl ⊢
  have HC := Lib.hid hc
  clear hc hst hcc hv
  obtain ⟨M, hM⟩ : ∃ M, c.length = M := ⟨_, rfl⟩
  rw [hM] at hcl ⊢
  have HM := Lib.hid hM
  have he10 := Wire.encU_len10 (n := M) (by omega)
  clear hM
  have hm64 : (M : Int) < 18446744073709551616 := by omega
  go_enter Try.func65, Try.ntmps65
  go_wp2_with fail
  refine HC.out.mono ?_
  rintro e w1 ⟨v1, rfl, ho1, hb1⟩
  have hc1 := ho1.is
  clear ho1
  obtain ⟨cb, cq, rfl, -⟩ := hc1.out
  rw [HM.out] at hc1 ⊢
  go_wp2_with fail
  refine (refUint_any _ M (by omega)).mono ?_
  rintro e w2 ⟨v2, rfl, ho2, hb2⟩
  have hc2 := hc1.below hb2 rfl
  go_upto_region 4 with (at_builtin; go_loud (refine wpList_append_bytes rfl (.tmp 11) (.tmp 12) 42 42 rfl w1.heap.size 5 Try.underlying42 byte_info _ _ rfl ho2 _ c rfl (hc2.src Try.underlying42) (by rw [HM.out]; omega) hb2.size ?_; intro v3 w3 ho3 hg3))
  have hb3 := Below.grown hb2 hg3 hb2.size (fun k hk => (World.ownsRow.lt ho2 k hk).1)
  have hc3 := hc1.below hb3 rfl
  clear hc1 hc2 ho2 hb2 hg3
  go_wp2_with fail
  refine (refSum_any _ _ c hc3).mono ?_
  rintro e w4 ⟨v4, rfl, hi4, hb4⟩
  have ho4 := ho3.later hb4
  have hb5 := hb3.trans (hb4.mono hb3.size)
  clear ho3 hb3 hb4 hc3
  have h4 : (sum4 (Wire.sumOf c)).length = 4 := rfl
  go_wp2_with (at_builtin; go_loud (refine wpList_append_bytes rfl (.tmp 14) (.tmp 16) 42 42 rfl w1.heap.size 5 Try.underlying42 byte_info _ _ rfl ho4 _ (sum4 (Wire.sumOf c)) rfl (hi4.src Try.underlying42) (by rw [List.length_append, h4, HM.out]; omega) hb5.size ?_; intro v6 w6 ho6 hg6))
  have hb6 := Below.grown hb5 hg6 hb5.size (fun k hk => (World.ownsRow.lt ho4 k hk).1)
  go_ret
  exact ⟨_, rfl, ho6.from_ hb1.size, hb1.trans (hb6.mono hb1.size)⟩

theorem refZeros_any (w : World) : Calls Try.prog 46 #[] w fun e w' => ∃ v', e = .returned v' ∧ OwnBytes 5 w.heap.size w' v' zeroSec ∧ Below w.heap.size w w' := by
  go_enter Try.func46, Try.ntmps46
  go_wp2_with (at_make; go_loud (refine wpList_make_bytes rfl (.const (.int .i64 128)) (.const (.int .i64 128)) 42 rfl w.heap.size 5 Try.underlying42 byte_info 128 rfl rfl (by omega) (Nat.le_refl _) ?_; intro w1 ho1 hg1))
  go_ret
  exact ⟨_, rfl, ho1, Below.grown (Below.refl w.heap.size w) hg1 (Nat.le_refl _) (fun k hk => by cases hk)⟩

end Go.Proofs.Ytnfgapdpnihicaa
