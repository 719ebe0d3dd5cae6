/- The walks over package wal: stream, Sectors. -/
import Derived.Test.YtnfgapdpnihicaaZWa31
import Derived.Test.YtnfgapdpnihicaaZR4A
set_option linter.unusedVariables false
set_option linter.unusedSimpArgs false
namespace Go.Proofs.Ytnfgapdpnihicaa
open Go Go.RowKit

theorem encT_len {s : List UInt8} {m : Nat} (h : s.length ≤ m) (hm : m < 2 ^ 60) : (Wire.encT s).length ≤ m + 10 := by
  unfold Wire.encT
  rw [List.length_append]
  have := Wire.encU_len10 (n := s.length) (by omega)
  omega
theorem recs_len {m : Nat} (hm : m < 2 ^ 60) : ∀ (rs : List (List UInt8)), (∀ r ∈ rs, r.length ≤ m) → (rs.flatMap Wire.encT).length ≤ rs.length * (m + 10)
  | [], _ => by simp
  | r :: rs, h => by
    rw [List.flatMap_cons, List.length_append, List.length_cons, Nat.succ_mul]
    have h1 := encT_len (h r (List.mem_cons_self ..)) hm
    have h2 := recs_len hm rs fun x hx => h x (List.mem_cons_of_mem _ hx)
    omega
theorem content_len {rs : List (List UInt8)} (hn : rs.length ≤ 1048576) (hr : ∀ r ∈ rs, r.length ≤ 1048576) : (Wl.content rs).length ≤ 1200000000000 := by
  unfold Wl.content
  rw [List.length_append]
  have h1 := Wire.encU_len10 (n := rs.length) (by omega)
  have h2 := recs_len (m := 1048576) (by omega) rs hr
  have h3 : rs.length * (1048576 + 10) ≤ 1048576 * (1048576 + 10) := Nat.mul_le_mul_right _ hn
  omega
theorem flat_take {rs : List (List UInt8)} {k : Nat} (h : k < rs.length) : (rs.take (k + 1)).flatMap Wire.encT = (rs.take k).flatMap Wire.encT ++ Wire.encT rs[k] := by
  rw [← List.take_append_getElem h, List.flatMap_append]
  simp
theorem OwnBytes.from_ {E B C : Nat} {w : World} {v : Value} {l : List UInt8} (h : OwnBytes E C w v l) (hB : B ≤ C) : OwnBytes E B w v l := by
  obtain ⟨h1, h2⟩ := h
  refine ⟨h1, ?_⟩
  rcases h2 with h2 | ⟨g, cap, cur, a, b, r⟩
  · exact .inl h2
  · exact .inr ⟨g, cap, cur, a, Nat.le_trans hB b, r⟩
set_option maxRecDepth 8000 in
set_option maxHeartbeats 4000000 in
theorem stream_any (w : World) (rv : Value) (rs : List (List UInt8)) (hv : IsLists w rv rs) (hn : rs.length ≤ 1048576) (hr : ∀ r ∈ rs, r.length ≤ 1048576) :
    Calls Try.prog 47 #[rv] w fun e w' => ∃ v', e = .returned v' ∧ OwnBytes 5 w.heap.size w' v' (Wl.stream rs) ∧ Below w.heap.size w w' := by
  obtain ⟨base, cap, rfl, hl1, hcap, -, -⟩ := hv.out
  obtain ⟨N, hN⟩ : ∃ N, rs.length = N := ⟨_, rfl⟩
  rw [hN] at hv hn ⊢
  have hs64 : (N : Int) < 18446744073709551616 := by omega
  have h0 := (St.start w).putOld (P := (IsLists · (.slice base N cap) rs)) (Mono.lists _ _) hv
  have hcl := content_len (rs := rs) (by omega) hr
  obtain ⟨pre, hpre⟩ : ∃ f : Nat → List UInt8, f = fun k => Wire.encU N ++ (rs.take k).flatMap Wire.encT := ⟨_, rfl⟩
  have hp0 : [] ++ Wire.encU N = pre 0 := by rw [hpre]; simp
  have hps : ∀ k (h : k < rs.length), pre (k + 1) = pre k ++ Wire.encT rs[k] := fun k h => by rw [hpre]; simp only; rw [flat_take h, List.append_assoc]
  have hpN : pre N = Wl.content rs := by rw [hpre]; unfold Wl.content; simp only; rw [hN, ← hN, List.take_length]
  have hpl : ∀ k, k ≤ N → (pre k).length ≤ 1200000000000 := fun k hk => by
    refine Nat.le_trans ?_ hcl
    rw [← hpN, hpre]
    simp only [List.length_append]
    have h1 : (rs.take N).flatMap Wire.encT = (rs.take k).flatMap Wire.encT ++ ((rs.take N).drop k).flatMap Wire.encT := by
      rw [← List.flatMap_append]
      congr 1
      have h9 := List.take_append_drop k (rs.take N)
      rw [List.take_take, Nat.min_eq_left hk] at h9
      exact h9.symm
    rw [h1, List.length_append]
    omega
  have HP := Lib.hid (And.intro hp0 (And.intro hps (And.intro hpN hpl)))
  have HR := Lib.hid hr
  have HN := Lib.hid hN
  have e00 := Wire.encU_len10 (n := N) (by omega)
  clear hpre hp0 hps hpN hpl hr hcl hv hN
  go_enter Try.func47, Try.ntmps47
  go_wp2_with fail
  refine (Calls.sB h0 (appendUint_any _ _ [] N (by omega) (IsBytes.none _) (by simp))).mono ?_
  rintro e w1 ⟨v1, rfl, h1⟩
  rw [HP.out.1] at h1
  clear h0 e00
  go_wp2_with fail
  go_loopw [3, 14] (fun cv iv wr => ∃ k : Nat, k ≤ N ∧ iv = .int .i64 k ∧ St w wr [] [(IsBytes · cv (pre k)), (IsLists · (.slice base N cap) rs)]) (fun _ iv _ => N - (intOf iv).toNat)
  case atStart => exact ⟨0, by omega, rfl, h1⟩
  case round =>
    clear h1
    obtain ⟨k, hk, rfl, hst⟩ := hrel
    by_cases hlt : k < N
    · have hkl : k < rs.length := by rw [HN.out]; exact hlt
      obtain ⟨_, _, e, -, -, -, hat⟩ := (hst.is 1 rfl : IsLists _ _ _).out
      rw [HN.out] at e
      cases e
      obtain ⟨gb, off, u, rfl, hcell, hu⟩ := hat k hkl
      obtain ⟨ub, uc, rfl, -⟩ := hu.out
      have hs := HP.out.2.1 k hkl
      have hrk := HR.out _ (List.getElem_mem hkl)
      have hpk := HP.out.2.2.2 k (by omega)
      obtain ⟨r, hr⟩ : ∃ r, rs[k] = r := ⟨_, rfl⟩
      rw [hr] at hs hrk hu hcell
      clear hr hat
      obtain ⟨m, hm⟩ : ∃ m, r.length = m := ⟨_, rfl⟩
      rw [hm] at hcell hu hrk
      obtain ⟨x, hx⟩ : ∃ x : ByteArray, ⟨r.toArray⟩ = x := ⟨_, rfl⟩
      have hc := bytesStr hu
      rw [hx] at hc
      have hxs : x.size = m := by rw [← hx, ← hm]; rfl
      have hxd : x.data.toList = r := by rw [← hx]
      obtain ⟨cb, cc, rfl, -⟩ := (hst.is 0 rfl : IsBytes _ _ _).out
      have HC := Lib.hid (And.intro hc (And.intro hxs (And.intro hxd (And.intro hs (And.intro hm (And.intro hrk hpk))))))
      clear hc hxs hxd hx hs hm hrk hpk
      go_wp2_with (refine wpList_conv rfl 42 9 (.tmp 19) rfl (.slice ub m uc) (.string x) rfl HC.out.1 ?_)
      refine (Calls.sB hst (appendText_any _ _ (pre k) x (hst.is 0 rfl) (by rw [HC.out.2.1]; have := HC.out.2.2.2.2.2; omega))).mono ?_
      rintro e w2 ⟨v2, rfl, h2⟩
      rw [HC.out.2.2.1, ← HC.out.2.2.2.1] at h2
      go_wp2_with fail
      go_roundw
      case rel => exact ⟨k + 1, by omega, by go_num, h2.facts (fun P hP => by simp only [List.mem_cons, List.not_mem_nil, or_false] at hP ⊢; rcases hP with rfl | rfl <;> simp)⟩
      case measure => simp [intOf]; omega
    · obtain rfl : N = k := by omega
      rw [HP.out.2.2.1] at hst
      obtain ⟨c, hc⟩ : ∃ c, Wl.content rs = c := ⟨_, rfl⟩
      have hcl : c.length ≤ 1200000000000 := by have := HP.out.2.2.2 N (by omega); rw [HP.out.2.2.1, hc] at this; exact this
      rw [hc] at hst
      have HCC := Lib.hid hc
      clear hc
      obtain ⟨cb, cc, rfl, -⟩ := (hst.is 0 rfl : IsBytes _ _ _).out
      obtain ⟨M, hM⟩ : ∃ M, c.length = M := ⟨_, rfl⟩
      rw [hM] at hst hcl ⊢
      have HM := Lib.hid hM
      clear hM
      have hm64 : (M : Int) < 18446744073709551616 := by omega
      go_wp2_with fail
      refine (Calls.sV hst (sum32_any _ c _ (hst.is 0 rfl))).mono ?_
      rintro e w3 ⟨rfl, h3⟩
      obtain ⟨r, hr⟩ : ∃ r, Crc.ext 0#32 c = r := ⟨_, rfl⟩
      rw [hr]
      have HRR := Lib.hid hr
      clear hr hst
      go_wp2_with fail
      refine (appendUint_any w3 (.slice none 0 0) [] M (by omega) (IsBytes.none _) (by simp)).mono ?_
      rintro e w4 ⟨v4, rfl, ho4, hb4⟩
      have hlen := Wire.encU_len10 (n := M) (by omega)
      have hp4 := (h3.is 0 rfl : IsBytes _ _ _).below hb4 rfl
      go_upto_region 9 with (at_builtin; go_loud (refine wpList_append_bytes rfl (.tmp 28) (.tmp 29) 42 42 rfl w3.heap.size 5 Try.underlying42 byte_info _ _ rfl ho4 _ c rfl (hp4.src Try.underlying42) (by rw [List.nil_append, HM.out]; omega) hb4.size ?_; intro v5 w5 ho5 hg5))
      have hb5 := Below.grown hb4 hg5 hb4.size (fun k hk => (World.ownsRow.lt ho4 k hk).1)
      have hx6 := sum4_new w5 r
      have hb6 := hb5.alloc hb5.size (.cells #[.int .u8 ((r.toNat : Int) % 256), .int .u8 ((r.toNat : Int) / 256 % 256), .int .u8 ((r.toNat : Int) / 65536 % 256), .int .u8 ((r.toNat : Int) / 16777216)] 5)
      have ho6 : AppB 5 w3.heap.size (w5.alloc (.cells #[.int .u8 ((r.toNat : Int) % 256), .int .u8 ((r.toNat : Int) / 256 % 256), .int .u8 ((r.toNat : Int) / 65536 % 256), .int .u8 ((r.toNat : Int) / 16777216)] 5)) v5 ([] ++ Wire.encU M ++ c) := AppB.below (.inl ho5) (show Below w5.heap.size w5 _ from (Below.refl _ _).alloc (Nat.le_refl _) _) rfl
      have HX := Lib.hid (And.intro hx6 (And.intro hb6 ho6))
      clear hx6 hb6 ho6
      have h4 : (sum4 r).length = 4 := rfl
      go_wp2_with (at_builtin; go_loud (refine wpList_append_appb rfl (.tmp 31) (.tmp 43) 42 42 rfl w3.heap.size 5 Try.underlying42 byte_info _ _ rfl HX.out.2.2 _ (sum4 r) (by simp [sum4]) rfl (HX.out.1.src Try.underlying42) (by rw [List.length_append, List.nil_append, h4, HM.out]; omega) HX.out.2.1.size w3 HX.out.2.1 ?_; intro v7 w7 ho7 hb7))
      go_ret
      refine ⟨_, rfl, ?_, h3.below.trans (hb7.mono h3.below.size)⟩
      have e : Wl.stream rs = [] ++ Wire.encU M ++ c ++ sum4 r := by
        unfold Wl.stream Wire.encF
        rw [HCC.out, HM.out, show Wire.sumOf c = r from HRR.out, List.nil_append]
      rw [e]
      exact ho7.from_ h3.below.size
theorem stream_len {rs : List (List UInt8)} (hn : rs.length ≤ 1048576) (hr : ∀ r ∈ rs, r.length ≤ 1048576) : (Wl.stream rs).length ≤ 1300000000000 := by
  unfold Wl.stream Wire.encF
  have h1 := content_len hn hr
  have h2 := Wire.encU_len10 (n := (Wl.content rs).length) (by omega)
  rw [List.length_append, List.length_append]
  have h3 : (sum4 (Wire.sumOf (Wl.content rs))).length = 4 := rfl
  omega
set_option maxHeartbeats 1000000 in
theorem sectors_any (w : World) (rv : Value) (rs : List (List UInt8)) (hv : IsLists w rv rs) (hn : rs.length ≤ 1048576) (hr : ∀ r ∈ rs, r.length ≤ 1048576) :
    Calls Try.prog 24 #[rv] w fun e w' => e = .returned (.int .i64 (Wl.needs (Wl.stream rs).length : Int)) ∧ Below w.heap.size w w' := by
  have hl := stream_len hn hr
  have hs := stream_any w rv rs hv hn hr
  obtain ⟨s, hss⟩ : ∃ s, Wl.stream rs = s := ⟨_, rfl⟩
  rw [hss] at hs hl ⊢
  obtain ⟨n, hnn⟩ : ∃ n, s.length = n := ⟨_, rfl⟩
  rw [hnn] at hl ⊢
  have HS := Lib.hid hs
  have HN := Lib.hid hnn
  clear hs hss hnn
  go_enter Try.func24, Try.ntmps24
  go_wp2_with fail
  refine HS.out.mono ?_
  rintro e w1 ⟨v1, rfl, ho1, hb1⟩
  obtain ⟨b, c, rfl⟩ := own_slice ho1
  rw [HN.out]
  go_wp2_with fail
  refine (needs_any w1 n (by omega)).mono ?_
  rintro e w2 ⟨rfl, rfl⟩
  go_wp2_with fail
  go_ret
  exact ⟨rfl, hb1⟩
end Go.Proofs.Ytnfgapdpnihicaa
