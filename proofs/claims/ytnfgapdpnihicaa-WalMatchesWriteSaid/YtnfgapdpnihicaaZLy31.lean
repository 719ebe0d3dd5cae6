/- The walk over WalLayout. -/
import Derived.Test.YtnfgapdpnihicaaZLb31
set_option linter.unusedVariables false
set_option linter.unusedSimpArgs false
namespace Go.Proofs.Ytnfgapdpnihicaa
open Go Go.RowKit
open Wl

/-! ### Where the bytes of a batch lie -/
theorem pcs_get : ∀ (k : Nat) (l : List UInt8) (j : Nat) (h : j < (pcs k l).length), (pcs k l)[j] = piece (l.drop (128 * j))
  | 0, l, j, h => absurd h (by rw [pcs_len]; omega)
  | k + 1, l, 0, h => by simp [pcs]
  | k + 1, l, j + 1, h => by
    have h2 : j < (pcs k (l.drop 128)).length := by rw [pcs_len] at h ⊢; omega
    have := pcs_get k (l.drop 128) j h2
    simp only [pcs, List.getElem_cons_succ]
    rw [this, List.drop_drop, show 128 + 128 * j = 128 * (j + 1) by omega]
theorem sched_head {sec : List (List UInt8)} {p n e : Nat} {s : List UInt8} (hp : p < sec.length) : (setAll sec (sched p n e s))[p]? = some (headS s) := by
  rw [sched_init, setAll_append]
  simp only [setAll]
  rw [List.getElem?_set_self (by rw [setAll_len]; exact hp)]
theorem sched_rest {sec : List (List UInt8)} {p n e : Nat} {s : List UInt8} {j : Nat} (hn : p + n ≤ sec.length) (hj : j < n - 1) : (setAll sec (sched p n e s))[p + 1 + j]? = some (piece (s.drop (127 + 128 * j))) := by
  rw [sched_init, setAll_append]
  simp only [setAll]
  rw [List.getElem?_set_ne (by omega)]
  unfold init
  rw [setAll_append, setAll_ne _ (fun x hx => by
    split at hx
    · rw [List.mem_singleton] at hx
      subst hx
      simp only
      omega
    · cases hx)]
  rw [secs_get 1 (n - 1) _ sec (by omega) j hj, pcs_get, List.drop_drop]
theorem pad_get {l : List UInt8} {n o : Nat} (h : o < n) : (l.take n ++ List.replicate (n - (l.take n).length) 0)[o]? = some (l.getD o 0) := by
  rw [List.getElem?_append, List.length_take]
  split
  · rename_i h1
    rw [List.getElem?_take, if_pos h, List.getD_eq_getElem?_getD, List.getElem?_eq_getElem (by omega)]
    rfl
  · rename_i h1
    rw [List.getElem?_replicate, if_pos (by omega), List.getD_eq_getElem?_getD, List.getElem?_eq_none (by omega)]
    rfl
/-- A byte of the stream, in the sectors. -/
theorem byte_at {sec : List (List UInt8)} {n e : Nat} {s : List UInt8} {i : Nat} (hn1 : 1 ≤ n) (hn : n ≤ sec.length) (hi : i < n * 128 - 1) :
    ∃ L, (setAll sec (sched 0 n e s))[(placeR i).1]? = some L ∧ L.length = 128 ∧ L[(placeR i).2]? = some (s.getD i 0) ∧ (placeR i).1 < n ∧ (placeR i).2 < 128 := by
  unfold placeR
  by_cases h : i < 127
  · rw [if_pos h]
    refine ⟨headS s, sched_head (by omega), headS_len _, ?_, by simp only; omega, by simp only; omega⟩
    unfold headS
    simp only
    rw [List.getElem?_append_left (by rw [List.length_append, List.length_replicate, List.length_take]; omega)]
    exact pad_get h
  · rw [if_neg h]
    have hj : (i - 127) / 128 < n - 1 := by omega
    have h1 := sched_rest (sec := sec) (p := 0) (n := n) (e := e) (s := s) (j := (i - 127) / 128) (by omega) hj
    rw [Nat.zero_add] at h1
    refine ⟨_, h1, piece_len _, ?_, by simp only; omega, by simp only; omega⟩
    unfold piece
    simp only
    rw [pad_get (by omega), List.getD_eq_getElem?_getD, List.getElem?_drop, List.getD_eq_getElem?_getD, show 127 + 128 * ((i - 127) / 128) + (i - 127) % 128 = i by omega]
theorem layout_plain {X : Dk} {rs : List (List UInt8)} (hn : rs.length ≤ 1048576) (hr : ∀ r ∈ rs, r.length ≤ 1048576) (hne : rs ≠ []) (hX : (Dk.made 64).app 0 64 rs = (X, 0)) :
    X.Ok ∧ X.sec.length = 64 ∧ sizeL rs ≤ 64 ∧ X.sec = setAll (Dk.made 64).sec (sched 0 (sizeL rs) 64 (stream rs)) ∧ X.left = -1 ∧ X.stopped = false := by
  have h0 := reg_made (n := 64) (f := 0) (m := 64) (by omega) (by omega) (by omega) (by omega)
  have hl : (Dk.made 64).sec.length = 64 := by simp [Dk.made]
  rcases app_law h0 rfl hn hr hX with ⟨-, -, h1⟩ | ⟨-, h1, -⟩ | ⟨-, -, -, -, h1⟩ | ⟨-, -, h3, h4, -, ⟨-, h6, h7, h8, h9⟩ | ⟨h1, -⟩⟩
  · omega
  · exact absurd h1 hne
  · omega
  · exact ⟨h9.ok, by rw [h4, hl], by omega, by rw [h8], h7 rfl, h6⟩
  · omega
theorem whole_yes {X : Dk} (h : X.Ok) (hl : X.sec.length = 64) : wholeB X 64 = true := by
  unfold wholeB
  rw [decide_eq_true_eq]
  refine ⟨fun s hs => ?_, by rw [hl]; rfl⟩
  obtain ⟨i, hi, rfl⟩ := List.mem_iff_getElem.1 hs
  exact h.size i hi

set_option maxRecDepth 30000 in
set_option maxHeartbeats 8000000 in
theorem layout_walk (w : World) (v : Value) (l : List (List UInt8)) (hv : IsLists w v l) (hsz : ∀ r ∈ l, r.length ≤ 140737488351232) :
    Calls Try.prog 11 #[v] w fun e w' => e = .returned (.bool true) ∧ Below w.heap.size w w' := by
  obtain ⟨lb, lq, rfl, hq1, hq2, -, -⟩ := id hv.out
  unfold maxLen at hq2
  obtain ⟨N, hN⟩ : ∃ N, l.length = N := ⟨_, rfl⟩
  rw [hN] at hv hq1 ⊢
  have HN := Lib.hid hN
  have HSZ := Lib.hid hsz
  have h0 := (St.start w).putOld (P := (IsLists · (.slice lb N lq) l)) (Mono.lists _ _) hv
  clear hv hsz hN
  go_enter Try.func11, Try.ntmps11
  go_wp2_with fail
  refine (Calls.sV h0 (example_any _)).mono ?_
  rintro e w1 ⟨rfl, h1⟩
  clear h0
  obtain ⟨D0, hD0⟩ : ∃ D, Dk.made 64 = D := ⟨_, rfl⟩
  have hok0 := (dk_made_ok 64 (by omega) (by omega)).1
  rw [hD0] at hok0
  have XD := Lib.hid hD0
  have XO := Lib.hid hok0
  clear hD0 hok0
  go_wp2_with fail
  refine (empty_s h1 64 0 64 (by omega) (by omega) (by omega) (by omega) XD.out).mono ?_
  rintro e w2 ⟨b0, q0, rfl, h2⟩
  clear h1
  go_upto_region 3 with (refine wpList_store_row rfl 24 (.tmp 4) (.tmp 20) rfl w2.heap.size (dkA b0 q0 D0) rfl rfl 24 _ (heap_alloc_new _ _) disk_info rfl (one4 rfl _ _ _) ?_)
  have h3 := (h2.newVar #[.slice none 0 0, .int .i64 0, .int .i64 0, .bool false] (dkA b0 q0 D0) 24).shut
  clear h2
  generalize World.setRow _ _ _ = W3 at h3 ⊢
  generalize w2.heap.size = g4 at h3 ⊢
  obtain ⟨r, hr⟩ : ∃ r, smallB D0 l = r := ⟨_, rfl⟩
  obtain ⟨c0, c1, c2, c3⟩ := (h3.is 0 rfl : IsCells _ _ _).c4
  go_wp2_with fail
  refine (small_s h3 hr (h3.is 1 rfl) (h3.is 2 rfl)).mono ?_
  rintro e w4 ⟨rfl, h4⟩
  clear h3 c0 c1 c2 c3
  cases r with
  | false =>
    clear hr
    go_wp2_with fail
    go_ret
    exact ⟨rfl, h4.below⟩
  | true =>
    obtain ⟨-, hn200, -, hall⟩ := smallB_use hr (ok_secs XO.out) (fun r h => Nat.le_trans (HSZ.out r h) (by omega))
    rw [HN.out] at hn200
    have HA := Lib.hid (fun r h => Nat.le_trans (hall r h) (show 40000 ≤ 1048576 by omega))
    clear hr hall
    by_cases hN0 : N = 0
    · subst hN0
      go_wp2_with fail
      go_ret
      exact ⟨rfl, h4.below⟩
    · have hNb : ((N : Int) == 0) = false := beq_of (by omega)
      obtain ⟨⟨X, c⟩, hX⟩ : ∃ r, D0.app 0 64 l = r := ⟨_, rfl⟩
      have HX := Lib.hid hX
      clear hX
      go_wp2_with (refine wpList_load_mid rfl 24 (.tmp 4) rfl g4 0 rfl [.slice b0 D0.sec.length q0, .int .i64 D0.left, .int .i64 D0.tear, .bool D0.stopped] _ (h4.is 0 rfl : IsCells _ _ _).range Try.underlying24 rfl rfl ?_)
      refine (app_s h4 (d := D0) (f := 0) (m := 64) HX.out (by omega) (by omega) (h4.get 1 rfl) (h4.is 2 rfl) (by rw [HN.out]; omega) HA.out).mono ?_
      rintro e w5 ⟨b6, q6, rfl, h5⟩
      clear h4
      go_upto_region 6 with (refine wpList_store_row rfl 24 (.tmp 6) (.tmp 43) rfl w5.heap.size (dkA b6 q6 X) rfl rfl 24 _ (heap_alloc_new _ _) disk_info rfl (one4 rfl _ _ _) ?_)
      have h6 := (h5.newVar #[.slice none 0 0, .int .i64 0, .int .i64 0, .bool false] (dkA b6 q6 X) 24).shut
      clear h5
      generalize World.setRow _ _ _ = W6 at h6 ⊢
      generalize w5.heap.size = g6 at h6 ⊢
      by_cases hc : c = 0
      case neg =>
        have hcb := bne_of hc
        go_wp2_with fail
        go_ret
        exact ⟨rfl, h6.below⟩
      subst hc
      obtain ⟨p1, p2, p3, p4, -, -⟩ := layout_plain (by rw [HN.out]; omega) HA.out (fun h => hN0 (by rw [← HN.out, h]; rfl)) (XD.out.symm ▸ HX.out)
      have hwh := whole_yes p1 p2
      obtain ⟨n, hn⟩ : ∃ n, sizeL l = n := ⟨_, rfl⟩
      have hn1 : 1 ≤ n := by rw [← hn]; exact sizeL_pos _
      rw [hn] at p3 p4
      rw [XD.out] at p4
      have HPL := Lib.hid (And.intro p1 (And.intro p2 (And.intro p4 hwh)))
      have HNN := Lib.hid hn
      clear p1 p2 p4 hwh hn
      -- h6: [cells g6 X (0), X (1), cells g4 (2), D0 (3), recs (4)]
      go_wp2_with (refine wpList_load_mid rfl 24 (.tmp 6) rfl g6 0 rfl [.slice b6 X.sec.length q6, .int .i64 X.left, .int .i64 X.tear, .bool X.stopped] _ (h6.is 0 rfl : IsCells _ _ _).range Try.underlying24 rfl rfl ?_)
      refine (Calls.sV h6 (whole_any _ _ X (h6.is 1 rfl) 64)).mono ?_
      rintro e w7 ⟨rfl, h7⟩
      rw [HPL.out.2.2.2]
      have h8 := h7.facts (fs' := [IsCells g6 (dkA b6 q6 X), (IsDk · (dkS b6 q6 X) X), (IsLists · (.slice lb N lq) l)]) (fun P hP => by simp only [List.mem_cons, List.not_mem_nil, or_false] at hP ⊢; rcases hP with rfl | rfl | rfl <;> simp)
      clear h6 h7
      have hs64 : (N : Int) < 18446744073709551616 := by omega
      have hcl := content_len (rs := l) (by rw [HN.out]; omega) HA.out
      obtain ⟨pre, hpre⟩ : ∃ f : Nat → List UInt8, f = fun k => Wire.encU N ++ (l.take k).flatMap Wire.encT := ⟨_, rfl⟩
      have hp0 : [] ++ Wire.encU N = pre 0 := by rw [hpre]; simp
      have hps : ∀ k (h : k < l.length), pre (k + 1) = pre k ++ Wire.encT l[k] := fun k h => by rw [hpre]; simp only; rw [flat_take h, List.append_assoc]
      have hpN : pre N = Wl.content l := by rw [hpre]; unfold Wl.content; simp only; rw [HN.out, ← HN.out, List.take_length]
      have hpl : ∀ k, k ≤ N → (pre k).length ≤ 1200000000000 := fun k hk => by
        refine Nat.le_trans ?_ hcl
        rw [← hpN, hpre]
        simp only [List.length_append]
        have h1 : (l.take N).flatMap Wire.encT = (l.take k).flatMap Wire.encT ++ ((l.take N).drop k).flatMap Wire.encT := by
          rw [← List.flatMap_append]
          congr 1
          have h9 := List.take_append_drop k (l.take N)
          rw [List.take_take, Nat.min_eq_left hk] at h9
          exact h9.symm
        rw [h1, List.length_append]
        omega
      have HP := Lib.hid (And.intro hp0 (And.intro hps (And.intro hpN hpl)))
      have e00 := Wire.encU_len10 (n := N) (by omega)
      clear hpre hp0 hps hpN hpl hcl
      go_wp2_with fail
      refine (Calls.sB h8 (appendUint_any _ _ [] N (by omega) (IsBytes.none _) (by simp))).mono ?_
      rintro e w9 ⟨v1, rfl, h9⟩
      rw [HP.out.1] at h9
      clear h8 e00
      go_wp2_with fail
      go_loopw [8, 9] (fun cv iv wr => ∃ k : Nat, k ≤ N ∧ iv = .int .i64 k ∧ St w wr [] [(IsBytes · cv (pre k)), IsCells g6 (dkA b6 q6 X), (IsDk · (dkS b6 q6 X) X), (IsLists · (.slice lb N lq) l)]) (fun _ iv _ => N - (intOf iv).toNat)
      case atStart => exact ⟨0, by omega, rfl, h9⟩
      case round =>
        clear h9
        obtain ⟨k, hk, rfl, hst⟩ := hrel
        by_cases hlt : k < N
        · have hkl : k < l.length := by rw [HN.out]; exact hlt
          have hlti : (k : Int) < (N : Int) := by omega
          obtain ⟨_, _, e, -, -, -, hat⟩ := (hst.is 3 rfl : IsLists _ _ _).out
          rw [HN.out] at e
          cases e
          obtain ⟨gb, off, u, rfl, hcell, hu⟩ := hat k hkl
          obtain ⟨ub, uc, rfl, -⟩ := hu.out
          have hs := HP.out.2.1 k hkl
          have hrk := HA.out _ (List.getElem_mem hkl)
          have hpk := HP.out.2.2.2 k (by omega)
          obtain ⟨r, hr⟩ : ∃ r, l[k] = r := ⟨_, rfl⟩
          rw [hr] at hs hrk hu hcell
          clear hr hat
          obtain ⟨m, hm⟩ : ∃ m, r.length = m := ⟨_, rfl⟩
          rw [hm] at hcell hu hrk
          obtain ⟨x, hx⟩ : ∃ x : ByteArray, ⟨r.toArray⟩ = x := ⟨_, rfl⟩
          have hc := bytesStr hu
          rw [hx] at hc
          have hxs : x.size = m := by rw [← hx, ← hm]; rfl
          have hxd : x.data.toList = r := by rw [← hx]
          obtain ⟨cb, cc, rfl, -⟩ := (hst.is 0 rfl : IsBytes _ _ _).out
          have HC := Lib.hid (And.intro hc (And.intro hxs (And.intro hxd (And.intro hs (And.intro hm (And.intro hrk hpk))))))
          clear hc hxs hxd hx hs hm hrk hpk
          go_wp2_with (refine wpList_conv rfl 42 9 (.tmp 65) rfl (.slice ub m uc) (.string x) rfl HC.out.1 ?_)
          refine (Calls.sB hst (appendText_any _ _ (pre k) x (hst.is 0 rfl) (by rw [HC.out.2.1]; have := HC.out.2.2.2.2.2; omega))).mono ?_
          rintro e w2 ⟨v2, rfl, h2⟩
          rw [HC.out.2.2.1, ← HC.out.2.2.2.1] at h2
          go_wp2_with fail
          go_roundw
          case rel => exact ⟨k + 1, by omega, by go_num, h2.facts (fun P hP => by simp only [List.mem_cons, List.not_mem_nil, or_false] at hP ⊢; rcases hP with rfl | rfl | rfl | rfl <;> simp)⟩
          case measure => simp [intOf]; omega
        · obtain rfl : N = k := by omega
          rw [HP.out.2.2.1] at hst
          obtain ⟨c, hc⟩ : ∃ c, Wl.content l = c := ⟨_, rfl⟩
          have hcl : c.length ≤ 1200000000000 := by have := HP.out.2.2.2 N (by omega); rw [HP.out.2.2.1, hc] at this; exact this
          rw [hc] at hst
          have HCC := Lib.hid hc
          clear hc
          obtain ⟨cb, cc, rfl, -⟩ := (hst.is 0 rfl : IsBytes _ _ _).out
          obtain ⟨M, hM⟩ : ∃ M, c.length = M := ⟨_, rfl⟩
          rw [hM] at hst hcl ⊢
          have HM := Lib.hid hM
          clear hM
          have hm64 : (M : Int) < 18446744073709551616 := by omega
          have hlti : ¬ (N : Int) < (N : Int) := by omega
          go_wp2_with fail
          refine (Calls.sV hst (sum32_any _ c _ (hst.is 0 rfl))).mono ?_
          rintro e w3 ⟨rfl, h3⟩
          obtain ⟨r, hr⟩ : ∃ r, Crc.ext 0#32 c = r := ⟨_, rfl⟩
          rw [hr]
          have HRR := Lib.hid hr
          clear hr hst
          go_wp2_with fail
          refine (appendUint_any w3 (.slice none 0 0) [] M (by omega) (IsBytes.none _) (by simp)).mono ?_
          rintro e w4 ⟨v4, rfl, ho4, hb4⟩
          have hlen := Wire.encU_len10 (n := M) (by omega)
          have hp4 := (h3.is 0 rfl : IsBytes _ _ _).below hb4 rfl
          go_upto_region 17 with (at_builtin; go_loud (refine wpList_append_bytes rfl (.tmp 73) (.tmp 74) 42 42 rfl w3.heap.size 5 Try.underlying42 byte_info _ _ rfl ho4 _ c rfl (hp4.src Try.underlying42) (by rw [List.nil_append, HM.out]; omega) hb4.size ?_; intro v5 w5 ho5 hg5))
          have hb5 := Below.grown hb4 hg5 hb4.size (fun k hk => (World.ownsRow.lt ho4 k hk).1)
          have hx6 := sum4_new w5 r
          have hb6 := hb5.alloc hb5.size (.cells #[.int .u8 ((r.toNat : Int) % 256), .int .u8 ((r.toNat : Int) / 256 % 256), .int .u8 ((r.toNat : Int) / 65536 % 256), .int .u8 ((r.toNat : Int) / 16777216)] 5)
          have ho6 : AppB 5 w3.heap.size (w5.alloc (.cells #[.int .u8 ((r.toNat : Int) % 256), .int .u8 ((r.toNat : Int) / 256 % 256), .int .u8 ((r.toNat : Int) / 65536 % 256), .int .u8 ((r.toNat : Int) / 16777216)] 5)) v5 ([] ++ Wire.encU M ++ c) := AppB.below (.inl ho5) (show Below w5.heap.size w5 _ from (Below.refl _ _).alloc (Nat.le_refl _) _) rfl
          have HX6 := Lib.hid (And.intro hx6 (And.intro hb6 ho6))
          clear hx6 hb6 ho6
          have h4 : (sum4 r).length = 4 := rfl
          go_upto_region 18 with (at_builtin; go_loud (refine wpList_append_appb rfl (.tmp 76) (.tmp 88) 42 42 rfl w3.heap.size 5 Try.underlying42 byte_info _ _ rfl HX6.out.2.2 _ (sum4 r) (by simp [sum4]) rfl (HX6.out.1.src Try.underlying42) (by rw [List.length_append, List.nil_append, h4, HM.out]; omega) HX6.out.2.1.size w3 HX6.out.2.1 ?_; intro v7 w7 ho7 hb7))
          have e1 : [] ++ Wire.encU M ++ c ++ sum4 r = Wl.stream l := by
            unfold Wl.stream Wire.encF
            rw [HCC.out, HM.out, show Wire.sumOf c = r from HRR.out, List.nil_append]
          rw [e1] at ho7
          obtain ⟨s, hs⟩ : ∃ s, Wl.stream l = s := ⟨_, rfl⟩
          rw [hs] at ho7
          have HS := Lib.hid hs
          have hsl : n = 1 + s.length / 128 := by rw [← HNN.out, ← hs]; rfl
          obtain ⟨SL, hSL⟩ : ∃ x, s.length = x := ⟨_, rfl⟩
          rw [hSL] at hsl
          have HSL := Lib.hid (And.intro hSL hsl)
          have h10 := ((h3.call hb7).putOwn ho7 (fun k hk => by cases hk)).facts (fs' := [(IsBytes · v7 s), IsCells g6 (dkA b6 q6 X), (IsDk · (dkS b6 q6 X) X), (IsLists · (.slice lb N lq) l)]) (fun P hP => by simp only [List.mem_cons, List.not_mem_nil, or_false] at hP ⊢; rcases hP with rfl | rfl | rfl | rfl <;> simp)
          obtain ⟨sb, sq, rfl, hsq1, hsq2, -, -⟩ := (h10.is 0 rfl : IsBytes _ _ _).out
          unfold maxLen at hsq2
          rw [hSL] at h10 hsq1 ⊢
          have hslb : SL ≤ 8192 := by omega
          clear h3 hb4 ho4 hp4 hg5 hb5 ho5 HX6 hb7 ho7 e1 hs hSL hlen hcl hm64 hsl HP h4 HCC HRR
          go_wp2_with fail
          refine (sectors_s h10 (rs := l) HNN.out (h10.is 3 rfl) (by rw [HN.out]; omega) HA.out).mono ?_
          rintro e w11 ⟨rfl, h11⟩
          clear h10
          have hwm1 : IntKind.i64.wrap ((n : Int) * 128) = ((n * 128 : Nat) : Int) := by rw [IntKind.wrap_i64]; omega
          have hwm2 : IntKind.i64.wrap (((n * 128 : Nat) : Int) - 1) = ((n * 128 - 1 : Nat) : Int) := by rw [IntKind.wrap_i64]; omega
          obtain ⟨n128, hn128⟩ : ∃ x, n * 128 = x := ⟨_, rfl⟩
          rw [hn128] at hwm1 hwm2
          obtain ⟨K, hK⟩ : ∃ x, n128 - 1 = x := ⟨_, rfl⟩
          rw [hK] at hwm2
          have HK := Lib.hid (And.intro hn128 hK)
          have hKb : K ≤ 8192 := by omega
          clear hn128 hK
          go_wp2_with fail
          go_loopw [13] (fun iv wr => ∃ i : Nat, i ≤ K ∧ iv = .int .i64 i ∧ St w wr [] [(IsBytes · (.slice sb SL sq) s), IsCells g6 (dkA b6 q6 X), (IsDk · (dkS b6 q6 X) X), (IsLists · (.slice lb N lq) l)]) (fun iv _ => K - (intOf iv).toNat)
          case atStart => exact ⟨0, by omega, rfl, h11⟩
          case round =>
            clear h11
            obtain ⟨i, hi, rfl, hst⟩ := hrel
            obtain ⟨c0, c1, c2, c3⟩ := (hst.is 1 rfl : IsCells _ _ _).c4
            rw [HPL.out.2.1] at c0
            have hX := (hst.is 2 rfl : IsDk _ _ _)
            obtain ⟨_, _, e1, -, -, hatX⟩ := hX.open_
            simp only [dkS, Value.agg.injEq, Array.mk.injEq, List.cons.injEq, Value.slice.injEq] at e1
            obtain ⟨⟨e1, -, e3⟩, -⟩ := e1
            subst e1 e3
            by_cases hiK : i < K
            · have hiKi : (i : Int) < (K : Int) := by omega
              obtain ⟨L, y1, y2, y3, y4, y5⟩ := byte_at (sec := D0.sec) (n := n) (e := 64) (s := s) (i := i) hn1 (by rw [← XD.out]; simp [Dk.made]; omega) (by have := HK.out; omega)
              rw [← show X.sec = setAll D0.sec (sched 0 n 64 s) by rw [HPL.out.2.2.1, HS.out]] at y1
              obtain ⟨⟨ps, po⟩, hpp⟩ : ∃ q, placeR i = q := ⟨_, rfl⟩
              rw [hpp] at y1 y3 y4 y5
              simp only at y1 y3 y4 y5
              obtain ⟨hps, hL⟩ := List.getElem?_eq_some_iff.1 y1
              obtain ⟨gB, oB, ub, uc, e5, xB, yB⟩ := hatX ps hps
              subst e5
              rw [hL] at xB yB
              rw [y2] at xB yB
              obtain ⟨_, _, e6, -, -, -, -, yat⟩ := yB
              rw [y2] at e6
              cases e6
              obtain ⟨gC, oC, e7, yC⟩ := yat po (by rw [List.length_map, y2]; exact y5)
              subst e7
              obtain ⟨hpo, hy⟩ := List.getElem?_eq_some_iff.1 y3
              obtain ⟨y, hyy⟩ : ∃ y, s.getD i 0 = y := ⟨_, rfl⟩
              rw [hyy] at hy
              rw [List.getElem_map, hy] at yC
              have HPP := Lib.hid hpp
              have hps64 : ps < 64 := by omega
              have hpsi : ¬ (64 : Int) ≤ (ps : Int) := by omega
              have hpsn : ps < X.sec.length := hps
              have HYY := Lib.hid hyy
              clear hatX hL y1 y2 y3 y4 yat hy hpp hyy hX hps hpsn hpo
              go_wp2_with fail
              refine (place_any _ i (by omega)).mono ?_
              rintro e w12 ⟨rfl, rfl⟩
              rw [HPP.out]
              have h12 := hst
              clear hst
              by_cases his : i < SL
              · have hisi : (i : Int) < (SL : Int) := by omega
                obtain ⟨_, _, e8, -, -, -, -, sat⟩ := (h12.is 0 rfl : IsBytes _ _ _)
                rw [HSL.out.1] at e8
                cases e8
                obtain ⟨gS, oS, e9, yS⟩ := sat i (by rw [List.length_map, HSL.out.1]; exact his)
                subst e9
                rw [List.getElem_map, show s[i]'(by rw [HSL.out.1]; exact his) = y by rw [← HYY.out, List.getD_eq_getElem?_getD, List.getElem?_eq_getElem (by rw [HSL.out.1]; exact his)]; rfl] at yS
                have yS' : World.cell? _ ⟨gS, oS + i, none⟩ = some (.int .u8 (y.toNat : Int)) := yS
                have yC' : World.cell? _ ⟨gC, oC + po, none⟩ = some (.int .u8 (y.toNat : Int)) := yC
                clear sat yS yC
                go_upto_region 26 with fail
                have h13 := ((h12.keep (P := fun x => x.cell? ⟨g6, 0, none⟩ = some (.slice (some ⟨gB, oB, none⟩) 64 q6)) (Mono.cell _ _) c0).keep (P := fun x => x.cell? ⟨gB, oB + ps, none⟩ = some (.slice (some ⟨gC, oC, none⟩) 128 uc)) (Mono.cell _ _) xB).keep (P := fun x => x.cell? ⟨gC, oC + po, none⟩ = some (.int .u8 (y.toNat : Int))) (Mono.cell _ _) yC'
                clear h12 c0 c1 c2 c3 xB yS' yC'
                refine wp_region_st0 [pVal ?c26a_0, pVal ?c26a_1, pVal (.slice (some ⟨gB, oB, none⟩) 64 q6), pVal ?c26a_3, pVal (.bool false), pVal (.bool false), pVal ?c26a_6, pVal (.slice (some ⟨gB, oB, none⟩) 64 q6), pVal ?c26a_8, pVal (.pointer (some ⟨gB, oB + ps, none⟩)), pVal (.slice (some ⟨gC, oC, none⟩) 128 uc), pVal ?c26a_11, pVal (.pointer (some ⟨gC, oC + po, none⟩)), pVal (.int .u8 (y.toNat : Int)), pVal ?c26a_14, pVal (.bool false), pVal (.bool false)] (osC []) 148 [0, 0, 2, 6, 15, 31, 63, 127, 63, 511, 1023, 63, 4095, 8191, 63, 32767, 65535] [[], [], [(1, 113)], [(2, 114)], [(3, 115), (0, 112)], [(4, 116)], [(5, 117)], [(5, 117), (6, 118)], [(5, 117)], [(5, 117), (8, 120), (7, 119)], [(5, 117), (9, 121)], [(5, 117)], [(5, 117), (11, 123), (10, 122)], [(5, 117), (12, 124)], [(5, 117)], [(5, 117), (14, 126), (13, 125)], [(15, 127), (5, 117)]] [(0, 112), (1, 113), (2, 114), (3, 115), (4, 116), (5, 117), (6, 118), (7, 119), (8, 120), (9, 121), (10, 122), (11, 123), (12, 124), (13, 125), (14, 126), (15, 127), (16, 128)] (by kernel_rfl) rfl rfl h13 osC0 osC1 ?ob ?en
                case ob =>
                  refine ⟨?_, ?_, ?_, ?_, ?_, ?_, ?_, ?_, ?_, ?_, ?_, ?_, ?_, ?_, ?_, ?_, ?_, trivial⟩
                  · -- 0: t112 := Op.move (t14)
                    intro zx1 zx2 zx3 zx4 L V W hL hd hw hst 
                    refine ob_c rfl ?_ hst rfl
                    go_simp
                    try with_reducible rfl
                  · -- 1: t113 := Op.fieldAddr 24 (t6) 0
                    intro zx1 zx2 zx3 zx4 L V W hL hd hw hst 
                    refine ob_c rfl ?_ hst rfl
                    go_simp
                    try with_reducible rfl
                  · -- 2: t114 := Op.load 22 (t113)
                    intro zx1 zx2 zx3 zx4 L V W hL hd hw hst u1 e1 p1
                    obtain rfl : u1 = _ := p1
                    have hz := mask_is _ _ _ _ (hst.base 2 rfl : World.cell? _ _ = some _)
                    refine ob_c (by first | rfl | (simp [wantE, dstOf, zx1]; done)) ?_ hst rfl
                    go_simp
                    try with_reducible rfl
                  · -- 3: t115 := Op.call { callee := builtin Builtin.len, args := #[t114], argTypes := #[22] }
                    intro zx1 zx2 zx3 zx4 L V W hL hd hw hst u2 e2 p2
                    obtain rfl : u2 = _ := p2
                    refine ob_c rfl ?_ hst rfl
                    go_simp
                    try with_reducible rfl
                  · -- 4: t116 := Op.binOp BinOp.geq 3 (t112) (t115) 3
                    intro zx1 zx2 zx3 zx4 L V W hL hd hw hst u0 e0 p0 u3 e3 p3
                    obtain rfl : u0 = _ := p0
                    obtain rfl : u3 = _ := p3
                    refine ob_c (by first | rfl | (simp [wantE, dstOf, zx1]; done)) ?_ hst rfl
                    go_simp
                    all_goals (skip)
                  · -- 5: t117 := Op.move (t116)
                    intro zx1 zx2 zx3 zx4 L V W hL hd hw hst u4 e4 p4
                    obtain rfl : u4 = _ := p4
                    refine ob_c (by first | rfl | (simp [wantE, dstOf, zx1]; done)) ?_ hst rfl
                    go_simp
                    all_goals (skip)
                  · -- 6: t118 := Op.fieldAddr 24 (t6) 0
                    intro zx1 zx2 zx3 zx4 L V W hL hd hw hst u5 e5 p5
                    obtain rfl : u5 = _ := p5
                    refine ob_c (by first | rfl | (simp [wantE, dstOf, zx1]; done)) ?_ hst rfl
                    go_simp
                    try with_reducible rfl
                  · -- 7: t119 := Op.load 22 (t118)
                    intro zx1 zx2 zx3 zx4 L V W hL hd hw hst u6 e6 p6 u5 e5 p5
                    obtain rfl : u6 = _ := p6
                    obtain rfl : u5 = _ := p5
                    have hz := mask_is _ _ _ _ (hst.base 2 rfl : World.cell? _ _ = some _)
                    refine ob_c (by first | rfl | (simp [wantE, dstOf, zx1]; done)) ?_ hst rfl
                    go_simp
                    try with_reducible rfl
                  · -- 8: t120 := Op.move (t14)
                    intro zx1 zx2 zx3 zx4 L V W hL hd hw hst u5 e5 p5
                    obtain rfl : u5 = _ := p5
                    refine ob_c (by first | rfl | (simp [wantE, dstOf, zx1]; done)) ?_ hst rfl
                    go_simp
                    try with_reducible rfl
                  · -- 9: t121 := Op.indexAddr 22 (t119) (t120)
                    intro zx1 zx2 zx3 zx4 L V W hL hd hw hst u7 e7 p7 u8 e8 p8 u5 e5 p5
                    obtain rfl : u7 = _ := p7
                    obtain rfl : u8 = _ := p8
                    obtain rfl : u5 = _ := p5
                    refine ob_c (by first | rfl | (simp [wantE, dstOf, zx1]; done)) ?_ hst rfl
                    go_simp
                    all_goals (skip)
                  · -- 10: t122 := Op.load 42 (t121)
                    intro zx1 zx2 zx3 zx4 L V W hL hd hw hst u9 e9 p9 u5 e5 p5
                    obtain rfl : u9 = _ := p9
                    obtain rfl : u5 = _ := p5
                    have hz := mask_is _ _ _ _ (hst.base 1 rfl : World.cell? _ _ = some _)
                    refine ob_c (by first | rfl | (simp [wantE, dstOf, zx1]; done)) ?_ hst rfl
                    go_simp
                    try with_reducible rfl
                  · -- 11: t123 := Op.move (t15)
                    intro zx1 zx2 zx3 zx4 L V W hL hd hw hst u5 e5 p5
                    obtain rfl : u5 = _ := p5
                    refine ob_c (by first | rfl | (simp [wantE, dstOf, zx1]; done)) ?_ hst rfl
                    go_simp
                    try with_reducible rfl
                  · -- 12: t124 := Op.indexAddr 42 (t122) (t123)
                    intro zx1 zx2 zx3 zx4 L V W hL hd hw hst u10 e10 p10 u11 e11 p11 u5 e5 p5
                    obtain rfl : u10 = _ := p10
                    obtain rfl : u11 = _ := p11
                    obtain rfl : u5 = _ := p5
                    refine ob_c (by first | rfl | (simp [wantE, dstOf, zx1]; done)) ?_ hst rfl
                    go_simp
                    all_goals (exact fun h => absurd h (by omega))
                  · -- 13: t125 := Op.load 5 (t124)
                    intro zx1 zx2 zx3 zx4 L V W hL hd hw hst u12 e12 p12 u5 e5 p5
                    obtain rfl : u12 = _ := p12
                    obtain rfl : u5 = _ := p5
                    have hz := mask_is _ _ _ _ (hst.base 0 rfl : World.cell? _ _ = some _)
                    refine ob_c (by first | rfl | (simp [wantE, dstOf, zx1]; done)) ?_ hst rfl
                    go_simp
                    try with_reducible rfl
                  · -- 14: t126 := Op.move (t16)
                    intro zx1 zx2 zx3 zx4 L V W hL hd hw hst u5 e5 p5
                    obtain rfl : u5 = _ := p5
                    refine ob_c (by first | rfl | (simp [wantE, dstOf, zx1]; done)) ?_ hst rfl
                    go_simp
                    try with_reducible rfl
                  · -- 15: t127 := Op.binOp BinOp.neq 5 (t125) (t126) 5
                    intro zx1 zx2 zx3 zx4 L V W hL hd hw hst u13 e13 p13 u14 e14 p14 u5 e5 p5
                    obtain rfl : u13 = _ := p13
                    obtain rfl : u14 = _ := p14
                    obtain rfl : u5 = _ := p5
                    refine ob_c (by first | rfl | (simp [wantE, dstOf, zx1]; done)) ?_ hst rfl
                    go_simp
                    all_goals (skip)
                  · -- 16: t128 := Op.pick (t117) (const (bool true)) (t127)
                    intro zx1 zx2 zx3 zx4 L V W hL hd hw hst u5 e5 p5 u15 e15 p15
                    obtain rfl : u5 = _ := p5
                    obtain rfl : u15 = _ := p15
                    refine ob_c (by first | rfl | (simp [wantE, dstOf, zx1]; done)) ?_ hst rfl
                    go_simp
                    all_goals (skip)
                case en =>
                  intro V W hst u0 e0 p0 u1 e1 p1 u2 e2 p2 u3 e3 p3 u4 e4 p4 u5 e5 p5 u6 e6 p6 u7 e7 p7 u8 e8 p8 u9 e9 p9 u10 e10 p10 u11 e11 p11 u12 e12 p12 u13 e13 p13 u14 e14 p14 u15 e15 p15 u16 e16 p16
                  obtain rfl : u0 = _ := p0
                  obtain rfl : u1 = _ := p1
                  obtain rfl : u2 = _ := p2
                  obtain rfl : u3 = _ := p3
                  obtain rfl : u4 = _ := p4
                  obtain rfl : u5 = _ := p5
                  obtain rfl : u6 = _ := p6
                  obtain rfl : u7 = _ := p7
                  obtain rfl : u8 = _ := p8
                  obtain rfl : u9 = _ := p9
                  obtain rfl : u10 = _ := p10
                  obtain rfl : u11 = _ := p11
                  obtain rfl : u12 = _ := p12
                  obtain rfl : u13 = _ := p13
                  obtain rfl : u14 = _ := p14
                  obtain rfl : u15 = _ := p15
                  obtain rfl : u16 = _ := p16
                  simp only [EndAll, Act.put, List.getElem_toArray, List.getElem_cons_succ, List.getElem_cons_zero, List.setIfInBounds_toArray, List.set_cons_zero, List.set_cons_succ]
                  have h12 := hst.pop.pop.pop
                  clear hst h13
                  go_wp2_with fail
                  go_roundw
                  case rel => exact ⟨i + 1, by omega, by go_num, h12⟩
                  case measure => simp [intOf]; omega
              · have hisi : ¬ (i : Int) < (SL : Int) := by omega
                obtain rfl : y = 0 := by rw [← HYY.out, List.getD_eq_getElem?_getD, List.getElem?_eq_none (by rw [HSL.out.1]; omega)]; rfl
                have yC' : World.cell? _ ⟨gC, oC + po, none⟩ = some (.int .u8 0) := yC
                clear yC
                go_upto_region 26 with fail
                have h13 := ((h12.keep (P := fun x => x.cell? ⟨g6, 0, none⟩ = some (.slice (some ⟨gB, oB, none⟩) 64 q6)) (Mono.cell _ _) c0).keep (P := fun x => x.cell? ⟨gB, oB + ps, none⟩ = some (.slice (some ⟨gC, oC, none⟩) 128 uc)) (Mono.cell _ _) xB).keep (P := fun x => x.cell? ⟨gC, oC + po, none⟩ = some (.int .u8 0)) (Mono.cell _ _) yC'
                clear h12 c0 c1 c2 c3 xB yC'
                refine wp_region_st0 [pVal ?c26b_0, pVal ?c26b_1, pVal (.slice (some ⟨gB, oB, none⟩) 64 q6), pVal ?c26b_3, pVal (.bool false), pVal (.bool false), pVal ?c26b_6, pVal (.slice (some ⟨gB, oB, none⟩) 64 q6), pVal ?c26b_8, pVal (.pointer (some ⟨gB, oB + ps, none⟩)), pVal (.slice (some ⟨gC, oC, none⟩) 128 uc), pVal ?c26b_11, pVal (.pointer (some ⟨gC, oC + po, none⟩)), pVal (.int .u8 0), pVal ?c26b_14, pVal (.bool false), pVal (.bool false)] (osC []) 148 [0, 0, 2, 6, 15, 31, 63, 127, 63, 511, 1023, 63, 4095, 8191, 63, 32767, 65535] [[], [], [(1, 113)], [(2, 114)], [(3, 115), (0, 112)], [(4, 116)], [(5, 117)], [(5, 117), (6, 118)], [(5, 117)], [(5, 117), (8, 120), (7, 119)], [(5, 117), (9, 121)], [(5, 117)], [(5, 117), (11, 123), (10, 122)], [(5, 117), (12, 124)], [(5, 117)], [(5, 117), (14, 126), (13, 125)], [(15, 127), (5, 117)]] [(0, 112), (1, 113), (2, 114), (3, 115), (4, 116), (5, 117), (6, 118), (7, 119), (8, 120), (9, 121), (10, 122), (11, 123), (12, 124), (13, 125), (14, 126), (15, 127), (16, 128)] (by kernel_rfl) rfl rfl h13 osC0 osC1 ?ob ?en
                case ob =>
                  refine ⟨?_, ?_, ?_, ?_, ?_, ?_, ?_, ?_, ?_, ?_, ?_, ?_, ?_, ?_, ?_, ?_, ?_, trivial⟩
                  · -- 0: t112 := Op.move (t14)
                    intro zx1 zx2 zx3 zx4 L V W hL hd hw hst 
                    refine ob_c rfl ?_ hst rfl
                    go_simp
                    try with_reducible rfl
                  · -- 1: t113 := Op.fieldAddr 24 (t6) 0
                    intro zx1 zx2 zx3 zx4 L V W hL hd hw hst 
                    refine ob_c rfl ?_ hst rfl
                    go_simp
                    try with_reducible rfl
                  · -- 2: t114 := Op.load 22 (t113)
                    intro zx1 zx2 zx3 zx4 L V W hL hd hw hst u1 e1 p1
                    obtain rfl : u1 = _ := p1
                    have hz := mask_is _ _ _ _ (hst.base 2 rfl : World.cell? _ _ = some _)
                    refine ob_c (by first | rfl | (simp [wantE, dstOf, zx1]; done)) ?_ hst rfl
                    go_simp
                    try with_reducible rfl
                  · -- 3: t115 := Op.call { callee := builtin Builtin.len, args := #[t114], argTypes := #[22] }
                    intro zx1 zx2 zx3 zx4 L V W hL hd hw hst u2 e2 p2
                    obtain rfl : u2 = _ := p2
                    refine ob_c rfl ?_ hst rfl
                    go_simp
                    try with_reducible rfl
                  · -- 4: t116 := Op.binOp BinOp.geq 3 (t112) (t115) 3
                    intro zx1 zx2 zx3 zx4 L V W hL hd hw hst u0 e0 p0 u3 e3 p3
                    obtain rfl : u0 = _ := p0
                    obtain rfl : u3 = _ := p3
                    refine ob_c (by first | rfl | (simp [wantE, dstOf, zx1]; done)) ?_ hst rfl
                    go_simp
                    all_goals (skip)
                  · -- 5: t117 := Op.move (t116)
                    intro zx1 zx2 zx3 zx4 L V W hL hd hw hst u4 e4 p4
                    obtain rfl : u4 = _ := p4
                    refine ob_c (by first | rfl | (simp [wantE, dstOf, zx1]; done)) ?_ hst rfl
                    go_simp
                    all_goals (skip)
                  · -- 6: t118 := Op.fieldAddr 24 (t6) 0
                    intro zx1 zx2 zx3 zx4 L V W hL hd hw hst u5 e5 p5
                    obtain rfl : u5 = _ := p5
                    refine ob_c (by first | rfl | (simp [wantE, dstOf, zx1]; done)) ?_ hst rfl
                    go_simp
                    try with_reducible rfl
                  · -- 7: t119 := Op.load 22 (t118)
                    intro zx1 zx2 zx3 zx4 L V W hL hd hw hst u6 e6 p6 u5 e5 p5
                    obtain rfl : u6 = _ := p6
                    obtain rfl : u5 = _ := p5
                    have hz := mask_is _ _ _ _ (hst.base 2 rfl : World.cell? _ _ = some _)
                    refine ob_c (by first | rfl | (simp [wantE, dstOf, zx1]; done)) ?_ hst rfl
                    go_simp
                    try with_reducible rfl
                  · -- 8: t120 := Op.move (t14)
                    intro zx1 zx2 zx3 zx4 L V W hL hd hw hst u5 e5 p5
                    obtain rfl : u5 = _ := p5
                    refine ob_c (by first | rfl | (simp [wantE, dstOf, zx1]; done)) ?_ hst rfl
                    go_simp
                    try with_reducible rfl
                  · -- 9: t121 := Op.indexAddr 22 (t119) (t120)
                    intro zx1 zx2 zx3 zx4 L V W hL hd hw hst u7 e7 p7 u8 e8 p8 u5 e5 p5
                    obtain rfl : u7 = _ := p7
                    obtain rfl : u8 = _ := p8
                    obtain rfl : u5 = _ := p5
                    refine ob_c (by first | rfl | (simp [wantE, dstOf, zx1]; done)) ?_ hst rfl
                    go_simp
                    all_goals (skip)
                  · -- 10: t122 := Op.load 42 (t121)
                    intro zx1 zx2 zx3 zx4 L V W hL hd hw hst u9 e9 p9 u5 e5 p5
                    obtain rfl : u9 = _ := p9
                    obtain rfl : u5 = _ := p5
                    have hz := mask_is _ _ _ _ (hst.base 1 rfl : World.cell? _ _ = some _)
                    refine ob_c (by first | rfl | (simp [wantE, dstOf, zx1]; done)) ?_ hst rfl
                    go_simp
                    try with_reducible rfl
                  · -- 11: t123 := Op.move (t15)
                    intro zx1 zx2 zx3 zx4 L V W hL hd hw hst u5 e5 p5
                    obtain rfl : u5 = _ := p5
                    refine ob_c (by first | rfl | (simp [wantE, dstOf, zx1]; done)) ?_ hst rfl
                    go_simp
                    try with_reducible rfl
                  · -- 12: t124 := Op.indexAddr 42 (t122) (t123)
                    intro zx1 zx2 zx3 zx4 L V W hL hd hw hst u10 e10 p10 u11 e11 p11 u5 e5 p5
                    obtain rfl : u10 = _ := p10
                    obtain rfl : u11 = _ := p11
                    obtain rfl : u5 = _ := p5
                    refine ob_c (by first | rfl | (simp [wantE, dstOf, zx1]; done)) ?_ hst rfl
                    go_simp
                    all_goals (exact fun h => absurd h (by omega))
                  · -- 13: t125 := Op.load 5 (t124)
                    intro zx1 zx2 zx3 zx4 L V W hL hd hw hst u12 e12 p12 u5 e5 p5
                    obtain rfl : u12 = _ := p12
                    obtain rfl : u5 = _ := p5
                    have hz := mask_is _ _ _ _ (hst.base 0 rfl : World.cell? _ _ = some _)
                    refine ob_c (by first | rfl | (simp [wantE, dstOf, zx1]; done)) ?_ hst rfl
                    go_simp
                    try with_reducible rfl
                  · -- 14: t126 := Op.move (t16)
                    intro zx1 zx2 zx3 zx4 L V W hL hd hw hst u5 e5 p5
                    obtain rfl : u5 = _ := p5
                    refine ob_c (by first | rfl | (simp [wantE, dstOf, zx1]; done)) ?_ hst rfl
                    go_simp
                    try with_reducible rfl
                  · -- 15: t127 := Op.binOp BinOp.neq 5 (t125) (t126) 5
                    intro zx1 zx2 zx3 zx4 L V W hL hd hw hst u13 e13 p13 u14 e14 p14 u5 e5 p5
                    obtain rfl : u13 = _ := p13
                    obtain rfl : u14 = _ := p14
                    obtain rfl : u5 = _ := p5
                    refine ob_c (by first | rfl | (simp [wantE, dstOf, zx1]; done)) ?_ hst rfl
                    go_simp
                    all_goals (skip)
                  · -- 16: t128 := Op.pick (t117) (const (bool true)) (t127)
                    intro zx1 zx2 zx3 zx4 L V W hL hd hw hst u5 e5 p5 u15 e15 p15
                    obtain rfl : u5 = _ := p5
                    obtain rfl : u15 = _ := p15
                    refine ob_c (by first | rfl | (simp [wantE, dstOf, zx1]; done)) ?_ hst rfl
                    go_simp
                    all_goals (skip)
                case en =>
                  intro V W hst u0 e0 p0 u1 e1 p1 u2 e2 p2 u3 e3 p3 u4 e4 p4 u5 e5 p5 u6 e6 p6 u7 e7 p7 u8 e8 p8 u9 e9 p9 u10 e10 p10 u11 e11 p11 u12 e12 p12 u13 e13 p13 u14 e14 p14 u15 e15 p15 u16 e16 p16
                  obtain rfl : u0 = _ := p0
                  obtain rfl : u1 = _ := p1
                  obtain rfl : u2 = _ := p2
                  obtain rfl : u3 = _ := p3
                  obtain rfl : u4 = _ := p4
                  obtain rfl : u5 = _ := p5
                  obtain rfl : u6 = _ := p6
                  obtain rfl : u7 = _ := p7
                  obtain rfl : u8 = _ := p8
                  obtain rfl : u9 = _ := p9
                  obtain rfl : u10 = _ := p10
                  obtain rfl : u11 = _ := p11
                  obtain rfl : u12 = _ := p12
                  obtain rfl : u13 = _ := p13
                  obtain rfl : u14 = _ := p14
                  obtain rfl : u15 = _ := p15
                  obtain rfl : u16 = _ := p16
                  simp only [EndAll, Act.put, List.getElem_toArray, List.getElem_cons_succ, List.getElem_cons_zero, List.setIfInBounds_toArray, List.set_cons_zero, List.set_cons_succ]
                  have h12 := hst.pop.pop.pop
                  clear hst h13
                  go_wp2_with fail
                  go_roundw
                  case rel => exact ⟨i + 1, by omega, by go_num, h12⟩
                  case measure => simp [intOf]; omega
            · have hiKi : ¬ (i : Int) < (K : Int) := by omega
              have hh := sched_head (sec := D0.sec) (p := 0) (n := n) (e := 64) (s := s) (by rw [← XD.out]; simp [Dk.made])
              rw [← show X.sec = setAll D0.sec (sched 0 n 64 s) by rw [HPL.out.2.2.1, HS.out]] at hh
              obtain ⟨h00, hL⟩ := List.getElem?_eq_some_iff.1 hh
              obtain ⟨gB, oB, ub, uc, e5, xB, yB⟩ := hatX 0 h00
              subst e5
              rw [hL] at xB yB
              rw [headS_len] at xB yB
              obtain ⟨_, _, e6, -, -, -, -, yat⟩ := yB
              rw [headS_len] at e6
              cases e6
              obtain ⟨gC, oC, e7, yC⟩ := yat 127 (by rw [List.length_map, headS_len]; omega)
              subst e7
              have hm : (headS s)[127]'(by rw [headS_len]; omega) = 165 := by have := headS_mark s; rw [List.getD_eq_getElem?_getD, List.getElem?_eq_getElem (by rw [headS_len]; omega)] at this; exact this
              rw [List.getElem_map, hm] at yC
              have yC1 : World.cell? _ ⟨gC, oC + 127, none⟩ = some (.int .u8 165) := yC
              rw [Nat.add_zero] at xB
              have hv1 : IntKind.i64.wrap ((n : Int) - 1) = ((n - 1 : Nat) : Int) := by rw [IntKind.wrap_i64]; omega
              have hv2 : IntKind.i64.wrap (((n - 1 : Nat) : Int) * 128) = (((n - 1) * 128 : Nat) : Int) := by rw [IntKind.wrap_i64]; omega
              have hv3 : IntKind.i64.wrap ((((n - 1) * 128 : Nat) : Int) - 1) = (((n - 1) * 128 : Nat) : Int) - 1 := by rw [IntKind.wrap_i64]; omega
              have hgt : (((n - 1) * 128 : Nat) : Int) - 1 < (SL : Int) := by have := HSL.out.2; omega
              obtain ⟨na, hna⟩ : ∃ x, (n - 1) * 128 = x := ⟨_, rfl⟩
              rw [hna] at hv2 hv3 hgt
              obtain ⟨nb, hnb⟩ : ∃ x, n - 1 = x := ⟨_, rfl⟩
              rw [hnb] at hv1 hv2
              have hb := hst.below
              clear hatX hL hh yat hm yC hX h00 hna hnb hst
              go_wp2_with fail
              go_ret
              exact ⟨rfl, hb⟩
end Go.Proofs.Ytnfgapdpnihicaa
