/- The walk over WalCrashes. -/
import Derived.Test.YtnfgapdpnihicaaZLm31
set_option linter.unusedVariables false
set_option linter.unusedSimpArgs false
namespace Go.Proofs.Ytnfgapdpnihicaa
open Go Go.RowKit

set_option maxRecDepth 8000 in
set_option maxHeartbeats 8000000 in
theorem crashes_walk (w : World) (v : Value) (d : Dk) (hv : IsDk w v d) (hsd : ∀ s ∈ d.sec, s.length ≤ 140737488351232) (f : Int) (hf : -9223372036854775808 ≤ f ∧ f ≤ 9223372036854775807) (m : Int) (hm : -9223372036854775808 ≤ m ∧ m ≤ 9223372036854775807)
    (rv : Value) (rs : List (List UInt8)) (hr : IsLists w rv rs) (hsr : ∀ r ∈ rs, r.length ≤ 140737488351232) (mv : Value) (ms : List (List UInt8)) (hms : IsLists w mv ms) (hsm : ∀ r ∈ ms, r.length ≤ 140737488351232) (left : Int) (hl : -9223372036854775808 ≤ left ∧ left ≤ 9223372036854775807) (tear : Int) (ht : -9223372036854775808 ≤ tear ∧ tear ≤ 9223372036854775807) :
    Calls Try.prog 6 #[v, .int .i64 f, .int .i64 m, rv, mv, .int .i64 left, .int .i64 tear] w fun e w' => e = .returned (.bool true) ∧ Below w.heap.size w w' := by
  obtain ⟨bd, qd, rfl⟩ := hv.shape
  obtain ⟨rb, rq, rfl⟩ := hr.shape
  obtain ⟨mb, mq, rfl⟩ := hms.shape
  obtain ⟨N, hN⟩ : ∃ N, rs.length = N := ⟨_, rfl⟩
  obtain ⟨M, hM⟩ : ∃ N, ms.length = N := ⟨_, rfl⟩
  rw [hN] at hr ⊢
  rw [hM] at hms ⊢
  have HN := Lib.hid hN
  have HM := Lib.hid hM
  have HSD := Lib.hid hsd
  have HSR := Lib.hid hsr
  have HSM := Lib.hid hsm
  have h0 := ((((St.start w).putOld (P := (IsLists · (.slice mb M mq) ms)) (Mono.lists _ _) hms).putOld (P := (IsLists · (.slice rb N rq) rs)) (Mono.lists _ _) hr).putOld (Mono.dk _ _) hv).boxC (dkA bd qd d) 24
  clear hv hsd hr hsr hms hsm hN hM
  go_enter Try.func6, Try.ntmps6
  go_wp2_with fail
  refine (Calls.sV h0 (example_any _)).mono ?_
  rintro e w1 ⟨rfl, h1⟩
  clear h0
  obtain ⟨O, hO⟩ : ∃ D, d.restart = D := ⟨_, rfl⟩
  have XO := Lib.hid hO
  clear hO
  obtain ⟨⟨BF, E, ec⟩, hsc⟩ : ∃ r, O.scan f m = r := ⟨_, rfl⟩
  have HSC := Lib.hid hsc
  obtain ⟨NB, hNB⟩ : ∃ N, BF.length = N := ⟨_, rfl⟩
  have HNB := Lib.hid hNB
  clear hsc hNB
  go_wp2_with (refine wpList_load_mid rfl 24 (.tmp 7) rfl w.heap.size 0 rfl [.slice bd d.sec.length qd, .int .i64 d.left, .int .i64 d.tear, .bool d.stopped] _ (h1.is 0 rfl : IsCells _ _ _).range Try.underlying24 rfl rfl ?_)
  refine (refRestart_s h1 (d := d) XO.out (h1.get 1 rfl)).mono ?_
  rintro e w2 ⟨b16, q16, rfl, h2⟩
  clear h1
  go_upto_region 3 with (refine wpList_store_row rfl 24 (.tmp 16) (.tmp 31) rfl w2.heap.size (dkA b16 q16 O) rfl rfl 24 _ (heap_alloc_new _ _) disk_info rfl (one4 rfl _ _ _) ?_)
  have h3 := (h2.newVar #[.slice none 0 0, .int .i64 0, .int .i64 0, .bool false] (dkA b16 q16 O) 24).shut
  clear h2
  generalize World.setRow _ _ _ = W3 at h3 ⊢
  generalize w2.heap.size = g16 at h3 ⊢
  go_wp2_with (refine wpList_load_mid rfl 24 (.tmp 16) rfl g16 0 rfl [.slice b16 O.sec.length q16, .int .i64 O.left, .int .i64 O.tear, .bool O.stopped] _ (h3.is 0 rfl : IsCells _ _ _).range Try.underlying24 rfl rfl ?_)
  refine (refRead_s h3 (d := O) HSC.out hf hm (h3.is 1 rfl)).mono ?_
  rintro e w4 ⟨b4, q4, rfl, h4⟩
  rw [HNB.out] at h4 ⊢
  clear h3
  obtain ⟨r1, hr1⟩ : ∃ r, smallB d rs = r := ⟨_, rfl⟩
  go_wp2_with (refine wpList_load_mid rfl 24 (.tmp 7) rfl w.heap.size 0 rfl [.slice bd d.sec.length qd, .int .i64 d.left, .int .i64 d.tear, .bool d.stopped] _ (h4.is 3 rfl : IsCells _ _ _).range Try.underlying24 rfl rfl ?_)
  refine (small_s h4 hr1 (h4.is 4 rfl) (h4.is 5 rfl)).mono ?_
  rintro e w5 ⟨rfl, h5⟩
  clear h4
  cases r1 with
  | false =>
    clear hr1
    go_wp2_with fail
    go_ret
    exact ⟨rfl, h5.below⟩
  | true =>
    have hus := smallB_use hr1 (fun s h => Nat.le_trans (HSD.out s h) (by omega)) (fun r h => Nat.le_trans (HSR.out r h) (by omega))
    have HUS := Lib.hid hus
    clear hr1 hus
    obtain ⟨r2, hr2⟩ : ∃ r, smallB d ms = r := ⟨_, rfl⟩
    obtain ⟨c0, c1, c2, c3⟩ := (h5.is 3 rfl : IsCells _ _ _).c4
    go_wp2_with fail
    refine (small_s h5 hr2 (h5.is 4 rfl) (h5.is 6 rfl)).mono ?_
    rintro e w6 ⟨rfl, h6⟩
    clear h5 c0 c1 c2 c3
    cases r2 with
    | false =>
      clear hr2
      go_wp2_with fail
      go_ret
      exact ⟨rfl, h6.below⟩
    | true =>
      have hus := smallB_use hr2 (fun s h => Nat.le_trans (HSD.out s h) (by omega)) (fun r h => Nat.le_trans (HSM.out r h) (by omega))
      have HUM := Lib.hid hus
      clear hr2 hus
      by_cases hec : ec = 0
      case neg =>
        have hecb := bne_of hec
        go_wp2_with fail
        go_ret
        exact ⟨rfl, h6.below⟩
      subst hec
      go_wp2_with (refine wpList_load_mid rfl 24 (.tmp 16) rfl g16 0 rfl [.slice b16 O.sec.length q16, .int .i64 O.left, .int .i64 O.tear, .bool O.stopped] _ (h6.is 1 rfl : IsCells _ _ _).range Try.underlying24 rfl rfl ?_)
      obtain ⟨⟨T, c1⟩, hT⟩ : ∃ r, O.fail left tear = r := ⟨_, rfl⟩
      have HT := Lib.hid hT
      clear hT
      refine (fail_s h6 (d := O) HT.out (h6.get 2 rfl)).mono ?_
      rintro e w7 ⟨b7, q7, rfl, h7⟩
      clear h6
      go_upto_region 7 with (refine wpList_store_row rfl 24 (.tmp 19) (.tmp 59) rfl w7.heap.size (dkA b7 q7 T) rfl rfl 24 _ (heap_alloc_new _ _) disk_info rfl (one4 rfl _ _ _) ?_)
      have h8 := (h7.newVar #[.slice none 0 0, .int .i64 0, .int .i64 0, .bool false] (dkA b7 q7 T) 24).shut
      clear h7
      generalize World.setRow _ _ _ = W8 at h8 ⊢
      generalize w7.heap.size = g19 at h8 ⊢
      by_cases hc1 : c1 = 0
      case neg =>
        have hcb := bne_of hc1
        go_wp2_with fail
        go_ret
        exact ⟨rfl, h8.below⟩
      subst hc1
      obtain ⟨⟨X, c⟩, hX⟩ : ∃ r, T.app f m rs = r := ⟨_, rfl⟩
      have hn1 : rs.length ≤ 1048576 := by have := HUS.out.2.1; omega
      have hn2 : ms.length ≤ 1048576 := by have := HUM.out.2.1; omega
      have hr1 : ∀ r ∈ rs, r.length ≤ 1048576 := fun r h => by have := HUS.out.2.2.2 r h; omega
      have hr2 : ∀ r ∈ ms, r.length ≤ 1048576 := fun r h => by have := HUM.out.2.2.2 r h; omega
      obtain ⟨p, k, rfl, rfl, hpk, hpl⟩ := crashes_plain HSC.out HT.out hX hn1 hr1
      have HX := Lib.hid hX
      have HPL := Lib.hid hpl
      have HB := Lib.hid (And.intro hn1 (And.intro hn2 (And.intro hr1 hr2)))
      clear hX hpl hn1 hn2 hr1 hr2
      go_wp2_with (refine wpList_load_mid rfl 24 (.tmp 19) rfl g19 0 rfl [.slice b7 T.sec.length q7, .int .i64 T.left, .int .i64 T.tear, .bool T.stopped] _ (h8.is 0 rfl : IsCells _ _ _).range Try.underlying24 rfl rfl ?_)
      refine (app_s h8 (d := T) HX.out hf hm (h8.get 1 rfl) (h8.is 7 rfl) HB.out.1 HB.out.2.2.1).mono ?_
      rintro e w9 ⟨b9, q9, rfl, h9⟩
      clear h8
      go_upto_region 10 with (refine wpList_store_row rfl 24 (.tmp 20) (.tmp 70) rfl w9.heap.size (dkA b9 q9 X) rfl rfl 24 _ (heap_alloc_new _ _) disk_info rfl (one4 rfl _ _ _) ?_)
      have h10 := (h9.newVar #[.slice none 0 0, .int .i64 0, .int .i64 0, .bool false] (dkA b9 q9 X) 24).shut
      clear h9
      generalize World.setRow _ _ _ = W10 at h10 ⊢
      generalize w9.heap.size = g20 at h10 ⊢
      rcases HPL.out with ⟨x1, x2, x3, x4⟩ | ⟨x1, L, E2, x2, x3⟩
      · obtain ⟨c0, c1, c2, c3⟩ := (h10.is 0 rfl : IsCells _ _ _).c4
        rw [x3] at c0
        have hb := h10.below
        clear h10 HPL
        rcases x4 with rfl | rfl
        · go_wp2_with fail
          go_ret
          exact ⟨rfl, hb⟩
        · go_wp2_with fail
          go_ret
          exact ⟨rfl, hb⟩
      · have hcode : ((c != 0) = false ∧ (c == 0) = true) ∨ ((c != 0) = true ∧ (c != 300) = false ∧ (c == 0) = false) := by
          rcases x1 with rfl | rfl <;> simp
        obtain ⟨Y, hY⟩ : ∃ Y, X.restart = Y := ⟨_, rfl⟩
        rw [hY] at x2
        obtain ⟨NL, hNL⟩ : ∃ n, L.length = n := ⟨_, rfl⟩
        have HNL := Lib.hid hNL
        have HY := Lib.hid hY
        have HLV := Lib.hid x2
        have HC := Lib.hid hcode
        have H3 := Lib.hid x3
        clear hY x2 hcode x3 x1 HPL hNL
        skip
        have hNBb : NB ≤ 17179869184 := by have := scan_many HSC.out; rw [HNB.out] at this; omega
        have hNLb : NL ≤ 17179869184 := by have := scan_many HLV.out.is; rw [HNL.out] at this; omega
        rcases HC.out with ⟨n1, n2⟩ | ⟨n1, n2, n3⟩
        · skip
          go_wp2_with (refine wpList_load_mid rfl 24 (.tmp 20) rfl g20 0 rfl [.slice b9 X.sec.length q9, .int .i64 X.left, .int .i64 X.tear, .bool X.stopped] _ (h10.is 0 rfl : IsCells _ _ _).range Try.underlying24 rfl rfl ?_)
          refine (restart_s h10 (d := X) HY.out (h10.get 1 rfl)).mono ?_
          rintro e w11 ⟨b11, q11, rfl, h11⟩
          clear h10
          go_upto_region 13 with (refine wpList_store_row rfl 24 (.tmp 21) (.tmp 94) rfl w11.heap.size (dkA b11 q11 Y) rfl rfl 24 _ (heap_alloc_new _ _) disk_info rfl (one4 rfl _ _ _) ?_)
          have h12 := (h11.newVar #[.slice none 0 0, .int .i64 0, .int .i64 0, .bool false] (dkA b11 q11 Y) 24).shut
          clear h11
          generalize World.setRow _ _ _ = W12 at h12 ⊢
          generalize w11.heap.size = g21 at h12 ⊢
          go_wp2_with (refine wpList_load_mid rfl 24 (.tmp 21) rfl g21 0 rfl [.slice b11 Y.sec.length q11, .int .i64 Y.left, .int .i64 Y.tear, .bool Y.stopped] _ (h12.is 0 rfl : IsCells _ _ _).range Try.underlying24 rfl rfl ?_)
          refine (read_s h12 (d := Y) HLV.out.is hf hm (h12.is 1 rfl)).mono ?_
          rintro e w13 ⟨b13, q13, rfl, h13⟩
          clear h12
          rw [HNL.out] at h13 ⊢
          obtain ⟨ad, had⟩ : ∃ b, decide (L = BF ++ rs) = b := ⟨_, rfl⟩
          have HAD := Lib.hid had
          clear had
          go_wp2_with fail
          refine (joined_s h13 (a := BF) (b := rs) rfl (h13.get 7 rfl) (h13.get 12 rfl) (by rw [HNB.out]; have h1 := HB.out.1; have h2 := hNBb; omega)).mono ?_
          rintro e w14 ⟨b14, q14, rfl, h14⟩
          clear h13
          generalize (BF ++ rs).length = NJ at h14 ⊢
          go_wp2_with fail
          refine (same_s h14 (a := L) (b := BF ++ rs) HAD.out (h14.is 1 rfl) (h14.is 0 rfl)).mono ?_
          rintro e w15 ⟨rfl, h15⟩
          clear h14
          cases ad with
          | true =>
            obtain ⟨⟨Z, c2⟩, hZ⟩ : ∃ r, Y.app p k ms = r := ⟨_, rfl⟩
            have hlw := live_app HLV.out HB.out.2.1 HB.out.2.2.2 hZ
            have HZ := Lib.hid hZ
            have HLW := Lib.hid hlw
            clear hZ hlw
            go_wp2_with (refine wpList_load_mid rfl 24 (.tmp 21) rfl g21 0 rfl [.slice b11 Y.sec.length q11, .int .i64 Y.left, .int .i64 Y.tear, .bool Y.stopped] _ (h15.is 2 rfl : IsCells _ _ _).range Try.underlying24 rfl rfl ?_)
            refine (app_s h15 (d := Y) HZ.out hf hm (h15.get 3 rfl) (h15.is 14 rfl) HB.out.2.1 HB.out.2.2.2).mono ?_
            rintro e w17 ⟨b17, q17, rfl, h17⟩
            clear h15
            go_upto_region 18 with (refine wpList_store_row rfl 24 (.tmp 25) (.tmp 129) rfl w17.heap.size (dkA b17 q17 Z) rfl rfl 24 _ (heap_alloc_new _ _) disk_info rfl (one4 rfl _ _ _) ?_)
            have h18 := (h17.newVar #[.slice none 0 0, .int .i64 0, .int .i64 0, .bool false] (dkA b17 q17 Z) 24).shut
            clear h17
            generalize World.setRow _ _ _ = W18 at h18 ⊢
            generalize w17.heap.size = g25 at h18 ⊢
            rcases HLW.out with ⟨rfl, -, -, z1, -⟩ | ⟨rfl, -⟩ | ⟨rfl, -⟩
            · have HZL := Lib.hid z1
              clear z1 HLW
              obtain ⟨NZ, hNZ⟩ : ∃ n, (L ++ ms).length = n := ⟨_, rfl⟩
              have HNZ := Lib.hid hNZ
              clear hNZ
              go_wp2_with (refine wpList_load_mid rfl 24 (.tmp 25) rfl g25 0 rfl [.slice b17 Z.sec.length q17, .int .i64 Z.left, .int .i64 Z.tear, .bool Z.stopped] _ (h18.is 0 rfl : IsCells _ _ _).range Try.underlying24 rfl rfl ?_)
              refine (read_s h18 (d := Z) HZL.out.is hf hm (h18.is 1 rfl)).mono ?_
              rintro e w19 ⟨b19, q19, rfl, h19⟩
              clear h18
              rw [HNZ.out] at h19 ⊢
              go_wp2_with fail
              refine (joined_s h19 (a := L) (b := ms) rfl (h19.get 4 rfl) (h19.get 17 rfl) (by rw [HNL.out]; have h1 := HB.out.2.1; have h2 := hNLb; omega)).mono ?_
              rintro e w20 ⟨b20, q20, rfl, h20⟩
              clear h19
              rw [HNZ.out] at h20 ⊢
              go_wp2_with fail
              refine (same_s h20 (a := L ++ ms) (b := L ++ ms) (decide_eq_true rfl) (h20.is 1 rfl) (h20.is 0 rfl)).mono ?_
              rintro e w21 ⟨rfl, h21⟩
              clear h20
              go_wp2_with fail
              go_ret
              exact ⟨rfl, h21.below⟩
            · have hb := h18.below
              clear h18 HLW
              go_wp2_with fail
              go_ret
              exact ⟨rfl, hb⟩
            · have hb := h18.below
              clear h18 HLW
              go_wp2_with fail
              go_ret
              exact ⟨rfl, hb⟩
          | false =>
            exact absurd (H3.out.resolve_right (fun h => h.2 (beq_iff_eq.1 n2))) (of_decide_eq_false HAD.out)
        · skip
          go_wp2_with (refine wpList_load_mid rfl 24 (.tmp 20) rfl g20 0 rfl [.slice b9 X.sec.length q9, .int .i64 X.left, .int .i64 X.tear, .bool X.stopped] _ (h10.is 0 rfl : IsCells _ _ _).range Try.underlying24 rfl rfl ?_)
          refine (restart_s h10 (d := X) HY.out (h10.get 1 rfl)).mono ?_
          rintro e w11 ⟨b11, q11, rfl, h11⟩
          clear h10
          go_upto_region 13 with (refine wpList_store_row rfl 24 (.tmp 21) (.tmp 94) rfl w11.heap.size (dkA b11 q11 Y) rfl rfl 24 _ (heap_alloc_new _ _) disk_info rfl (one4 rfl _ _ _) ?_)
          have h12 := (h11.newVar #[.slice none 0 0, .int .i64 0, .int .i64 0, .bool false] (dkA b11 q11 Y) 24).shut
          clear h11
          generalize World.setRow _ _ _ = W12 at h12 ⊢
          generalize w11.heap.size = g21 at h12 ⊢
          go_wp2_with (refine wpList_load_mid rfl 24 (.tmp 21) rfl g21 0 rfl [.slice b11 Y.sec.length q11, .int .i64 Y.left, .int .i64 Y.tear, .bool Y.stopped] _ (h12.is 0 rfl : IsCells _ _ _).range Try.underlying24 rfl rfl ?_)
          refine (read_s h12 (d := Y) HLV.out.is hf hm (h12.is 1 rfl)).mono ?_
          rintro e w13 ⟨b13, q13, rfl, h13⟩
          clear h12
          rw [HNL.out] at h13 ⊢
          obtain ⟨ad, had⟩ : ∃ b, decide (L = BF ++ rs) = b := ⟨_, rfl⟩
          have HAD := Lib.hid had
          clear had
          go_wp2_with fail
          refine (joined_s h13 (a := BF) (b := rs) rfl (h13.get 7 rfl) (h13.get 12 rfl) (by rw [HNB.out]; have h1 := HB.out.1; have h2 := hNBb; omega)).mono ?_
          rintro e w14 ⟨b14, q14, rfl, h14⟩
          clear h13
          generalize (BF ++ rs).length = NJ at h14 ⊢
          go_wp2_with fail
          refine (same_s h14 (a := L) (b := BF ++ rs) HAD.out (h14.is 1 rfl) (h14.is 0 rfl)).mono ?_
          rintro e w15 ⟨rfl, h15⟩
          clear h14
          cases ad with
          | true =>
            obtain ⟨⟨Z, c2⟩, hZ⟩ : ∃ r, Y.app p k ms = r := ⟨_, rfl⟩
            have hlw := live_app HLV.out HB.out.2.1 HB.out.2.2.2 hZ
            have HZ := Lib.hid hZ
            have HLW := Lib.hid hlw
            clear hZ hlw
            go_wp2_with (refine wpList_load_mid rfl 24 (.tmp 21) rfl g21 0 rfl [.slice b11 Y.sec.length q11, .int .i64 Y.left, .int .i64 Y.tear, .bool Y.stopped] _ (h15.is 2 rfl : IsCells _ _ _).range Try.underlying24 rfl rfl ?_)
            refine (app_s h15 (d := Y) HZ.out hf hm (h15.get 3 rfl) (h15.is 14 rfl) HB.out.2.1 HB.out.2.2.2).mono ?_
            rintro e w17 ⟨b17, q17, rfl, h17⟩
            clear h15
            go_upto_region 18 with (refine wpList_store_row rfl 24 (.tmp 25) (.tmp 129) rfl w17.heap.size (dkA b17 q17 Z) rfl rfl 24 _ (heap_alloc_new _ _) disk_info rfl (one4 rfl _ _ _) ?_)
            have h18 := (h17.newVar #[.slice none 0 0, .int .i64 0, .int .i64 0, .bool false] (dkA b17 q17 Z) 24).shut
            clear h17
            generalize World.setRow _ _ _ = W18 at h18 ⊢
            generalize w17.heap.size = g25 at h18 ⊢
            rcases HLW.out with ⟨rfl, -, -, z1, -⟩ | ⟨rfl, -⟩ | ⟨rfl, -⟩
            · have HZL := Lib.hid z1
              clear z1 HLW
              obtain ⟨NZ, hNZ⟩ : ∃ n, (L ++ ms).length = n := ⟨_, rfl⟩
              have HNZ := Lib.hid hNZ
              clear hNZ
              go_wp2_with (refine wpList_load_mid rfl 24 (.tmp 25) rfl g25 0 rfl [.slice b17 Z.sec.length q17, .int .i64 Z.left, .int .i64 Z.tear, .bool Z.stopped] _ (h18.is 0 rfl : IsCells _ _ _).range Try.underlying24 rfl rfl ?_)
              refine (read_s h18 (d := Z) HZL.out.is hf hm (h18.is 1 rfl)).mono ?_
              rintro e w19 ⟨b19, q19, rfl, h19⟩
              clear h18
              rw [HNZ.out] at h19 ⊢
              go_wp2_with fail
              refine (joined_s h19 (a := L) (b := ms) rfl (h19.get 4 rfl) (h19.get 17 rfl) (by rw [HNL.out]; have h1 := HB.out.2.1; have h2 := hNLb; omega)).mono ?_
              rintro e w20 ⟨b20, q20, rfl, h20⟩
              clear h19
              rw [HNZ.out] at h20 ⊢
              go_wp2_with fail
              refine (same_s h20 (a := L ++ ms) (b := L ++ ms) (decide_eq_true rfl) (h20.is 1 rfl) (h20.is 0 rfl)).mono ?_
              rintro e w21 ⟨rfl, h21⟩
              clear h20
              go_wp2_with fail
              go_ret
              exact ⟨rfl, h21.below⟩
            · have hb := h18.below
              clear h18 HLW
              go_wp2_with fail
              go_ret
              exact ⟨rfl, hb⟩
            · have hb := h18.below
              clear h18 HLW
              go_wp2_with fail
              go_ret
              exact ⟨rfl, hb⟩
          | false =>
            have hLB : L = BF := (H3.out.resolve_left (of_decide_eq_false HAD.out)).1
            go_wp2_with fail
            refine (same_s h15 (a := L) (b := BF) (decide_eq_true hLB) (h15.is 1 rfl) (h15.is 8 rfl)).mono ?_
            rintro e w16 ⟨rfl, h16⟩
            clear h15
            obtain ⟨⟨Z, c2⟩, hZ⟩ : ∃ r, Y.app p k ms = r := ⟨_, rfl⟩
            have hlw := live_app HLV.out HB.out.2.1 HB.out.2.2.2 hZ
            have HZ := Lib.hid hZ
            have HLW := Lib.hid hlw
            clear hZ hlw
            go_wp2_with (refine wpList_load_mid rfl 24 (.tmp 21) rfl g21 0 rfl [.slice b11 Y.sec.length q11, .int .i64 Y.left, .int .i64 Y.tear, .bool Y.stopped] _ (h16.is 2 rfl : IsCells _ _ _).range Try.underlying24 rfl rfl ?_)
            refine (app_s h16 (d := Y) HZ.out hf hm (h16.get 3 rfl) (h16.is 14 rfl) HB.out.2.1 HB.out.2.2.2).mono ?_
            rintro e w17 ⟨b17, q17, rfl, h17⟩
            clear h16
            go_upto_region 18 with (refine wpList_store_row rfl 24 (.tmp 25) (.tmp 129) rfl w17.heap.size (dkA b17 q17 Z) rfl rfl 24 _ (heap_alloc_new _ _) disk_info rfl (one4 rfl _ _ _) ?_)
            have h18 := (h17.newVar #[.slice none 0 0, .int .i64 0, .int .i64 0, .bool false] (dkA b17 q17 Z) 24).shut
            clear h17
            generalize World.setRow _ _ _ = W18 at h18 ⊢
            generalize w17.heap.size = g25 at h18 ⊢
            rcases HLW.out with ⟨rfl, -, -, z1, -⟩ | ⟨rfl, -⟩ | ⟨rfl, -⟩
            · have HZL := Lib.hid z1
              clear z1 HLW
              obtain ⟨NZ, hNZ⟩ : ∃ n, (L ++ ms).length = n := ⟨_, rfl⟩
              have HNZ := Lib.hid hNZ
              clear hNZ
              go_wp2_with (refine wpList_load_mid rfl 24 (.tmp 25) rfl g25 0 rfl [.slice b17 Z.sec.length q17, .int .i64 Z.left, .int .i64 Z.tear, .bool Z.stopped] _ (h18.is 0 rfl : IsCells _ _ _).range Try.underlying24 rfl rfl ?_)
              refine (read_s h18 (d := Z) HZL.out.is hf hm (h18.is 1 rfl)).mono ?_
              rintro e w19 ⟨b19, q19, rfl, h19⟩
              clear h18
              rw [HNZ.out] at h19 ⊢
              go_wp2_with fail
              refine (joined_s h19 (a := L) (b := ms) rfl (h19.get 4 rfl) (h19.get 17 rfl) (by rw [HNL.out]; have h1 := HB.out.2.1; have h2 := hNLb; omega)).mono ?_
              rintro e w20 ⟨b20, q20, rfl, h20⟩
              clear h19
              rw [HNZ.out] at h20 ⊢
              go_wp2_with fail
              refine (same_s h20 (a := L ++ ms) (b := L ++ ms) (decide_eq_true rfl) (h20.is 1 rfl) (h20.is 0 rfl)).mono ?_
              rintro e w21 ⟨rfl, h21⟩
              clear h20
              go_wp2_with fail
              go_ret
              exact ⟨rfl, h21.below⟩
            · have hb := h18.below
              clear h18 HLW
              go_wp2_with fail
              go_ret
              exact ⟨rfl, hb⟩
            · have hb := h18.below
              clear h18 HLW
              go_wp2_with fail
              go_ret
              exact ⟨rfl, hb⟩
end Go.Proofs.Ytnfgapdpnihicaa
