/- The walk over WalDamage: the program. -/
import Derived.Test.YtnfgapdpnihicaaZLd31
set_option linter.unusedVariables false
set_option linter.unusedSimpArgs false
namespace Go.Proofs.Ytnfgapdpnihicaa
open Go Go.RowKit
open Wl

set_option maxRecDepth 30000 in
set_option maxHeartbeats 8000000 in
theorem damage_walk (w : World) (v : Value) (l : List (List UInt8)) (hv : IsLists w v l) (hsz : ∀ r ∈ l, r.length ≤ 140737488351232) (cut : Int) (hcut : -9223372036854775808 ≤ cut ∧ cut ≤ 9223372036854775807) (s : BitVec 32) :
    Calls Try.prog 8 #[v, .int .i64 cut, .int .u32 s.toNat] w fun e w' => e = .returned (.bool true) ∧ Below w.heap.size w w' := by
  obtain ⟨hi1, hi2⟩ := hcut
  obtain ⟨lb, lq, rfl, hq1, hq2, -, -⟩ := id hv.out
  unfold maxLen at hq2
  obtain ⟨N, hN⟩ : ∃ N, l.length = N := ⟨_, rfl⟩
  rw [hN] at hv hq1 ⊢
  have HN := Lib.hid hN
  have HSZ := Lib.hid hsz
  have key : ∃ c : Nat, (c : Int) ≤ 9223372036854775807 ∧ ((cut < 0 ∧ -(cut + 1) = (c : Int)) ∨ (¬ cut < 0 ∧ cut = (c : Int))) := by
    by_cases h : cut < 0
    · exact ⟨(-(cut + 1)).toNat, by omega, .inl ⟨h, by omega⟩⟩
    · exact ⟨cut.toNat, by omega, .inr ⟨h, by omega⟩⟩
  obtain ⟨c, hc, hcc⟩ := key
  have h0 := (St.start w).putOld (P := (IsLists · (.slice lb N lq) l)) (Mono.lists _ _) hv
  clear hv hsz hN
  go_enter Try.func8, Try.ntmps8
  go_wp2_with fail
  refine (Calls.sV h0 (example_any _)).mono ?_
  rintro e w1 ⟨rfl, h1⟩
  clear h0
  obtain ⟨D0, hD0⟩ : ∃ D, Dk.made 64 = D := ⟨_, rfl⟩
  have hok0 := (dk_made_ok 64 (by omega) (by omega)).1
  rw [hD0] at hok0
  have XD := Lib.hid hD0
  have XO := Lib.hid hok0
  clear hD0 hok0
  go_wp2_with fail
  refine (empty_s h1 64 0 64 (by omega) (by omega) (by omega) (by omega) XD.out).mono ?_
  rintro e w2 ⟨b0, q0, rfl, h2⟩
  clear h1
  go_upto_region 3 with (refine wpList_store_row rfl 24 (.tmp 8) (.tmp 30) rfl w2.heap.size (dkA b0 q0 D0) rfl rfl 24 _ (heap_alloc_new _ _) disk_info rfl (one4 rfl _ _ _) ?_)
  have h3 := h2.newVar #[.slice none 0 0, .int .i64 0, .int .i64 0, .bool false] (dkA b0 q0 D0) 24
  clear h2
  generalize World.setRow _ _ _ = W3 at h3 ⊢
  generalize w2.heap.size = g8 at h3 ⊢
  obtain ⟨r, hr⟩ : ∃ r, smallB D0 l = r := ⟨_, rfl⟩
  obtain ⟨c0, c1, c2, c3⟩ := (isCells_of (h3.at_ 0 rfl)).c4
  go_wp2_with fail
  refine (small_s h3 hr (h3.is 0 rfl) (h3.is 1 rfl)).mono ?_
  rintro e w4 ⟨rfl, h4⟩
  clear h3 c0 c1 c2 c3
  cases r with
  | false =>
    clear hr
    go_wp2_with fail
    go_ret
    exact ⟨rfl, h4.below⟩
  | true =>
    obtain ⟨-, hn200, -, hall⟩ := smallB_use hr (ok_secs XO.out) (fun r h => Nat.le_trans (HSZ.out r h) (by omega))
    rw [HN.out] at hn200
    have HA := Lib.hid (fun r h => Nat.le_trans (hall r h) (show 40000 ≤ 1048576 by omega))
    clear hr hall
    by_cases hN0 : N = 0
    · subst hN0
      go_wp2_with fail
      go_ret
      exact ⟨rfl, h4.below⟩
    · have hNb : ((N : Int) == 0) = false := beq_of (by omega)
      have hne : l ≠ [] := fun h => hN0 (by rw [← HN.out, h]; rfl)
      have HNE := Lib.hid hne
      obtain ⟨⟨X, xc⟩, hX⟩ : ∃ r, D0.app 0 64 l = r := ⟨_, rfl⟩
      have HX := Lib.hid hX
      clear hX hne
      go_wp2_with (refine wpList_load_row rfl 24 (.tmp 8) rfl g8 rfl 24 _ (0, 0) _ (h4.at_ 0 rfl) Try.underlying24 rfl disk_info ?_)
      refine (app_s h4 (d := D0) (f := 0) (m := 64) HX.out (by omega) (by omega) (h4.get 0 rfl) (h4.is 1 rfl) (by rw [HN.out]; omega) HA.out).mono ?_
      rintro e w5 ⟨b6, q6, rfl, h5⟩
      clear h4
      go_upto_region 6 with (refine wpList_store_row rfl 24 (.tmp 8) (.tmp 53) rfl g8 (dkA b6 q6 X) rfl rfl 24 _ (h5.at_ 0 rfl) disk_info rfl (one4 rfl _ _ _) ?_)
      have h6 := (h5.setRow (os1 := []) (cs' := dkA b6 q6 X)).facts (fs' := [(IsDk · (dkS b6 q6 X) X)]) (fun P hP => by simp only [List.mem_cons, List.not_mem_nil, or_false] at hP ⊢; rcases hP with rfl; simp)
      clear h5
      generalize World.setRow _ _ _ = W6 at h6 ⊢
      by_cases hxc : xc = 0
      case neg =>
        have hcb := bne_of hxc
        go_wp2_with fail
        go_ret
        exact ⟨rfl, h6.below⟩
      subst hxc
      obtain ⟨p1, p2, p3, p4, -, -⟩ := layout_plain (by rw [HN.out]; omega) HA.out HNE.out (XD.out.symm ▸ HX.out)
      have hwh := whole_yes p1 p2
      obtain ⟨n, hn⟩ : ∃ n, sizeL l = n := ⟨_, rfl⟩
      have hn1 : 1 ≤ n := by rw [← hn]; exact sizeL_pos _
      have hC := content_len (rs := l) (by rw [HN.out]; omega) HA.out
      have hru := head_readU hC
      have hhd := sched_head (sec := (Dk.made 64).sec) (p := 0) (n := sizeL l) (e := 64) (s := stream l) (by simp [Dk.made])
      rw [← p4] at hhd
      have hss := stream_size l
      have hnb := needs_bd (stream l).length
      rw [show needs (stream l).length = n from hn] at hnb
      rw [hn] at p3
      have hC1 : 1 ≤ (content l).length := by
        unfold content
        rw [List.length_append]
        have := Wire.encU_pos l.length
        omega
      obtain ⟨C, hCC⟩ : ∃ C, (content l).length = C := ⟨_, rfl⟩
      obtain ⟨a, haa⟩ : ∃ a, (Wire.encU (content l).length).length = a := ⟨_, rfl⟩
      rw [hCC] at hss hru hC1 hC
      rw [← hCC, haa] at hss hru
      rw [hCC] at hss hru
      have ha10 := Wire.encU_len10 (n := (content l).length) (by omega)
      rw [haa] at ha10
      have hC8 : C ≤ 8191 := by omega
      have HPL := Lib.hid (And.intro p1 (And.intro p2 (And.intro hwh (And.intro hn (And.intro hCC haa)))))
      have HRU := Lib.hid hru
      have HHD := Lib.hid hhd
      have HC0 := Lib.hid hC
      clear p1 p2 p4 hwh hn hss hnb hCC haa hru hhd hC
      go_wp2_with (refine wpList_load_row rfl 24 (.tmp 8) rfl g8 rfl 24 _ (0, 0) _ (h6.at_ 0 rfl) Try.underlying24 rfl disk_info ?_)
      refine (Calls.sV h6 (whole_any _ _ X (h6.is 0 rfl) 64)).mono ?_
      rintro e w7 ⟨rfl, h7⟩
      rw [HPL.out.2.2.1]
      clear h6
      obtain ⟨c0, c1, c2, c3⟩ := (isCells_of (h7.at_ 0 rfl)).c4
      rw [HPL.out.2.1] at c0
      have hX := (h7.is 0 rfl : IsDk _ _ _)
      obtain ⟨_, _, e1, -, -, hatX⟩ := hX.open_
      simp only [dkS, Value.agg.injEq, Array.mk.injEq, List.cons.injEq, Value.slice.injEq] at e1
      obtain ⟨⟨e1, -, e3⟩, -⟩ := e1
      subst e1 e3
      obtain ⟨h00, hL⟩ := List.getElem?_eq_some_iff.1 HHD.out
      obtain ⟨gB, oB, ub, uc, e5, xB, yB⟩ := hatX 0 h00
      subst e5
      rw [hL] at xB yB
      rw [headS_len] at xB yB
      rw [Nat.add_zero] at xB
      clear hatX hL h00 hX
      go_wp2_with fail
      refine (Calls.sV h7 (readUint_any _ _ _ 0 yB)).mono ?_
      rintro e w8 ⟨rfl, h8⟩
      rw [HRU.out]
      clear h7 c0 c1 c2 c3 xB yB
      have i1 : ¬ (C : Int) < 1 := by omega
      have i2 : ¬ (8192 : Int) < (C : Int) := by omega
      have i3 : IntKind.i64.wrap (C : Int) = (C : Int) := by rw [IntKind.wrap_i64]; omega
      obtain ⟨bit, e4, hbit⟩ : ∃ f : Nat, (c : Int) % (8 * ((C : Int) + 4)) = (f : Int) ∧ f < 8 * (C + 4) := ⟨c % (8 * (C + 4)), by rw [show (8 * ((C : Int) + 4)) = ((8 * (C + 4) : Nat) : Int) from by omega]; exact (Int.natCast_emod c (8 * (C + 4))).symm, Nat.mod_lt c (by omega)⟩
      have HE4 := Lib.hid e4
      clear e4
      go_upto_if 81 with fail
      go_cut [1] from 82 to 84 (fun u wx => u = .int .i64 c ∧ St w wx [(g8, .cells (dkA (some ⟨gB, oB, none⟩) q6 X) 24 (0, 0))] [(IsDk · (dkS (some ⟨gB, oB, none⟩) q6 X) X)])
      case first =>
        rcases hcc with ⟨hneg, hcv⟩ | ⟨hneg, rfl⟩
        · go_wp2_with fail
          go_meet
          case rel => exact ⟨rfl, h8⟩
        · go_wp2_with fail
          go_meet
          case rel => exact ⟨rfl, h8⟩
      case rest =>
      clear h8
      obtain ⟨rfl, h9⟩ := hcut
      have e4 := HE4.out
      clear hcc
      go_upto_if 99 with fail
      rw [e4]
      clear e4
      obtain ⟨en, hen⟩ : ∃ en, en = if bit < 8 * C then a + C else a + C + 4 := ⟨_, rfl⟩
      have hen8 : en ≤ a + C + 4 := by rw [hen]; split <;> omega
      have HEN := Lib.hid hen
      clear hen
      go_cut [14] from 99 to 101 (fun u wx => u = .int .i64 en ∧ St w wx [(g8, .cells (dkA (some ⟨gB, oB, none⟩) q6 X) 24 (0, 0))] [(IsDk · (dkS (some ⟨gB, oB, none⟩) q6 X) X)])
      case first =>
        by_cases hb8 : bit < 8 * C
        · have i4 : ¬ (8 * (C : Int)) ≤ (bit : Int) := by omega
          go_wp2_with fail
          go_meet
          case rel =>
            have e6 : (a : Int) + (C : Int) = (en : Int) := by have := HEN.out; rw [if_pos hb8] at this; omega
            exact ⟨by rw [← e6], h9⟩
        · have i4 : (8 * (C : Int)) ≤ (bit : Int) := by omega
          go_wp2_with fail
          go_meet
          case rel =>
            have e6 : (a : Int) + (C : Int) + 4 = (en : Int) := by have := HEN.out; rw [if_neg hb8] at this; omega
            exact ⟨by rw [← e6], h9⟩
      case rest =>
      clear h9
      obtain ⟨rfl, h10⟩ := hcut
      obtain ⟨i0, hi0, hi0b⟩ : ∃ i0 : Nat, (a : Int) + (bit : Int) / 8 = (i0 : Int) ∧ i0 = a + bit / 8 := ⟨a + bit / 8, by omega, rfl⟩
      have HI0 := Lib.hid hi0b
      have hi0c : i0 ≤ 100000 := by omega
      clear hi0b
      go_wp2_with fail
      refine (place_any _ i0 (by omega)).mono ?_
      rintro e w12 ⟨rfl, rfl⟩
      obtain ⟨⟨q, o0⟩, hqo⟩ : ∃ q, placeR i0 = q := ⟨_, rfl⟩
      rw [hqo]
      have hqq : (placeR (a + bit / 8)).1 = q := by rw [← HI0.out, hqo]
      have hqn : q < n := damage_sector HPL.out.2.2.2.1 (by rw [HPL.out.2.2.2.2.1]; exact HC0.out) HPL.out.2.2.2.2.2 (by rw [HPL.out.2.2.2.2.1]; exact hbit) hqq
      have i5 : ¬ (64 : Int) ≤ (q : Int) := by omega
      have i6 : (q : Int) < 64 := by omega
      have HQ := Lib.hid (And.intro hqq hqn)
      clear hqo hqq hi0
      have hb0 : Below w12.heap.size w12 (w12.alloc (.cells #[] 5)) := (Below.refl _ _).alloc (Nat.le_refl _) _
      have ho0 := OwnBytes.made 5 w12 w12.heap.size (Nat.le_refl _)
      have h11 := h10.call hb0
      obtain ⟨c0, c1, c2, c3⟩ := (isCells_of (h11.at_ 0 rfl)).c4
      rw [HPL.out.2.1] at c0
      have hX := (h11.is 0 rfl : IsDk _ _ _)
      obtain ⟨_, _, e1, -, -, hatX⟩ := hX.open_
      simp only [dkS, Value.agg.injEq, Array.mk.injEq, List.cons.injEq, Value.slice.injEq] at e1
      obtain ⟨⟨e1, -, e3⟩, -⟩ := e1
      subst e1 e3
      have hql : q < X.sec.length := by rw [HPL.out.2.1]; omega
      obtain ⟨gQ, oQ, uQ, cQ, e7, xQ, yQ⟩ := hatX q hql
      cases e7
      have hS128 := HPL.out.1.size q hql
      rw [hS128] at xQ yQ
      obtain ⟨S, hS⟩ : ∃ S, X.sec[q] = S := ⟨_, rfl⟩
      rw [hS] at yQ hS128
      have HS := Lib.hid (show X.sec.getD q [] = S by rw [← hS, List.getD_eq_getElem?_getD, List.getElem?_eq_getElem hql]; rfl)
      have HS128 := Lib.hid hS128
      clear hatX hX hS hql hS128
      obtain ⟨F, hF⟩ : ∃ F, F = 8 * a + bit - 8 * base q := ⟨_, rfl⟩
      obtain ⟨lim, hlim⟩ : ∃ x, x = 8 * (min en (base q + roof q) - base q) := ⟨_, rfl⟩
      have hlim8 : lim ≤ 1024 := by
        have h1 : min en (base q + roof q) ≤ base q + roof q := Nat.min_le_right _ _
        have h2 : roof q ≤ 128 := by unfold roof; split <;> omega
        omega
      have hpl := fun k => place_lim (a := a) (bit := bit) (en := en) (q := q) (k := k) HQ.out.1
      rw [← hF, ← hlim] at hpl
      have HPK := Lib.hid hpl
      have HFL := Lib.hid (And.intro hF hlim)
      clear hF hlim hpl
      go_upto_region 23 with (at_builtin; go_loud (refine wpList_append_bytes rfl (.tmp 112) (.tmp 117) 42 42 rfl w12.heap.size 5 Try.underlying42 byte_info _ [] rfl ho0 _ S rfl (yQ.src Try.underlying42) (by rw [HS128.out]; simp) hb0.size ?_; intro v3 w13 ho1 hg1))
      have hb1 := Below.grown hb0 hg1 hb0.size (fun k hk => (World.ownsRow.lt ho0 k hk).1)
      rw [List.nil_append] at ho1
      obtain ⟨gb, cp, rfl, hgB⟩ := ho1.shape (fun e => by have := HS128.out; rw [e] at this; cases this)
      rw [HS128.out] at ho1 ⊢
      clear hb0 ho0 h11 c0 c1 c2 c3 xQ yQ hg1
      go_wp2_with fail
      go_loopw [19, 20] (fun av iv wr => ∃ (j : Nat) (x : Bool), j ≤ 32 ∧ iv = .int .i64 j ∧ av = .bool x ∧ x = decide (Crc.maskTo lim F s.toNat j ≠ 0) ∧ OwnBytes 5 w12.heap.size wr (.slice (some ⟨gb, 0, none⟩) 128 cp) (Crc.flipE lim S F s.toNat j) ∧ Below w12.heap.size w12 wr) (fun _ iv _ => 32 - (intOf iv).toNat)
      case atStart => exact ⟨0, false, by omega, rfl, rfl, by simp [Crc.maskTo], ho1, hb1⟩
      case round =>
        clear ho1 hb1
        obtain ⟨j, x, hj, rfl, rfl, hxb, hoj, hbj⟩ := hrel
        have HB := Lib.hid hxb
        clear hxb
        by_cases hlt : j < 32
        · have hlti : (j : Int) < 32 := by omega
          obtain ⟨i, hi, hib⟩ : ∃ i : Nat, (a : Int) + ((bit : Int) + (j : Int)) / 8 = (i : Int) ∧ i = a + (bit + j) / 8 := ⟨a + (bit + j) / 8, by omega, rfl⟩
          obtain ⟨P1, P2, P3⟩ := HPK.out j
          rw [← hib] at P1 P2
          have hi5 : i ≤ 100000 := by omega
          have HI := Lib.hid hib
          have HP1 := Lib.hid P1
          have HP2 := Lib.hid P2
          have HP3 := Lib.hid P3
          clear hib P1 P2 P3
          go_wp2_with fail
          refine (place_any _ i (by omega)).mono ?_
          rintro e w14 ⟨rfl, rfl⟩
          obtain ⟨⟨ps, po⟩, hpp⟩ : ∃ r, placeR i = r := ⟨_, rfl⟩
          have P1 := HP1.out
          have P2 := HP2.out
          rw [hpp] at P1 P2 ⊢
          simp only at P1 P2
          clear hi hpp HP1 HP2
          by_cases hbt : s.toNat.testBit j = true
          · have hodd := (odd_bit _ _).2 hbt
            by_cases hin : F + j < lim
            · obtain ⟨hie, rfl⟩ := P1.2 hin
              have hpo := P2 rfl
              have hie2 : (i : Int) < (en : Int) := by omega
              have hidx : po < (Crc.flipE lim S F s.toNat j).length := by rw [Crc.flipE_length, HS128.out]; omega
              have hcl : w14.cell? ⟨gb, po, none⟩ = some (.int .u8 (((Crc.flipE lim S F s.toNat j).getD po 0).toNat : Int)) := by
                rw [hoj.cellAt _ hidx, List.getD_eq_getElem?_getD, List.getElem?_eq_getElem hidx]; rfl
              have hfr := hoj.frozenAt po
              obtain ⟨m8, hm8, hm8b⟩ : ∃ m : Nat, ((bit : Int) + (j : Int)) % 8 = (m : Int) ∧ m = (F + j) % 8 := ⟨(bit + j) % 8, by omega, HP3.out⟩
              generalize hy : (Crc.flipE lim S F s.toNat j).getD po 0 = y at hcl
              have HY := Lib.hid hy
              have hy8 := y.toNat_lt
              have hpo128 : po < 128 := by omega
              have hpoi : ¬ (128 : Int) ≤ (po : Int) := by omega
              have HO := Lib.hid hoj
              have HM8 := Lib.hid hm8b
              have HPO := Lib.hid hpo
              have HIN := Lib.hid hin
              have hm88 : m8 < 8 := by omega
              clear hy hidx hoj hm8b hpo P1 P2 hin hie
              go_upto_region 30 with fail
              go_region
              go_wp2_with fail
              go_roundw
              case rel =>
                refine ⟨j + 1, true, by omega, by go_num, rfl, ?_, ?_, (hbj.setCell hgB _).drew⟩
                · exact (decide_eq_true (p := Crc.maskTo lim F s.toNat (j + 1) ≠ 0) (fun e => ((Crc.maskTo_zero _ _ _ _).1 e).2 ⟨hbt, HIN.out⟩)).symm
                · rw [flip8, ← HY.out, Crc.flipE, if_pos ⟨hbt, HIN.out⟩, ← HPO.out, ← HM8.out]
                  exact HO.out.stored _ _
              case measure => simp [intOf]; omega
            · have hbit2 : ¬ (s.toNat.testBit j = true ∧ F + j < lim) := fun h => hin h.2
              by_cases hie : i < en
              · have hie2 : (i : Int) < (en : Int) := by omega
                have hpq : ¬ ps = q := fun h => hin (P1.1 ⟨hie, h⟩)
                have hpq2 : ((ps : Int) == (q : Int)) = false := beq_of (by omega)
                clear P1 P2
                go_wp2_with fail
                go_roundw
                case rel => exact ⟨j + 1, x, by omega, by go_num, rfl, by rw [Crc.maskTo, if_neg hbit2]; exact HB.out, by rw [Crc.flipE, if_neg hbit2]; exact hoj, hbj⟩
                case measure => simp [intOf]; omega
              · have hie2 : ¬ (i : Int) < (en : Int) := by omega
                clear P1 P2
                go_wp2_with fail
                go_roundw
                case rel => exact ⟨j + 1, x, by omega, by go_num, rfl, by rw [Crc.maskTo, if_neg hbit2]; exact HB.out, by rw [Crc.flipE, if_neg hbit2]; exact hoj, hbj⟩
                case measure => simp [intOf]; omega
          · have hodd : ¬ ((s.toNat : Int) / 2 ^ j).tmod 2 = 1 := fun h => hbt ((odd_bit _ _).1 h)
            have hbit2 : ¬ (s.toNat.testBit j = true ∧ F + j < lim) := fun h => hbt h.1
            clear P1 P2
            go_wp2_with fail
            go_roundw
            case rel => exact ⟨j + 1, x, by omega, by go_num, rfl, by rw [Crc.maskTo, if_neg hbit2]; exact HB.out, by rw [Crc.flipE, if_neg hbit2]; exact hoj, hbj⟩
            case measure => simp [intOf]; omega
        · obtain rfl : j = 32 := by omega
          obtain ⟨Y, L, E, z, y1, y2, y3, y4⟩ := damage_read (bits := s.toNat) (by rw [HN.out]; omega) HA.out HNE.out (XD.out.symm ▸ HX.out) HPL.out.2.2.2.1 HPL.out.2.2.2.2.2 (by rw [HPL.out.2.2.2.2.1]; exact hbit) (by rw [HPL.out.2.2.2.2.1]; exact HEN.out) HQ.out.1 HFL.out.1 HFL.out.2
          rw [HS.out] at y1
          have h15 := (h10.call hbj).putOwn hoj (fun k hk => h10.lt k hk)
          have Y1 := Lib.hid y1
          have Y2 := Lib.hid y2
          have Y3 := Lib.hid y3
          have Y4 := Lib.hid y4
          clear y1 y2 y3 y4 h10 hbj hoj
          go_wp2_with (refine wpList_load_row rfl 24 (.tmp 8) rfl g8 rfl 24 _ (0, 0) _ (h15.at_ 0 rfl) Try.underlying24 rfl disk_info ?_)
          refine (write_s h15 (d := X) Y1.out (h15.get 1 rfl) (h15.is 0 rfl)).mono ?_
          rintro e w16 ⟨b16, q16, rfl, h16⟩
          clear h15
          go_upto_region 33 with (refine wpList_store_row rfl 24 (.tmp 8) (.tmp 167) rfl g8 (dkA b16 q16 Y) rfl rfl 24 _ (h16.at_ 0 rfl) disk_info rfl (one4 rfl _ _ _) ?_)
          have h17 := (h16.setRow (os1 := []) (cs' := dkA b16 q16 Y)).facts (fs' := [(IsDk · (dkS b16 q16 Y) Y)]) (fun P hP => by simp only [List.mem_cons, List.not_mem_nil, or_false] at hP ⊢; rcases hP with rfl; simp)
          clear h16
          generalize World.setRow _ _ _ = W17 at h17 ⊢
          go_wp2_with (refine wpList_load_row rfl 24 (.tmp 8) rfl g8 rfl 24 _ (0, 0) _ (h17.at_ 0 rfl) Try.underlying24 rfl disk_info ?_)
          refine (read_s h17 (d := Y) Y2.out (by omega) (by omega) (h17.is 0 rfl)).mono ?_
          rintro e w18 ⟨b18, q18, rfl, h18⟩
          clear h17
          cases x with
          | false =>
            obtain rfl := Y4.out (by have := HB.out; simpa using this.symm)
            go_wp2_with fail
            go_ret
            exact ⟨rfl, h18.below⟩
          | true =>
            obtain ⟨rfl, rfl⟩ := Y3.out (by have := HB.out; simpa using this.symm)
            go_wp2_with fail
            go_ret
            exact ⟨rfl, h18.below⟩
end Go.Proofs.Ytnfgapdpnihicaa
