/- The specification of values: Read. -/
import Derived.Test.YtfpkibfofainaaaZR4S
import Derived.Test.YtfpkibfofainaaaZRvc
import Derived.Test.YtfpkibfofainaaaZPart
set_option linter.unusedVariables false
set_option linter.unusedSimpArgs false
namespace Go.Proofs.Ytfpkibfofainaaa
open Go.RowKit

set_option maxRecDepth 8000 in
set_option maxHeartbeats 4000000 in
theorem refReadV_any (w : World) (bv : Value) (l : List UInt8) (i : Int) (hv : IsBytes w bv l) (hi : i ≤ 9223372036854775807) (hl : l.length ≤ 140737488355328) :
    Calls Try.prog 63 #[bv, .int .i64 i] w fun e w' => e = .returned (.tuple #[(readV l i).1.val, .int .i64 (readV l i).2.1, .int .i64 (readV l i).2.2]) ∧ Below w.heap.size w w' := by
  obtain ⟨bs, bc, rfl, hlen, hcap, -, -⟩ := hv.out
  unfold maxLen at hcap
  obtain ⟨r, hr⟩ : ∃ r, readV l i = r := ⟨_, rfl⟩
  rw [hr]
  have HR := Lib.hid hr
  clear hr
  have h0 := ((St.start w).putOld (P := (IsBytes · (.slice bs l.length bc) l)) (Mono.bytes _ _) hv).alloc (.cells #[.int .i64 0, .int .i64 0, .string ⟨#[]⟩] 57)
  clear hv
  go_enter Try.func63, Try.ntmps63
  go_upto_region 1 with fail
  generalize World.alloc _ _ = W0 at h0 ⊢
  go_wp2_with fail
  refine (refLeft_any W0 _ l i (h0.is 0 rfl) hi).mono ?_
  rintro e w1 ⟨rfl, rfl⟩
  by_cases hbad : i < 0 ∨ (l.length : Int) < i
  · have hr2 : r = (Vl.zero, 0, 1) := by rw [← HR.out]; unfold readV; rw [if_pos hbad]
    have HR2 := Lib.hid hr2
    clear hr2
    rw [if_pos hbad]
    go_wp2_with (refine wpList_store_row rfl 57 (.tmp 4) (.tmp 16) rfl _ #[.int .i64 0, .int .i64 0, .string ⟨#[]⟩] rfl rfl 57 _ (h0.at_ 0 rfl) val_info rfl (one3 _ _ _) ?_)
    have h9 := h0.setRow (os1 := []) (cs' := #[.int .i64 0, .int .i64 0, .string ⟨#[]⟩])
    refine ret_val w.heap.size Vl.zero rfl rfl (h9.at_ 0 rfl) rfl ?_
    exact ⟨by rw [HR2.out]; rfl, h9.below⟩
  rw [if_neg hbad]
  by_cases h3 : i = (l.length : Int)
  · have hr2 : r = (Vl.zero, 0, 41) := by rw [← HR.out]; unfold readV; rw [if_neg hbad, if_pos h3]
    have HR2 := Lib.hid hr2
    clear hr2
    rw [show (l.length : Int) - i = 0 by omega]
    go_wp2_with (refine wpList_store_row rfl 57 (.tmp 4) (.tmp 19) rfl _ #[.int .i64 0, .int .i64 0, .string ⟨#[]⟩] rfl rfl 57 _ (h0.at_ 0 rfl) val_info rfl (one3 _ _ _) ?_)
    have h9 := h0.setRow (os1 := []) (cs' := #[.int .i64 0, .int .i64 0, .string ⟨#[]⟩])
    refine ret_val w.heap.size Vl.zero rfl rfl (h9.at_ 0 rfl) rfl ?_
    exact ⟨by rw [HR2.out]; rfl, h9.below⟩
  obtain ⟨j, rfl, hj⟩ : ∃ j : Nat, i = (j : Int) ∧ j < l.length := ⟨i.toNat, by omega, by omega⟩
  have hr3 : r = checked (readV0 l (j : Int)) := by rw [← HR.out]; unfold readV; rw [if_neg (by omega), if_neg h3]
  obtain ⟨b, off, rfl, hx⟩ := bytes_cell (h0.is 0 rfl : IsBytes w1 _ _) j hj
  have hyd : (l.getD (Int.toNat (j : Int)) 0) = l[j] := by rw [Int.toNat_natCast, List.getD_eq_getElem?_getD, List.getElem?_eq_getElem hj]; rfl
  unfold readV0 at hr3
  simp only [hyd] at hr3
  obtain ⟨yk, hyk⟩ : ∃ yk, (l[j]).toNat = yk := ⟨_, rfl⟩
  have hy8 := (l[j]).toNat_lt
  rw [hyk] at hx hr3 hy8
  clear hyd hyk HR
  obtain ⟨L, hL⟩ : ∃ L : Int, (l.length : Int) - (j : Int) = L := ⟨_, rfl⟩
  have HL := Lib.hid hL
  have HHL := Lib.hid hl
  have j1 : ¬ L < 0 := by omega
  have h3i := beq_of (show ¬ L = 0 by omega)
  rw [hL]
  have j2 : (j : Int) < (l.length : Int) := by omega
  have h2 := h0.alloc (.cells #[.int .i64 (yk : Int), .int .i64 0, .string ⟨#[]⟩] 57)
  clear hL hbad h3 h0
  go_upto_region 7 with fail
  clear hx
  generalize World.alloc w1 _ = W2 at h2 ⊢
  generalize w1.heap.size = g1 at h2 ⊢
  obtain ⟨k0, k1, k2⟩ := cells3 (h2.at_ 0 rfl)
  rcases (show yk = 0 ∨ yk = 1 ∨ yk = 2 ∨ yk = 3 ∨ yk = 4 ∨ yk = 5 ∨ 5 < yk from by omega) with rfl | rfl | rfl | rfl | rfl | rfl | hy5
  · have hr4 : r = checked (⟨0, 0, ⟨#[]⟩⟩, (j : Int) + 1, 0) := by rw [hr3]; simp
    have HQ := Lib.hid hr4
    clear hr4 hr3
    go_wp2_with fail
    obtain ⟨c, hc⟩ : ∃ c, (⟨0, 0, ⟨#[]⟩⟩ : Vl).check = c := ⟨_, rfl⟩
    have hk := fun w => refCheck_any w ⟨0, 0, ⟨#[]⟩⟩
    rw [hc] at hk
    simp only [Vl.val] at hk
    refine (Calls.sV h2 (hk _)).mono ?_
    rintro e w5 ⟨rfl, h5⟩
    clear hk
    have hq := HQ.out
    unfold checked at hq
    rw [if_pos rfl] at hq
    simp only [hc] at hq
    obtain ⟨c0, c1, c2⟩ := cells3 (h5.at_ 0 rfl)
    by_cases hc0 : c = 0
    · subst hc0
      rw [if_pos rfl] at hq
      have HR2 := Lib.hid hq
      clear hq hc
      go_wp2_with (refine wpList_store_row rfl 57 (.tmp 4) (.tmp 81) rfl _ #[.int .i64 (0), .int .i64 (0), .string ⟨#[]⟩] rfl rfl 57 _ (h5.at_ 1 rfl) val_info rfl (one3 _ _ _) ?_)
      have h9 := h5.setRow (os1 := [_]) (cs' := #[.int .i64 (0), .int .i64 (0), .string ⟨#[]⟩])
      refine ret_val w.heap.size ⟨0, 0, ⟨#[]⟩⟩ rfl rfl (h9.at_ 1 rfl) rfl ?_
      exact ⟨by rw [HR2.out]; rfl, h9.below⟩
    · rw [if_neg hc0] at hq
      have n1 := bne_of hc0
      have HR2 := Lib.hid hq
      clear hq hc
      go_wp2_with (refine wpList_store_row rfl 57 (.tmp 4) (.tmp 79) rfl _ #[.int .i64 0, .int .i64 0, .string ⟨#[]⟩] rfl rfl 57 _ (h5.at_ 1 rfl) val_info rfl (one3 _ _ _) ?_)
      have h9 := h5.setRow (os1 := [_]) (cs' := #[.int .i64 0, .int .i64 0, .string ⟨#[]⟩])
      refine ret_val w.heap.size Vl.zero rfl rfl (h9.at_ 1 rfl) rfl ?_
      exact ⟨by rw [HR2.out]; rfl, h9.below⟩
  · by_cases hend : L = 1
    · have hr4 : r = (Vl.zero, 0, 41) := by
        rw [hr3]
        simp only [show ((1 : Nat) : Int) = 1 from rfl, if_neg (show ¬ (1 : Int) = 0 by decide), if_pos (show (1 : Int) = 1 from rfl), ite_true]
        rw [if_pos (show (j : Int) + 1 = (l.length : Int) by have := HL.out; omega)]
        rfl
      have HR2 := Lib.hid hr4
      subst hend
      clear hr4 hr3
      go_wp2_with (refine wpList_store_row rfl 57 (.tmp 4) (.tmp 36) rfl _ #[.int .i64 0, .int .i64 0, .string ⟨#[]⟩] rfl rfl 57 _ (h2.at_ 1 rfl) val_info rfl (one3 _ _ _) ?_)
      have h9 := h2.setRow (os1 := [_]) (cs' := #[.int .i64 0, .int .i64 0, .string ⟨#[]⟩])
      refine ret_val w.heap.size Vl.zero rfl rfl (h9.at_ 1 rfl) rfl ?_
      exact ⟨by rw [HR2.out]; rfl, h9.below⟩
    · have hlj : j + 1 < l.length := by have := HL.out; omega
      obtain ⟨b', off', e, hx2⟩ := bytes_cell (h2.is 0 rfl : IsBytes W2 _ _) (j + 1) hlj
      cases e
      have hyd : (l.getD (Int.toNat (j : Int) + 1) 0) = l[j + 1]'hlj := by rw [Int.toNat_natCast, List.getD_eq_getElem?_getD, List.getElem?_eq_getElem (by omega)]; rfl
      obtain ⟨zk, hzk⟩ : ∃ zk, (l[j + 1]'hlj).toNat = zk := ⟨_, rfl⟩
      have hz8 := (l[j + 1]'hlj).toNat_lt
      rw [hzk] at hx2 hz8
      simp only [hyd, hzk] at hr3
      simp only [show ((1 : Nat) : Int) = 1 from rfl, if_neg (show ¬ (1 : Int) = 0 by decide), if_pos (show (1 : Int) = 1 from rfl), ite_true] at hr3
      rw [if_neg (show ¬ (j : Int) + 1 = (l.length : Int) by omega)] at hr3
      clear hyd hzk
      have e1 := beq_of hend
      have e2 : (j : Int) + 1 < (l.length : Int) := by omega
      have e3 : ((j : Int) + 1).toNat = j + 1 := by omega
      have f1 : W2.frozen? ⟨g1, 1, none⟩ = false := frozen_of_row _ _ _ _ _ (h2.at_ 0 rfl)
      have h7 := h2.setCell (os1 := []) (i := 1) (v := .int .i64 (zk : Int))
      obtain ⟨d0, d1, d2⟩ := cells3 (h7.at_ 0 rfl)
      by_cases hz : 1 < zk
      · rw [if_pos hz] at hr3
        have hr4 : r = (Vl.zero, 0, 3) := by rw [hr3]; rfl
        have HR2 := Lib.hid hr4
        have hzi : (1 : Int) < (zk : Int) := by omega
        clear hr4 hr3
        go_wp2_with (refine wpList_store_row rfl 57 (.tmp 4) (.tmp 79) rfl _ #[.int .i64 0, .int .i64 0, .string ⟨#[]⟩] rfl rfl 57 _ (h7.at_ 1 rfl) val_info rfl (one3 _ _ _) ?_)
        have h9 := h7.setRow (os1 := [_]) (cs' := #[.int .i64 0, .int .i64 0, .string ⟨#[]⟩])
        refine ret_val w.heap.size Vl.zero rfl rfl (h9.at_ 1 rfl) rfl ?_
        exact ⟨by rw [HR2.out]; rfl, h9.below⟩
      · rw [if_neg hz] at hr3
        have HQ := Lib.hid hr3
        have hzi : ¬ (1 : Int) < (zk : Int) := by omega
        clear hr3
        go_wp2_with fail
        obtain ⟨c, hc⟩ : ∃ c, (⟨1, (zk : Int), ⟨#[]⟩⟩ : Vl).check = c := ⟨_, rfl⟩
        have hk := fun w => refCheck_any w ⟨1, (zk : Int), ⟨#[]⟩⟩
        rw [hc] at hk
        simp only [Vl.val] at hk
        refine (Calls.sV h7 (hk _)).mono ?_
        rintro e w5 ⟨rfl, h5⟩
        clear hk
        have hq := HQ.out
        unfold checked at hq
        rw [if_pos rfl] at hq
        simp only [hc] at hq
        obtain ⟨c0, c1, c2⟩ := cells3 (h5.at_ 0 rfl)
        by_cases hc0 : c = 0
        · subst hc0
          rw [if_pos rfl] at hq
          have HR2 := Lib.hid hq
          clear hq hc
          go_wp2_with (refine wpList_store_row rfl 57 (.tmp 4) (.tmp 81) rfl _ #[.int .i64 (1), .int .i64 ((zk : Int)), .string ⟨#[]⟩] rfl rfl 57 _ (h5.at_ 1 rfl) val_info rfl (one3 _ _ _) ?_)
          have h9 := h5.setRow (os1 := [_]) (cs' := #[.int .i64 (1), .int .i64 ((zk : Int)), .string ⟨#[]⟩])
          refine ret_val w.heap.size ⟨1, (zk : Int), ⟨#[]⟩⟩ rfl rfl (h9.at_ 1 rfl) rfl ?_
          exact ⟨by rw [HR2.out]; rfl, h9.below⟩
        · rw [if_neg hc0] at hq
          have n1 := bne_of hc0
          have HR2 := Lib.hid hq
          clear hq hc
          go_wp2_with (refine wpList_store_row rfl 57 (.tmp 4) (.tmp 79) rfl _ #[.int .i64 0, .int .i64 0, .string ⟨#[]⟩] rfl rfl 57 _ (h5.at_ 1 rfl) val_info rfl (one3 _ _ _) ?_)
          have h9 := h5.setRow (os1 := [_]) (cs' := #[.int .i64 0, .int .i64 0, .string ⟨#[]⟩])
          refine ret_val w.heap.size Vl.zero rfl rfl (h9.at_ 1 rfl) rfl ?_
          exact ⟨by rw [HR2.out]; rfl, h9.below⟩
  · obtain ⟨n, x, c0, hri⟩ : ∃ n x c, Wire.readI l ((j : Int) + 1) = (n, x, c) := ⟨_, _, _, rfl⟩
    have hr4 : r = checked (⟨2, n, ⟨#[]⟩⟩, x, c0) := by rw [hr3]; simp [hri]
    have HQ0 := Lib.hid hr4
    clear hr4 hr3
    go_wp2_with fail
    refine (Calls.sV' h2 (refReadInt_any _ _ l _ (h2.is 0 rfl) (by have := HHL.out; omega) HHL.out)).mono ?_
    rintro e w6 ⟨rfl, h6⟩
    rw [hri]
    clear hri h2 k0 k1 k2
    obtain ⟨c0', c1, c2⟩ := cells3 (h6.at_ 0 rfl)
    have f1 : w6.frozen? ⟨g1, 1, none⟩ = false := frozen_of_row _ _ _ _ _ (h6.at_ 0 rfl)
    have h7 := h6.setCell (os1 := []) (i := 1) (v := .int .i64 n)
    by_cases hc0 : c0 = 0
    · subst hc0
      have HQ := HQ0
      obtain ⟨d0, d1, d2⟩ := cells3 (h7.at_ 0 rfl)
      go_wp2_with fail
      obtain ⟨c, hc⟩ : ∃ c, (⟨2, n, ⟨#[]⟩⟩ : Vl).check = c := ⟨_, rfl⟩
      have hk := fun w => refCheck_any w ⟨2, n, ⟨#[]⟩⟩
      rw [hc] at hk
      simp only [Vl.val] at hk
      refine (Calls.sV h7 (hk _)).mono ?_
      rintro e w5 ⟨rfl, h5⟩
      clear hk
      have hq := HQ.out
      unfold checked at hq
      rw [if_pos rfl] at hq
      simp only [hc] at hq
      obtain ⟨c0, c1, c2⟩ := cells3 (h5.at_ 0 rfl)
      by_cases hc0 : c = 0
      · subst hc0
        rw [if_pos rfl] at hq
        have HR2 := Lib.hid hq
        clear hq hc
        go_wp2_with (refine wpList_store_row rfl 57 (.tmp 4) (.tmp 81) rfl _ #[.int .i64 (2), .int .i64 (n), .string ⟨#[]⟩] rfl rfl 57 _ (h5.at_ 1 rfl) val_info rfl (one3 _ _ _) ?_)
        have h9 := h5.setRow (os1 := [_]) (cs' := #[.int .i64 (2), .int .i64 (n), .string ⟨#[]⟩])
        refine ret_val w.heap.size ⟨2, n, ⟨#[]⟩⟩ rfl rfl (h9.at_ 1 rfl) rfl ?_
        exact ⟨by rw [HR2.out]; rfl, h9.below⟩
      · rw [if_neg hc0] at hq
        have n1 := bne_of hc0
        have HR2 := Lib.hid hq
        clear hq hc
        go_wp2_with (refine wpList_store_row rfl 57 (.tmp 4) (.tmp 79) rfl _ #[.int .i64 0, .int .i64 0, .string ⟨#[]⟩] rfl rfl 57 _ (h5.at_ 1 rfl) val_info rfl (one3 _ _ _) ?_)
        have h9 := h5.setRow (os1 := [_]) (cs' := #[.int .i64 0, .int .i64 0, .string ⟨#[]⟩])
        refine ret_val w.heap.size Vl.zero rfl rfl (h9.at_ 1 rfl) rfl ?_
        exact ⟨by rw [HR2.out]; rfl, h9.below⟩
    · have n1 := bne_of hc0
      have n2 := beq_of hc0
      have hr5 : r = (Vl.zero, 0, c0) := by rw [HQ0.out]; unfold checked; rw [if_neg hc0]
      have HR2 := Lib.hid hr5
      clear hr5
      go_wp2_with (refine wpList_store_row rfl 57 (.tmp 4) (.tmp 79) rfl _ #[.int .i64 0, .int .i64 0, .string ⟨#[]⟩] rfl rfl 57 _ (h7.at_ 1 rfl) val_info rfl (one3 _ _ _) ?_)
      have h9 := h7.setRow (os1 := [_]) (cs' := #[.int .i64 0, .int .i64 0, .string ⟨#[]⟩])
      refine ret_val w.heap.size Vl.zero rfl rfl (h9.at_ 1 rfl) rfl ?_
      exact ⟨by rw [HR2.out]; rfl, h9.below⟩
  · obtain ⟨n, x, c0, hri⟩ : ∃ n x c, Wire.readI l ((j : Int) + 1) = (n, x, c) := ⟨_, _, _, rfl⟩
    have hr4 : r = checked (⟨3, n, ⟨#[]⟩⟩, x, c0) := by rw [hr3]; simp [hri]
    have HQ0 := Lib.hid hr4
    clear hr4 hr3
    go_wp2_with fail
    refine (Calls.sV' h2 (refReadInt_any _ _ l _ (h2.is 0 rfl) (by have := HHL.out; omega) HHL.out)).mono ?_
    rintro e w6 ⟨rfl, h6⟩
    rw [hri]
    clear hri h2 k0 k1 k2
    obtain ⟨c0', c1, c2⟩ := cells3 (h6.at_ 0 rfl)
    have f1 : w6.frozen? ⟨g1, 1, none⟩ = false := frozen_of_row _ _ _ _ _ (h6.at_ 0 rfl)
    have h7 := h6.setCell (os1 := []) (i := 1) (v := .int .i64 n)
    by_cases hc0 : c0 = 0
    · subst hc0
      have HQ := HQ0
      obtain ⟨d0, d1, d2⟩ := cells3 (h7.at_ 0 rfl)
      go_wp2_with fail
      obtain ⟨c, hc⟩ : ∃ c, (⟨3, n, ⟨#[]⟩⟩ : Vl).check = c := ⟨_, rfl⟩
      have hk := fun w => refCheck_any w ⟨3, n, ⟨#[]⟩⟩
      rw [hc] at hk
      simp only [Vl.val] at hk
      refine (Calls.sV h7 (hk _)).mono ?_
      rintro e w5 ⟨rfl, h5⟩
      clear hk
      have hq := HQ.out
      unfold checked at hq
      rw [if_pos rfl] at hq
      simp only [hc] at hq
      obtain ⟨c0, c1, c2⟩ := cells3 (h5.at_ 0 rfl)
      by_cases hc0 : c = 0
      · subst hc0
        rw [if_pos rfl] at hq
        have HR2 := Lib.hid hq
        clear hq hc
        go_wp2_with (refine wpList_store_row rfl 57 (.tmp 4) (.tmp 81) rfl _ #[.int .i64 (3), .int .i64 (n), .string ⟨#[]⟩] rfl rfl 57 _ (h5.at_ 1 rfl) val_info rfl (one3 _ _ _) ?_)
        have h9 := h5.setRow (os1 := [_]) (cs' := #[.int .i64 (3), .int .i64 (n), .string ⟨#[]⟩])
        refine ret_val w.heap.size ⟨3, n, ⟨#[]⟩⟩ rfl rfl (h9.at_ 1 rfl) rfl ?_
        exact ⟨by rw [HR2.out]; rfl, h9.below⟩
      · rw [if_neg hc0] at hq
        have n1 := bne_of hc0
        have HR2 := Lib.hid hq
        clear hq hc
        go_wp2_with (refine wpList_store_row rfl 57 (.tmp 4) (.tmp 79) rfl _ #[.int .i64 0, .int .i64 0, .string ⟨#[]⟩] rfl rfl 57 _ (h5.at_ 1 rfl) val_info rfl (one3 _ _ _) ?_)
        have h9 := h5.setRow (os1 := [_]) (cs' := #[.int .i64 0, .int .i64 0, .string ⟨#[]⟩])
        refine ret_val w.heap.size Vl.zero rfl rfl (h9.at_ 1 rfl) rfl ?_
        exact ⟨by rw [HR2.out]; rfl, h9.below⟩
    · have n1 := bne_of hc0
      have n2 := beq_of hc0
      have hr5 : r = (Vl.zero, 0, c0) := by rw [HQ0.out]; unfold checked; rw [if_neg hc0]
      have HR2 := Lib.hid hr5
      clear hr5
      go_wp2_with (refine wpList_store_row rfl 57 (.tmp 4) (.tmp 79) rfl _ #[.int .i64 0, .int .i64 0, .string ⟨#[]⟩] rfl rfl 57 _ (h7.at_ 1 rfl) val_info rfl (one3 _ _ _) ?_)
      have h9 := h7.setRow (os1 := [_]) (cs' := #[.int .i64 0, .int .i64 0, .string ⟨#[]⟩])
      refine ret_val w.heap.size Vl.zero rfl rfl (h9.at_ 1 rfl) rfl ?_
      exact ⟨by rw [HR2.out]; rfl, h9.below⟩
  · obtain ⟨t, x, c0, hri⟩ : ∃ n x c, Wire.readT l ((j : Int) + 1) = (n, x, c) := ⟨_, _, _, rfl⟩
    obtain ⟨st, hst⟩ : ∃ st : ByteArray, ⟨t.toArray⟩ = st := ⟨_, rfl⟩
    have hr4 : r = checked (⟨4, 0, st⟩, x, c0) := by rw [hr3]; simp [hri, hst]
    have HQ0 := Lib.hid hr4
    clear hr4 hr3
    go_wp2_with fail
    refine (Calls.sV' h2 (refReadText_any _ _ l _ (h2.is 0 rfl) (by have := HHL.out; omega) HHL.out)).mono ?_
    rintro e w6 ⟨rfl, h6⟩
    rw [hri]
    simp only [hst]
    clear hri h2 hst k0 k1 k2
    obtain ⟨c0', c1, c2⟩ := cells3 (h6.at_ 0 rfl)
    have f2 : w6.frozen? ⟨g1, 2, none⟩ = false := frozen_of_row _ _ _ _ _ (h6.at_ 0 rfl)
    have h7 := h6.setCell (os1 := []) (i := 2) (v := .string st)
    by_cases hc0 : c0 = 0
    · subst hc0
      have HQ := HQ0
      obtain ⟨d0, d1, d2⟩ := cells3 (h7.at_ 0 rfl)
      go_wp2_with fail
      obtain ⟨c, hc⟩ : ∃ c, (⟨4, 0, st⟩ : Vl).check = c := ⟨_, rfl⟩
      have hk := fun w => refCheck_any w ⟨4, 0, st⟩
      rw [hc] at hk
      simp only [Vl.val] at hk
      refine (Calls.sV h7 (hk _)).mono ?_
      rintro e w5 ⟨rfl, h5⟩
      clear hk
      have hq := HQ.out
      unfold checked at hq
      rw [if_pos rfl] at hq
      simp only [hc] at hq
      obtain ⟨c0, c1, c2⟩ := cells3 (h5.at_ 0 rfl)
      by_cases hc0 : c = 0
      · subst hc0
        rw [if_pos rfl] at hq
        have HR2 := Lib.hid hq
        clear hq hc
        go_wp2_with (refine wpList_store_row rfl 57 (.tmp 4) (.tmp 81) rfl _ #[.int .i64 (4), .int .i64 (0), .string st] rfl rfl 57 _ (h5.at_ 1 rfl) val_info rfl (one3 _ _ _) ?_)
        have h9 := h5.setRow (os1 := [_]) (cs' := #[.int .i64 (4), .int .i64 (0), .string st])
        refine ret_val w.heap.size ⟨4, 0, st⟩ rfl rfl (h9.at_ 1 rfl) rfl ?_
        exact ⟨by rw [HR2.out]; rfl, h9.below⟩
      · rw [if_neg hc0] at hq
        have n1 := bne_of hc0
        have HR2 := Lib.hid hq
        clear hq hc
        go_wp2_with (refine wpList_store_row rfl 57 (.tmp 4) (.tmp 79) rfl _ #[.int .i64 0, .int .i64 0, .string ⟨#[]⟩] rfl rfl 57 _ (h5.at_ 1 rfl) val_info rfl (one3 _ _ _) ?_)
        have h9 := h5.setRow (os1 := [_]) (cs' := #[.int .i64 0, .int .i64 0, .string ⟨#[]⟩])
        refine ret_val w.heap.size Vl.zero rfl rfl (h9.at_ 1 rfl) rfl ?_
        exact ⟨by rw [HR2.out]; rfl, h9.below⟩
    · have n1 := bne_of hc0
      have n2 := beq_of hc0
      have hr5 : r = (Vl.zero, 0, c0) := by rw [HQ0.out]; unfold checked; rw [if_neg hc0]
      have HR2 := Lib.hid hr5
      clear hr5
      go_wp2_with (refine wpList_store_row rfl 57 (.tmp 4) (.tmp 79) rfl _ #[.int .i64 0, .int .i64 0, .string ⟨#[]⟩] rfl rfl 57 _ (h7.at_ 1 rfl) val_info rfl (one3 _ _ _) ?_)
      have h9 := h7.setRow (os1 := [_]) (cs' := #[.int .i64 0, .int .i64 0, .string ⟨#[]⟩])
      refine ret_val w.heap.size Vl.zero rfl rfl (h9.at_ 1 rfl) rfl ?_
      exact ⟨by rw [HR2.out]; rfl, h9.below⟩
  · obtain ⟨t, x, c0, hri⟩ : ∃ n x c, Wire.readT l ((j : Int) + 1) = (n, x, c) := ⟨_, _, _, rfl⟩
    obtain ⟨st, hst⟩ : ∃ st : ByteArray, ⟨t.toArray⟩ = st := ⟨_, rfl⟩
    have hr4 : r = checked (⟨5, 0, st⟩, x, c0) := by rw [hr3]; simp [hri, hst]
    have HQ0 := Lib.hid hr4
    clear hr4 hr3
    go_wp2_with fail
    refine (Calls.sV' h2 (refReadText_any _ _ l _ (h2.is 0 rfl) (by have := HHL.out; omega) HHL.out)).mono ?_
    rintro e w6 ⟨rfl, h6⟩
    rw [hri]
    simp only [hst]
    clear hri h2 hst k0 k1 k2
    obtain ⟨c0', c1, c2⟩ := cells3 (h6.at_ 0 rfl)
    have f2 : w6.frozen? ⟨g1, 2, none⟩ = false := frozen_of_row _ _ _ _ _ (h6.at_ 0 rfl)
    have h7 := h6.setCell (os1 := []) (i := 2) (v := .string st)
    by_cases hc0 : c0 = 0
    · subst hc0
      have HQ := HQ0
      obtain ⟨d0, d1, d2⟩ := cells3 (h7.at_ 0 rfl)
      go_wp2_with fail
      obtain ⟨c, hc⟩ : ∃ c, (⟨5, 0, st⟩ : Vl).check = c := ⟨_, rfl⟩
      have hk := fun w => refCheck_any w ⟨5, 0, st⟩
      rw [hc] at hk
      simp only [Vl.val] at hk
      refine (Calls.sV h7 (hk _)).mono ?_
      rintro e w5 ⟨rfl, h5⟩
      clear hk
      have hq := HQ.out
      unfold checked at hq
      rw [if_pos rfl] at hq
      simp only [hc] at hq
      obtain ⟨c0, c1, c2⟩ := cells3 (h5.at_ 0 rfl)
      by_cases hc0 : c = 0
      · subst hc0
        rw [if_pos rfl] at hq
        have HR2 := Lib.hid hq
        clear hq hc
        go_wp2_with (refine wpList_store_row rfl 57 (.tmp 4) (.tmp 81) rfl _ #[.int .i64 (5), .int .i64 (0), .string st] rfl rfl 57 _ (h5.at_ 1 rfl) val_info rfl (one3 _ _ _) ?_)
        have h9 := h5.setRow (os1 := [_]) (cs' := #[.int .i64 (5), .int .i64 (0), .string st])
        refine ret_val w.heap.size ⟨5, 0, st⟩ rfl rfl (h9.at_ 1 rfl) rfl ?_
        exact ⟨by rw [HR2.out]; rfl, h9.below⟩
      · rw [if_neg hc0] at hq
        have n1 := bne_of hc0
        have HR2 := Lib.hid hq
        clear hq hc
        go_wp2_with (refine wpList_store_row rfl 57 (.tmp 4) (.tmp 79) rfl _ #[.int .i64 0, .int .i64 0, .string ⟨#[]⟩] rfl rfl 57 _ (h5.at_ 1 rfl) val_info rfl (one3 _ _ _) ?_)
        have h9 := h5.setRow (os1 := [_]) (cs' := #[.int .i64 0, .int .i64 0, .string ⟨#[]⟩])
        refine ret_val w.heap.size Vl.zero rfl rfl (h9.at_ 1 rfl) rfl ?_
        exact ⟨by rw [HR2.out]; rfl, h9.below⟩
    · have n1 := bne_of hc0
      have n2 := beq_of hc0
      have hr5 : r = (Vl.zero, 0, c0) := by rw [HQ0.out]; unfold checked; rw [if_neg hc0]
      have HR2 := Lib.hid hr5
      clear hr5
      go_wp2_with (refine wpList_store_row rfl 57 (.tmp 4) (.tmp 79) rfl _ #[.int .i64 0, .int .i64 0, .string ⟨#[]⟩] rfl rfl 57 _ (h7.at_ 1 rfl) val_info rfl (one3 _ _ _) ?_)
      have h9 := h7.setRow (os1 := [_]) (cs' := #[.int .i64 0, .int .i64 0, .string ⟨#[]⟩])
      refine ret_val w.heap.size Vl.zero rfl rfl (h9.at_ 1 rfl) rfl ?_
      exact ⟨by rw [HR2.out]; rfl, h9.below⟩
  · have g0 : ¬ (yk : Int) = 0 := by omega
    have g1 : ¬ (yk : Int) = 1 := by omega
    have g2 : ¬ (yk : Int) = 2 := by omega
    have g3 : ¬ (yk : Int) = 3 := by omega
    have g4 : ¬ (yk : Int) = 4 := by omega
    have g5 : ¬ (yk : Int) = 5 := by omega
    have hr4 : r = (Vl.zero, 0, 3) := by
      rw [hr3, if_neg g0, if_neg g1, if_neg (by omega), if_neg (by omega)]
      rfl
    have HR2 := Lib.hid hr4
    have b0 := beq_of g0
    have b1 := beq_of g1
    have b2 := beq_of g2
    have b3 := beq_of g3
    have b4 := beq_of g4
    have b5 := beq_of g5
    clear hr4 hr3 g0 g1 g2 g3 g4 g5
    go_wp2_with (refine wpList_store_row rfl 57 (.tmp 4) (.tmp 79) rfl _ #[.int .i64 0, .int .i64 0, .string ⟨#[]⟩] rfl rfl 57 _ (h2.at_ 1 rfl) val_info rfl (one3 _ _ _) ?_)
    have h9 := h2.setRow (os1 := [_]) (cs' := #[.int .i64 0, .int .i64 0, .string ⟨#[]⟩])
    refine ret_val w.heap.size Vl.zero rfl rfl (h9.at_ 1 rfl) rfl ?_
    exact ⟨by rw [HR2.out]; rfl, h9.below⟩
end Go.Proofs.Ytfpkibfofainaaa
