/- The walk over asofref30.Write, at the valid disks. -/
import Derived.Test.YtkfikcppnbfmoaaChecked
import Derived.Test.YtkfikcppnbfmoaaRefW30
namespace Go.Proofs.Ytkfikcppnbfmoaa
open Go.RowKit

/-- A disk's block stands where the call has laid it. -/
theorem dk_ok_wr {d : Dk} (hd : d.Ok) (i : Nat) (hi : i < d.sec.length) (b : List UInt8) (hb : b.length = 128) : (d.wr i b).1.Ok := by
  obtain ⟨g1, g2, g9, g3, g4, g5, g6, g7, g8⟩ := hd
  have hs : ∀ c : List UInt8, c.length ≤ 128 → ∀ j (h : j < (putAt d.sec i c).length), ((putAt d.sec i c)[j]).length = 128 := fun c hc j hj => by
    unfold putAt at hj ⊢
    rw [List.length_set] at hj
    rw [List.getElem_set]
    split
    · have := g9 i hi
      rw [List.length_append, List.length_drop, List.getD_eq_getElem?_getD, List.getElem?_eq_getElem hi]
      simp only [Option.getD_some]
      omega
    · exact g9 j hj
  have hl : ∀ c, (putAt d.sec i c).length = d.sec.length := fun c => by simp [putAt]
  unfold Dk.wr
  split
  · exact ⟨g1, g2, g9, g3, g4, g5, g6, g7, g8⟩
  · split
    · exact ⟨by simp only [hl]; omega, by simp only [hl]; omega, hs _ (by rw [List.length_take]; omega), g3, g4, g5, g6, g7, fun _ => by assumption⟩
    · rename_i h1 h2
      refine ⟨by simp only [hl]; omega, by simp only [hl]; omega, hs _ (by omega), ?_, ?_, g5, g6, ?_, fun h => absurd h h1⟩
      · simp only; split <;> omega
      · simp only; split <;> omega
      · simp only; split
        · intro e; omega
        · exact g7

set_option maxHeartbeats 1000000 in
theorem refWrite_any (S : Nat → Bool) (w : World) (hS : ∀ k, S k = true → k < w.heap.size) (v : Value) (d : Dk) (i : Int) (bv : Value) (b : List UInt8) (hd : d.Ok) (hvm : IsDk (mask S w) v d) (hbv : IsBytes w bv b) :
    Calls Try.prog 18 #[v, .int .i64 i, bv] w fun e w' => ∃ v', e = .returned (.tuple #[v', .int .i64 (d.write i b).2]) ∧ IsDk (mask S w') v' (d.write i b).1 ∧ Below w.heap.size w w' := by
  have hB0 : ∀ o1 o2 : Obj, Below w.heap.size w ((w.alloc o1).alloc o2) := fun _ _ => ((Below.refl _ _).alloc (Nat.le_refl _) _).alloc (by simp) _
  have hvm' := hvm
  obtain ⟨sv, rfl, hlm⟩ := hvm
  have hv0 : IsDk w _ d := hvm'.sub (mask_is S w)
  have HLM := Lib.hid hvm'
  have hval : d.valid = true := (Dk.valid_iff d).2 hd
  have HV := Lib.hid hval
  obtain ⟨bb, bc, rfl, hbl, hbc, -, -⟩ := hbv.out
  unfold maxLen at hbc
  have HBV := Lib.hid hbv
  have HD := Lib.hid hd
  obtain ⟨base, cap, rfl, hl1, hcap, -, -⟩ := (hlm.sub (mask_is S w)).out
  unfold maxLen at hcap
  obtain ⟨sec, left, tear, st⟩ := d
  simp only [dkV] at *
  have hB0 := hB0 (.cells #[.slice base sec.length cap, .int .i64 left, .int .i64 tear, .bool st] 25) (.cells #[.slice none 0 0, .int .i64 0, .int .i64 0, .bool false] 25)
  have hc := refValid_any _ _ _ hd (hv0.below hB0 rfl)
  clear hvm' hv0 hlm hval hbv hd
  obtain ⟨D, x, hwr⟩ : ∃ D x, Dk.write ⟨sec, left, tear, st⟩ i b = (D, x) := ⟨_, _, rfl⟩
  rw [hwr]
  have HWR := Lib.hid hwr
  clear hwr
  simp only
  go_enter Try.func18, Try.ntmps18
  go_wp2_with fail
  refine hc.mono ?_
  rintro e w1 ⟨rfl, hb1⟩
  have hbx := box2_a hb1
  have hrs := box2_b hb1
  have hB1 := hB0.trans (hb1.mono hB0.size)
  obtain ⟨c0, c1, c2, c3, f1, f2⟩ := dkO_cells hbx
  have hsz1 : w.heap.size + 1 < w1.heap.size := (Array.getElem?_eq_some_iff.1 hrs).1
  clear hB0 hb1 hc
  by_cases k : i < 0 ∨ (sec.length : Int) ≤ i ∨ b.length ≠ 128
  · have hr : Dk.write ⟨sec, left, tear, st⟩ i b = (Dk.zero, 1) := by
      unfold Dk.write
      rw [if_pos (.inr k)]
    have HR := Lib.hid (HWR.out.symm.trans hr)
    have k' : i < 0 ∨ ¬ i < 0 ∧ (sec.length : Int) ≤ i ∨ ¬ i < 0 ∧ ¬ (sec.length : Int) ≤ i ∧ ((b.length : Int) != 128) = true := by simp only [bne_iff_ne]; omega
    clear k hr HWR
    rcases k' with k1 | ⟨k1, k2⟩ | ⟨k1, k2, k3⟩
    all_goals
      go_wp2_with (refine wpList_store_row rfl 25 (.tmp 6) (.tmp 29) rfl (w.heap.size + 1) #[.slice none 0 0, .int .i64 0, .int .i64 0, .bool false] rfl rfl 25 _ hrs disk_info rfl (one4 rfl _ _ _) ?_)
      try simp only [Exit.inBlock, Exit.then]
      refine ret_disk (w.heap.size + 1) (.slice none 0 0) 0 0 false rfl rfl (setRow_heap _ _ _ _ _ _ hrs) rfl ⟨_, by rw [(Prod.mk.inj HR.out).2]; rfl, by rw [(Prod.mk.inj HR.out).1]; exact dk_zero _, below_setRow hB1 (Nat.le_succ _) _⟩
  obtain ⟨n, rfl⟩ : ∃ n : Nat, i = (n : Int) := ⟨i.toNat, by omega⟩
  have hn : n < sec.length := by omega
  have hb128 : b.length = 128 := by omega
  have hr : Dk.write ⟨sec, left, tear, st⟩ n b = Dk.wr ⟨sec, left, tear, st⟩ n b := by
    unfold Dk.write
    rw [if_neg (fun h => h.elim (fun h => by rw [HV.out] at h; cases h) k)]
    rfl
  have HR := Lib.hid (HWR.out.symm.trans hr)
  have k1 : ¬ (n : Int) < 0 := by omega
  have k2 : (n : Int) < (sec.length : Int) := by omega
  have k3 : ((b.length : Int) != 128) = false := by rw [bne_eq_false_iff_eq]; omega
  have HB128 := Lib.hid hb128
  clear k hr hb128 HWR
  cases st with
  | true =>
    have hr : Dk.wr ⟨sec, left, tear, true⟩ n b = (⟨sec, left, tear, true⟩, 300) := by simp [Dk.wr]
    have HX := Lib.hid (Prod.mk.inj (HR.out.trans hr))
    clear hr HR
    go_wp2_with (first | (refine wpList_load_row rfl 25 (.tmp 3) rfl w.heap.size rfl 25 _ (0, 0) _ hbx Try.underlying25 rfl disk_info ?_) | (refine wpList_store_row rfl 25 (.tmp 6) (.tmp 32) rfl (w.heap.size + 1) #[.slice base sec.length cap, .int .i64 left, .int .i64 tear, .bool true] rfl rfl 25 _ hrs disk_info rfl (one4 rfl _ _ _) ?_))
    try simp only [Exit.inBlock, Exit.then]
    have hbz := below_setRow hB1 (Nat.le_succ w.heap.size) #[.slice base sec.length cap, .int .i64 left, .int .i64 tear, .bool true]
    exact ret_disk (w.heap.size + 1) (.slice base sec.length cap) left tear true rfl rfl (setRow_heap _ _ _ _ _ _ hrs) rfl ⟨_, by rw [HX.out.2]; rfl, by rw [HX.out.1]; exact HLM.out.sub (mask_below hbz rfl), hbz⟩
  | false =>
    have hbw := HBV.out.below hB1 rfl
    obtain ⟨S', hS'⟩ : ∃ S' : Nat → Bool, S' = fun k => S k || decide (k = w.heap.size + 1) := ⟨_, rfl⟩
    have hS1 : ∀ k, S' k = true → S k = true ∨ w.heap.size ≤ k := fun k hk => by
      rw [hS'] at hk
      simp only [Bool.or_eq_true, decide_eq_true_eq] at hk
      rcases hk with hk | hk
      · exact .inl hk
      · exact .inr (by omega)
    have hS2 : ∀ k, S' k = true → k < w1.heap.size := fun k hk => by
      rw [hS'] at hk
      simp only [Bool.or_eq_true, decide_eq_true_eq] at hk
      rcases hk with hk | hk
      · have := hS k hk; omega
      · omega
    have hS3 : S' (w.heap.size + 1) = true := by rw [hS']; simp
    have hS4 : ∀ k, S k = true → S' k = true := fun k hk => by rw [hS']; simp [hk]
    clear hS'
    have hdm := HLM.out.sub (mask_more hB1 rfl hS1)
    have HS := Lib.hid (And.intro hS2 (And.intro hS3 hS4))
    clear hS1 hS2 hS3 hS4
    by_cases h0 : left = 0
    · subst h0
      have ht : 0 ≤ tear ∧ tear ≤ 128 := ⟨HD.out.tear1, HD.out.tear2⟩
      obtain ⟨t, rfl⟩ : ∃ t : Nat, tear = (t : Int) := ⟨tear.toNat, by omega⟩
      have hr : Dk.wr ⟨sec, 0, t, false⟩ n b = (⟨putAt sec n (b.take t), 0, t, true⟩, 300) := by simp [Dk.wr]
      have HX := Lib.hid (Prod.mk.inj (HR.out.trans hr))
      clear hr HR
      have hca := refWith_any S' w1 HS.out.1 _ _ hdm HD.out n hn _ b hbw HB128.out t (by omega)
      have HCA := Lib.hid hca
      clear hca hdm hbw
      go_wp2_with (refine wpList_load_row rfl 25 (.tmp 3) rfl w.heap.size rfl 25 _ (0, 0) _ hbx Try.underlying25 rfl disk_info ?_)
      refine HCA.out.mono ?_
      rintro e w2 ⟨v2, rfl, ⟨sv2, rfl, hl2⟩, hb2⟩
      simp only [dkV]
      obtain ⟨b2, q2, rfl, -, -, -, -⟩ := hl2.out
      have hrs2 := (hb2.block _ hsz1).trans hrs
      have hB2 := hB1.trans (hb2.mono hB1.size)
      have hsz2 : w.heap.size + 1 < w2.heap.size := Nat.lt_of_lt_of_le hsz1 hb2.size
      have hnew := heap_alloc_new w2 (.cells #[.slice none 0 0, .int .i64 0, .int .i64 0, .bool false] 25)
      go_upto_region 7 with (refine wpList_store_row rfl 25 (.tmp 8) (.tmp 41) rfl w2.heap.size #[.slice b2 (putAt sec n (b.take t)).length q2, .int .i64 0, .int .i64 t, .bool false] rfl rfl 25 _ hnew disk_info rfl (one4 rfl _ _ _) ?_)
      have hd3 := setRow_heap _ _ _ #[.slice b2 (putAt sec n (b.take t)).length q2, .int .i64 0, .int .i64 t, .bool false] _ _ hnew
      obtain ⟨-, -, -, c3, -, -⟩ := dkO_cells hd3
      have f3 : ((w2.alloc (.cells #[.slice none 0 0, .int .i64 0, .int .i64 0, .bool false] 25)).setRow w2.heap.size #[.slice b2 (putAt sec n (b.take t)).length q2, .int .i64 0, .int .i64 t, .bool false]).frozen? ⟨w2.heap.size, 3, none⟩ = false := frozen_of_row _ _ _ _ _ hd3
      have hB3 := below_setRow (hB2.alloc hB2.size (.cells #[.slice none 0 0, .int .i64 0, .int .i64 0, .bool false] 25)) hB2.size #[.slice b2 (putAt sec n (b.take t)).length q2, .int .i64 0, .int .i64 t, .bool false]
      go_upto_region 8 with fail
      have hd4 := heap_setCell_same _ w2.heap.size 3 _ _ (.bool true) hd3
      have hr4 : (((w2.alloc (.cells #[.slice none 0 0, .int .i64 0, .int .i64 0, .bool false] 25)).setRow w2.heap.size #[.slice b2 (putAt sec n (b.take t)).length q2, .int .i64 0, .int .i64 t, .bool false]).setCell ⟨w2.heap.size, 3, none⟩ (.bool true)).heap[w.heap.size + 1]? = some (dkO (.slice none 0 0) 0 0 false) := by
        rw [heap_setCell_other _ _ _ _ (by show w.heap.size + 1 ≠ w2.heap.size; omega), setRow_other _ _ _ _ (by omega), Below.heap_alloc _ _ _ hsz2]
        exact hrs2
      have hB4 := hB3.setCell (p := ⟨w2.heap.size, 3, none⟩) hB2.size (.bool true)
      have hm4 : Sub (mask S' w2) (mask S' (((w2.alloc (.cells #[.slice none 0 0, .int .i64 0, .int .i64 0, .bool false] 25)).setRow w2.heap.size #[.slice b2 (putAt sec n (b.take t)).length q2, .int .i64 0, .int .i64 t, .bool false]).setCell ⟨w2.heap.size, 3, none⟩ (.bool true))) :=
        mask_below ((below_setRow ((Below.refl w2.heap.size w2).alloc (Nat.le_refl _) _) (Nat.le_refl _) _).setCell (Nat.le_refl _) _) rfl
      obtain ⟨w4, hw4⟩ : ∃ w4, ((w2.alloc (.cells #[.slice none 0 0, .int .i64 0, .int .i64 0, .bool false] 25)).setRow w2.heap.size #[.slice b2 (putAt sec n (b.take t)).length q2, .int .i64 0, .int .i64 t, .bool false]).setCell ⟨w2.heap.size, 3, none⟩ (.bool true) = w4 := ⟨_, rfl⟩
      rw [hw4] at hd4 hr4 hB4 hm4 ⊢
      replace hd4 : w4.heap[w2.heap.size]? = some (dkO (.slice b2 (putAt sec n (b.take t)).length q2) 0 t true) := hd4
      clear hw4 hd3 c3 f3
      go_wp2_with (first | (refine wpList_load_row rfl 25 (.tmp 8) rfl w2.heap.size rfl 25 _ (0, 0) _ hd4 Try.underlying25 rfl disk_info ?_) | (refine wpList_store_row rfl 25 (.tmp 6) (.tmp 43) rfl (w.heap.size + 1) #[.slice b2 (putAt sec n (b.take t)).length q2, .int .i64 0, .int .i64 t, .bool true] rfl rfl 25 _ hr4 disk_info rfl (one4 rfl _ _ _) ?_))
      try simp only [Exit.inBlock, Exit.then]
      have hbz := below_setRow hB4 (Nat.le_succ w.heap.size) #[.slice b2 (putAt sec n (b.take t)).length q2, .int .i64 0, .int .i64 t, .bool true]
      exact ret_disk (w.heap.size + 1) (.slice b2 (putAt sec n (b.take t)).length q2) 0 t true rfl rfl (setRow_heap _ _ _ _ _ _ hr4) rfl ⟨_, by rw [HX.out.2]; rfl, by rw [HX.out.1]; exact ⟨_, rfl, ((hl2.sub hm4).sub (mask_setRow _ _ HS.out.2.1)).sub (mask_less HS.out.2.2)⟩, hbz⟩
    · have ht : 0 ≤ tear ∧ tear ≤ 128 := ⟨HD.out.tear1, HD.out.tear2⟩
      obtain ⟨t, rfl⟩ : ∃ t : Nat, tear = (t : Int) := ⟨tear.toNat, by omega⟩
      have hr : Dk.wr ⟨sec, left, t, false⟩ n b = (⟨putAt sec n b, if 0 < left then left - 1 else left, t, false⟩, 0) := by simp [Dk.wr, h0]
      have hx0 := Prod.mk.inj (HR.out.trans hr)
      have HX0 := Lib.hid hx0
      clear hr HR hx0
      have hca := refWith_any S' w1 HS.out.1 _ _ hdm HD.out n hn _ b hbw HB128.out 128 (by omega)
      have htk : b.take 128 = b := List.take_of_length_le (by have := HB128.out; omega)
      rw [htk] at hca
      have HCA := Lib.hid hca
      clear hca hdm hbw htk
      go_wp2_with (refine wpList_load_row rfl 25 (.tmp 3) rfl w.heap.size rfl 25 _ (0, 0) _ hbx Try.underlying25 rfl disk_info ?_)
      refine HCA.out.mono ?_
      rintro e w2 ⟨v2, rfl, ⟨sv2, rfl, hl2⟩, hb2⟩
      simp only [dkV]
      obtain ⟨b2, q2, rfl, -, -, -, -⟩ := hl2.out
      have hrs2 := (hb2.block _ hsz1).trans hrs
      have hB2 := hB1.trans (hb2.mono hB1.size)
      have hsz2 : w.heap.size + 1 < w2.heap.size := Nat.lt_of_lt_of_le hsz1 hb2.size
      have hnew := heap_alloc_new w2 (.cells #[.slice none 0 0, .int .i64 0, .int .i64 0, .bool false] 25)
      go_upto_region 10 with (refine wpList_store_row rfl 25 (.tmp 9) (.tmp 47) rfl w2.heap.size #[.slice b2 (putAt sec n b).length q2, .int .i64 left, .int .i64 t, .bool false] rfl rfl 25 _ hnew disk_info rfl (one4 rfl _ _ _) ?_)
      have hd3 := setRow_heap _ _ _ #[.slice b2 (putAt sec n b).length q2, .int .i64 left, .int .i64 t, .bool false] _ _ hnew
      obtain ⟨-, c3, -, -, f3, -⟩ := dkO_cells hd3
      have hB3 := below_setRow (hB2.alloc hB2.size (.cells #[.slice none 0 0, .int .i64 0, .int .i64 0, .bool false] 25)) hB2.size #[.slice b2 (putAt sec n b).length q2, .int .i64 left, .int .i64 t, .bool false]
      have hl3 := HD.out.left1
      have hl4 := HD.out.left2
      simp only at hl3 hl4
      by_cases hlt : 0 < left
      · have HX : Hid (D = ⟨putAt sec n b, left - 1, t, false⟩ ∧ x = 0) := by have := HX0.out; rwa [if_pos hlt] at this
        go_upto_region 12 with fail
        have hd4 := heap_setCell_same _ w2.heap.size 1 _ _ (.int .i64 (left - 1)) hd3
        have hr4 : (((w2.alloc (.cells #[.slice none 0 0, .int .i64 0, .int .i64 0, .bool false] 25)).setRow w2.heap.size #[.slice b2 (putAt sec n b).length q2, .int .i64 left, .int .i64 t, .bool false]).setCell ⟨w2.heap.size, 1, none⟩ (.int .i64 (left - 1))).heap[w.heap.size + 1]? = some (dkO (.slice none 0 0) 0 0 false) := by
          rw [heap_setCell_other _ _ _ _ (by show w.heap.size + 1 ≠ w2.heap.size; omega), setRow_other _ _ _ _ (by omega), Below.heap_alloc _ _ _ hsz2]
          exact hrs2
        have hB4 := hB3.setCell (p := ⟨w2.heap.size, 1, none⟩) hB2.size (.int .i64 (left - 1))
        have hm4 : Sub (mask S' w2) (mask S' (((w2.alloc (.cells #[.slice none 0 0, .int .i64 0, .int .i64 0, .bool false] 25)).setRow w2.heap.size #[.slice b2 (putAt sec n b).length q2, .int .i64 left, .int .i64 t, .bool false]).setCell ⟨w2.heap.size, 1, none⟩ (.int .i64 (left - 1)))) :=
          mask_below ((below_setRow ((Below.refl w2.heap.size w2).alloc (Nat.le_refl _) _) (Nat.le_refl _) _).setCell (Nat.le_refl _) _) rfl
        obtain ⟨w4, hw4⟩ : ∃ w4, ((w2.alloc (.cells #[.slice none 0 0, .int .i64 0, .int .i64 0, .bool false] 25)).setRow w2.heap.size #[.slice b2 (putAt sec n b).length q2, .int .i64 left, .int .i64 t, .bool false]).setCell ⟨w2.heap.size, 1, none⟩ (.int .i64 (left - 1)) = w4 := ⟨_, rfl⟩
        rw [hw4] at hd4 hr4 hB4 hm4 ⊢
        replace hd4 : w4.heap[w2.heap.size]? = some (dkO (.slice b2 (putAt sec n b).length q2) (left - 1) t false) := hd4
        clear hw4 hd3 c3 f3
        go_wp2_with (first | (refine wpList_load_row rfl 25 (.tmp 9) rfl w2.heap.size rfl 25 _ (0, 0) _ hd4 Try.underlying25 rfl disk_info ?_) | (refine wpList_store_row rfl 25 (.tmp 6) (.tmp 55) rfl (w.heap.size + 1) #[.slice b2 (putAt sec n b).length q2, .int .i64 (left - 1), .int .i64 t, .bool false] rfl rfl 25 _ hr4 disk_info rfl (one4 rfl _ _ _) ?_))
        try simp only [Exit.inBlock, Exit.then]
        have hbz := below_setRow hB4 (Nat.le_succ w.heap.size) #[.slice b2 (putAt sec n b).length q2, .int .i64 (left - 1), .int .i64 t, .bool false]
        exact ret_disk (w.heap.size + 1) (.slice b2 (putAt sec n b).length q2) (left - 1) t false rfl rfl (setRow_heap _ _ _ _ _ _ hr4) rfl ⟨_, by rw [HX.out.2]; rfl, by rw [HX.out.1]; exact ⟨_, rfl, ((hl2.sub hm4).sub (mask_setRow _ _ HS.out.2.1)).sub (mask_less HS.out.2.2)⟩, hbz⟩
      · have HX : Hid (D = ⟨putAt sec n b, left, t, false⟩ ∧ x = 0) := by have := HX0.out; rwa [if_neg hlt] at this
        have hr4 : ((w2.alloc (.cells #[.slice none 0 0, .int .i64 0, .int .i64 0, .bool false] 25)).setRow w2.heap.size #[.slice b2 (putAt sec n b).length q2, .int .i64 left, .int .i64 t, .bool false]).heap[w.heap.size + 1]? = some (dkO (.slice none 0 0) 0 0 false) := by
          rw [setRow_other _ _ _ _ (by omega), Below.heap_alloc _ _ _ hsz2]
          exact hrs2
        have hm4 : Sub (mask S' w2) (mask S' ((w2.alloc (.cells #[.slice none 0 0, .int .i64 0, .int .i64 0, .bool false] 25)).setRow w2.heap.size #[.slice b2 (putAt sec n b).length q2, .int .i64 left, .int .i64 t, .bool false])) :=
          mask_below (below_setRow ((Below.refl w2.heap.size w2).alloc (Nat.le_refl _) _) (Nat.le_refl _) _) rfl
        go_wp2_with (first | (refine wpList_load_row rfl 25 (.tmp 9) rfl w2.heap.size rfl 25 _ (0, 0) _ hd3 Try.underlying25 rfl disk_info ?_) | (refine wpList_store_row rfl 25 (.tmp 6) (.tmp 55) rfl (w.heap.size + 1) #[.slice b2 (putAt sec n b).length q2, .int .i64 left, .int .i64 t, .bool false] rfl rfl 25 _ hr4 disk_info rfl (one4 rfl _ _ _) ?_))
        try simp only [Exit.inBlock, Exit.then]
        have hbz := below_setRow hB3 (Nat.le_succ w.heap.size) #[.slice b2 (putAt sec n b).length q2, .int .i64 left, .int .i64 t, .bool false]
        exact ret_disk (w.heap.size + 1) (.slice b2 (putAt sec n b).length q2) left t false rfl rfl (setRow_heap _ _ _ _ _ _ hr4) rfl ⟨_, by rw [HX.out.2]; rfl, by rw [HX.out.1]; exact ⟨_, rfl, ((hl2.sub hm4).sub (mask_setRow _ _ HS.out.2.1)).sub (mask_less HS.out.2.2)⟩, hbz⟩

end Go.Proofs.Ytkfikcppnbfmoaa
