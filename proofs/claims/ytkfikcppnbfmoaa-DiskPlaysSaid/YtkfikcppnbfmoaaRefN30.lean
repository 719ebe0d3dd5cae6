/- The walk over asofref30.New. -/
import Derived.Test.YtkfikcppnbfmoaaChecked
import Derived.Test.YtkfikcppnbfmoaaDiskN
import Derived.Deep.RegionLaw
namespace Go.Proofs.Ytkfikcppnbfmoaa
open Go.RowKit

theorem run_make128 (W : World) : (Instr.makeSlice 34 (.int .i64 128) (.int .i64 128)).run Try.prog W = .ok (.slice (some ⟨W.heap.size, 0, none⟩) 128 128) (W.alloc (.cells (List.map u8v (List.replicate 128 0)).toArray 5)) := by
  have h := run_make_row' (P := Try.prog) 34 5 (.int .u8 0) 1 Try.underlying34 byte_info rfl .i64 .i64 128 (by omega) (by omega) W
  have e : madeCells #[Value.int .u8 0] 128 = (List.map u8v (List.replicate 128 0)).toArray := by
    apply Array.toList_inj.1
    rw [toList_madeCells_one]
    simp only [List.map_replicate]
    rfl
  rw [e] at h
  exact h
theorem src_one {P : Program} {w : World} {t2 e2 : TypeId} (b off : Nat) (u : Value) (ht : P.underlying t2 = some (.slice e2)) (h1 : u.oneCell' = true) (hc : w.cell? ⟨b, off, none⟩ = some u) : Src P 1 w t2 (.slice (some ⟨b, off, none⟩) 1 1) 1 [u] :=
  Src.row ht ⟨_, _, rfl, rfl, Nat.le_refl _, by simp [maxLen], (fun h => by cases h), fun i hi => ⟨b, off, rfl, by
    have : i = 0 := by simp at hi; omega
    subst this
    exact hc⟩⟩ (fun x hx => by simp at hx; subst hx; exact h1)

/-- The blocks of S, the result's and the disk's own. -/
def s2 (S : Nat → Bool) (w : World) : Nat → Bool := fun k => S k || decide (k = w.heap.size) || decide (k = w.heap.size + 1)
structure NewInvR (w : World) (S : Nat → Bool) (k : Nat) (wr : World) : Prop where
  res : wr.heap[w.heap.size]? = some (dkO (.slice none 0 0) 0 0 false)
  row : ∃ sv, wr.heap[w.heap.size + 1]? = some (dkO sv (-1) 0 false) ∧ OwnLs (s2 S w) 34 (w.heap.size + 2) wr sv (List.replicate k (List.replicate 128 0))
  below : Below w.heap.size w wr
  size : w.heap.size + 2 ≤ wr.heap.size

structure StepW (w : World) (S : Nat → Bool) (k : Nat) (wr w2 : World) (sv : Value) (vs : List Value) : Prop where
  b2 : Below wr.heap.size wr w2
  d2 : w2.heap[w.heap.size + 1]? = some (dkO sv (-1) 0 false)
  sz : wr.heap.size + 2 ≤ w2.heap.size
  own : wr.ownsRow (w.heap.size + 2) 34 1 sv k vs
  els : ∀ i (h : i < (List.replicate k (List.replicate 128 (0 : UInt8))).length), ∃ u, vs[i]? = some u ∧ IsBytes (mask (orOwn (s2 S w) sv) wr) u (List.replicate k (List.replicate 128 (0 : UInt8)))[i]
  new : IsBytes w2 (.slice (some ⟨wr.heap.size, 0, none⟩) 128 128) (List.replicate 128 0)

theorem NewInvR.step {w : World} {S : Nat → Bool} {k : Nat} {wr w2 w3 : World} {sv v3 : Value} {vs : List Value} (h : NewInvR w S k wr) (hS : ∀ k, S k = true → k < w.heap.size) (h2 : StepW w S k wr w2 sv vs)
    (ho3 : w3.ownsRow (w.heap.size + 2) 34 1 v3 (k + 1) (vs ++ [.slice (some ⟨wr.heap.size, 0, none⟩) 128 128])) (hg3 : w2.drew.grownBy w3 sv.ownBlock) (hk3 : v3.ownBlock = sv.ownBlock ∨ ∃ j, w2.drew.heap.size ≤ j ∧ v3.ownBlock = some j) :
    NewInvR w S (k + 1) (w3.setCell ⟨w.heap.size + 1, 0, none⟩ v3) := by
  obtain ⟨hres, _, hbel, hsz⟩ := h
  obtain ⟨hb2, hd2, hsz2, hown, hels, hnew⟩ := h2
  have hlo : ∀ j, sv.ownBlock = some j → w.heap.size + 2 ≤ j ∧ j < wr.heap.size := fun j hj => World.ownsRow.lt hown j hj
  have hne : ∀ j, j < w.heap.size + 2 → some j ≠ sv.ownBlock := fun j hj e => by have := (hlo j e.symm).1; omega
  have hkeep : ∀ j, j < w.heap.size + 2 → w3.heap[j]? = wr.heap[j]? := fun j hj => (hg3.block j (by show j < w2.heap.size; omega) (hne j hj)).trans (hb2.block j (by omega))
  have hsz3 : w2.heap.size ≤ w3.heap.size := hg3.size
  refine ⟨?_, ⟨v3, ?_, ?_⟩, ?_, ?_⟩
  · rw [heap_setCell_other _ _ _ _ (by show w.heap.size ≠ w.heap.size + 1; omega), hkeep _ (by omega)]
    exact hres
  · have hd3 : w3.heap[w.heap.size + 1]? = some (dkO sv (-1) 0 false) := (hg3.block _ (by show _ < w2.heap.size; omega) (hne _ (by omega))).trans hd2
    rw [heap_setCell_same _ _ 0 _ _ _ hd3]
    rfl
  · have hvl : vs.length = k := by rw [hown.1]; omega
    have hs2 : ∀ j, s2 S w j = true → j < w.heap.size + 2 := fun j hj => by
      simp only [s2, Bool.or_eq_true, decide_eq_true_eq] at hj
      rcases hj with (hj | hj) | hj
      · have := hS j hj; omega
      · omega
      · omega
    have hoff : orOwn (s2 S w) sv wr.heap.size = false := by
      refine orOwn_no.2 ⟨?_, fun e => ?_⟩
      · cases h : s2 S w wr.heap.size with
        | false => rfl
        | true => have := hs2 _ h; omega
      · have := (hlo _ e).2; omega
    have hap := OwnLs.append (S := s2 S w) (B := w.heap.size + 2) (w := w2.drew) (w' := w3) (v := sv) (v' := v3) (vs := vs) (ll := List.replicate k (List.replicate 128 (0 : UInt8))) (l := List.replicate 128 0)
      (fun i hi => let ⟨u, a, b⟩ := hels i hi; ⟨u, a, b.sub (mask_below (w' := w2.drew) hb2.drew rfl)⟩) (by rw [hvl, List.length_replicate]) (by rw [List.length_replicate]; exact ho3) hg3 hk3
      (mask_row (w := w2.drew) hnew (fun j hj => by
        have : wr.heap.size = j := by cases hj; rfl
        subst this
        exact hoff))
    rw [List.replicate_succ']
    have hv3 : ∀ j, v3.ownBlock = some j → s2 S w j = false := fun j hj => by
      have := (World.ownsRow.lt ho3 j hj).1
      cases h : s2 S w j with
      | false => rfl
      | true => have := hs2 _ h; omega
    refine hap.keep (fun j hj hs => ⟨hs, heap_setCell_other _ _ _ _ (fun e => ?_)⟩) hv3
    have e : j = w.heap.size + 1 := e
    subst e
    simp [s2] at hs
  · exact (hbel.trans ⟨hg3.os.trans hb2.os, hg3.tape.trans hb2.tape, hg3.output.trans hb2.output, Nat.le_trans hb2.size hg3.size, fun j hj => hkeep j (by omega)⟩).setCell (by show _ ≤ w.heap.size + 1; omega) _
  · simp only [World.setCell, Array.size_modify]; omega

set_option maxHeartbeats 1000000 in
theorem refNew_any (S : Nat → Bool) (w : World) (hS : ∀ k, S k = true → k < w.heap.size) (n : Int) :
    Calls Try.prog 10 #[.int .i64 n] w fun e w' => ∃ v', e = .returned (.tuple #[v', .int .i64 (Dk.new n).2]) ∧ IsDk (mask S w') v' (Dk.new n).1 ∧ Below w.heap.size w w' := by
  have hB0 : Below w.heap.size w (w.alloc (.cells #[.slice none 0 0, .int .i64 0, .int .i64 0, .bool false] 25)) := (Below.refl _ _).alloc (Nat.le_refl _) _
  have hrs := heap_alloc_new w (.cells #[.slice none 0 0, .int .i64 0, .int .i64 0, .bool false] 25)
  by_cases k1 : n < 1
  · have hr : Dk.new n = (Dk.zero, 1) := by simp [Dk.new, k1]
    rw [hr]
    go_enter Try.func10, Try.ntmps10
    go_wp2_with (refine wpList_store_row rfl 25 (.tmp 2) (.tmp 12) rfl w.heap.size #[.slice none 0 0, .int .i64 0, .int .i64 0, .bool false] rfl rfl 25 _ hrs disk_info rfl (one4 rfl _ _ _) ?_)
    try simp only [Exit.inBlock, Exit.then]
    refine ret_disk w.heap.size (.slice none 0 0) 0 0 false rfl rfl (setRow_heap _ _ _ _ _ _ hrs) rfl ⟨_, rfl, dk_zero _, below_setRow hB0 (Nat.le_refl _) _⟩
  by_cases k2 : 4096 < n
  · have hr : Dk.new n = (Dk.zero, 1) := by simp [Dk.new, k2]
    rw [hr]
    go_enter Try.func10, Try.ntmps10
    go_wp2_with (refine wpList_store_row rfl 25 (.tmp 2) (.tmp 12) rfl w.heap.size #[.slice none 0 0, .int .i64 0, .int .i64 0, .bool false] rfl rfl 25 _ hrs disk_info rfl (one4 rfl _ _ _) ?_)
    try simp only [Exit.inBlock, Exit.then]
    refine ret_disk w.heap.size (.slice none 0 0) 0 0 false rfl rfl (setRow_heap _ _ _ _ _ _ hrs) rfl ⟨_, rfl, dk_zero _, below_setRow hB0 (Nat.le_refl _) _⟩
  obtain ⟨m, rfl⟩ : ∃ m : Nat, n = (m : Int) := ⟨n.toNat, by omega⟩
  have hr : Dk.new m = (Dk.made m, 0) := by simp [Dk.new, k1, k2]
  rw [hr]
  clear hr hB0 hrs
  have hB0 : Below w.heap.size w ((w.alloc (.cells #[.slice none 0 0, .int .i64 0, .int .i64 0, .bool false] 25)).alloc (.cells #[.slice none 0 0, .int .i64 0, .int .i64 0, .bool false] 25)) := ((Below.refl _ _).alloc (Nat.le_refl _) _).alloc (by simp) _
  have hrs := heap_alloc2_old w (.cells #[.slice none 0 0, .int .i64 0, .int .i64 0, .bool false] 25) (.cells #[.slice none 0 0, .int .i64 0, .int .i64 0, .bool false] 25)
  have hrd := heap_alloc2_new w (.cells #[.slice none 0 0, .int .i64 0, .int .i64 0, .bool false] 25) (.cells #[.slice none 0 0, .int .i64 0, .int .i64 0, .bool false] 25)
  go_enter Try.func10, Try.ntmps10
  go_wp2_with (refine wpList_store_row rfl 25 (.tmp 4) (.tmp 13) rfl (w.heap.size + 1) #[.slice none 0 0, .int .i64 (-1), .int .i64 0, .bool false] rfl rfl 25 _ hrd disk_info rfl (one4 rfl _ _ _) ?_)
  obtain ⟨W, hW⟩ : ∃ W, ((w.alloc (.cells #[.slice none 0 0, .int .i64 0, .int .i64 0, .bool false] 25)).alloc (.cells #[.slice none 0 0, .int .i64 0, .int .i64 0, .bool false] 25)).setRow (w.heap.size + 1) #[.slice none 0 0, .int .i64 (-1), .int .i64 0, .bool false] = W := ⟨_, rfl⟩
  have hinv : NewInvR w S 0 W := by
    subst hW
    refine ⟨?_, ⟨.slice none 0 0, setRow_heap _ _ _ _ _ _ hrd, OwnLs.nil _ _ _ _⟩, below_setRow hB0 (by omega) _, by simp⟩
    rw [setRow_other _ _ _ _ (by omega)]
    exact hrs
  rw [hW]
  clear hW hrs hrd hB0
  have HI := Lib.hid hinv
  clear hinv
  have HS := Lib.hid hS
  clear hS
  go_loopw [5] (fun c wr => ∃ k : Nat, k ≤ m ∧ c = .int .i64 k ∧ NewInvR w S k wr) (fun c _ => m - (intOf c).toNat)
  case atStart => exact ⟨0, by omega, rfl, HI.out⟩
  case round =>
    obtain ⟨k, hk, rfl, hv⟩ := hrel
    have HV := Lib.hid hv
    obtain ⟨hres, ⟨sv, hd, hown⟩, hbel, hsz⟩ := hv
    obtain ⟨c0, -, -, -, -, -⟩ := dkO_cells hd
    by_cases hlt : k < m
    · obtain ⟨mc, hmc⟩ : ∃ mc, mc = (List.map u8v (List.replicate 128 0)).toArray := ⟨_, rfl⟩
      have hmk : ∀ W : World, (Instr.makeSlice 34 (.int .i64 128) (.int .i64 128)).run Try.prog W = .ok (.slice (some ⟨W.heap.size, 0, none⟩) 128 128) (W.alloc (.cells mc 5)) := by
        rw [hmc]
        exact run_make128
      have hnew := (IsBytes.new wr 5 (0, 0) (List.replicate 128 0) (by simp [maxLen])).below ((Below.refl _ (wr.alloc (.cells (List.map u8v (List.replicate 128 0)).toArray 5))).alloc (Nat.le_refl _) (.cells #[.slice (some ⟨wr.heap.size, 0, none⟩) 128 128] 34)) rfl
      rw [← hmc] at hnew
      simp only [List.length_replicate] at hnew
      have HMC := Lib.hid hmc
      clear hmc
      have hown' := hown
      obtain ⟨vs, hvs, hels⟩ := hown'
      rw [List.length_replicate] at hvs
      have hvl : vs.length = k := by rw [hvs.1]; omega
      have HVL := Lib.hid hvl
      clear hvl
      have hB2 : Below wr.heap.size wr ((wr.alloc (.cells mc 5)).alloc (.cells #[.slice (some ⟨wr.heap.size, 0, none⟩) 128 128] 34)) := ((Below.refl _ _).alloc (Nat.le_refl _) _).alloc (by simp) _
      have hcell2 : ((wr.alloc (.cells mc 5)).alloc (.cells #[.slice (some ⟨wr.heap.size, 0, none⟩) 128 128] 34)).cell? ⟨wr.heap.size + 1, 0, none⟩ = some (.slice (some ⟨wr.heap.size, 0, none⟩) 128 128) := by simp
      have hown2 := (hvs.alloc (.cells mc 5)).alloc (.cells #[.slice (some ⟨wr.heap.size, 0, none⟩) 128 128] 34)
      have d2 := (World.cell?_of_block (a := ⟨w.heap.size + 1, 0, none⟩) (Below.heap_alloc wr (.cells mc 5) _ (by show w.heap.size + 1 < wr.heap.size; omega))).trans c0
      have hsz2 : wr.heap.size + 2 = ((wr.alloc (.cells mc 5)).alloc (.cells #[.slice (some ⟨wr.heap.size, 0, none⟩) 128 128] 34)).heap.size := by simp
      obtain ⟨w2, hw2⟩ : ∃ w2, (wr.alloc (.cells mc 5)).alloc (.cells #[.slice (some ⟨wr.heap.size, 0, none⟩) 128 128] 34) = w2 := ⟨_, rfl⟩
      rw [hw2] at hcell2 hB2 hown2 hsz2 hnew
      have d1 := (hB2.cell (p := ⟨w.heap.size + 1, 0, none⟩) (by show w.heap.size + 1 < wr.heap.size; omega)).trans c0
      have hd2 := (hB2.block (w.heap.size + 1) (by omega)).trans hd
      have f1 : w2.frozen? ⟨w.heap.size + 1, 0, none⟩ = false := frozen_of_row _ _ _ _ _ hd2
      have hgd2 : w.heap.size + 1 < w2.heap.size := by omega
      have hgd1 : some (w.heap.size + 1) ≠ sv.ownBlock := fun e => by have := (World.ownsRow.lt hvs _ e.symm).1; omega
      have hM2 : StepW w S k wr w2 sv vs := ⟨hB2, hd2, by omega, hvs, hels, hnew⟩
      have HM2 := Lib.hid hM2
      clear hM2 hd hd2 hnew hels
      have hsrc : Src Try.prog 1 w2.drew 23 (.slice (some ⟨wr.heap.size + 1, 0, none⟩) 1 1) 1 [.slice (some ⟨wr.heap.size, 0, none⟩) 128 128] :=
        src_one _ _ _ Try.underlying23 rfl hcell2
      have s3 : w.heap.size + 2 ≤ w2.heap.size := by omega
      have HSZ := Lib.hid hsz2
      clear hsz2
      have z1 : (k + 1) * 24 ≤ 140737488355328 := by omega
      have z2 : k + 1 ≤ maxLen := by simp only [maxLen]; omega
      go_wp2
      go_region_law ((refine step_append_any' rfl (.tmp 20) (.tmp 22) 23 23 rfl (w.heap.size + 2) 34 (.slice none 0 0) 1 24 Try.underlying23 slice_info rfl sv k vs (by rfl) (show World.ownsRow _ _ _ _ _ _ _ from hown2) _ 1 _ (by rfl) hsrc z1 z2 s3 ?_; intro v3 w3 ho3 hg3 hk3; obtain ⟨b3, q3, rfl⟩ := own_slice ho3; have e3 := hg3.block (w.heap.size + 1) hgd2 hgd1; have c3 := (World.cell?_of_block (a := ⟨w.heap.size + 1, 0, none⟩) e3).trans d1; have f3 := (World.frozen?_of_block (a := ⟨w.heap.size + 1, 0, none⟩) e3).trans f1))
      all_goals
        go_wp2
        go_roundw
        case rel => exact ⟨k + 1, by omega, by go_num, HV.out.step HS.out HM2.out ho3 hg3 hk3⟩
        case measure => simp [intOf]; omega
    · obtain rfl : k = m := by omega
      have hown' := hown
      obtain ⟨vs, hvs, -⟩ := hown'
      rw [List.length_replicate] at hvs
      obtain ⟨b3, q3, rfl⟩ := own_slice hvs
      have hs2 : ∀ j, s2 S w j = true → j < w.heap.size + 2 := fun j hj => by
        simp only [s2, Bool.or_eq_true, decide_eq_true_eq] at hj
        rcases hj with (hj | hj) | hj
        · have := HS.out j hj; omega
        · omega
        · omega
      have hli := hown.is hs2
      have HL := Lib.hid hli
      clear hli hs2 hvs hown
      go_wp2_with (first | (refine wpList_load_row rfl 25 (.tmp 4) rfl (w.heap.size + 1) rfl 25 _ (0, 0) _ hd Try.underlying25 rfl disk_info ?_) | (refine wpList_store_row rfl 25 (.tmp 2) (.tmp 25) rfl w.heap.size #[.slice b3 k q3, .int .i64 (-1), .int .i64 0, .bool false] rfl rfl 25 _ hres disk_info rfl (one4 rfl _ _ _) ?_))
      try simp only [Exit.inBlock, Exit.then]
      have hbz := below_setRow hbel (Nat.le_refl w.heap.size) #[.slice b3 k q3, .int .i64 (-1), .int .i64 0, .bool false]
      refine ret_disk w.heap.size (.slice b3 k q3) (-1) 0 false rfl rfl (setRow_heap _ _ _ _ _ _ hres) rfl ?_
      refine ⟨_, rfl, ⟨_, by simp only [Dk.made], (HL.out.sub (mask_setRow _ _ ?_)).sub (mask_less fun j hj => ?_)⟩, hbz⟩
      · simp [s2]
      · simp [s2, hj]

end Go.Proofs.Ytkfikcppnbfmoaa
