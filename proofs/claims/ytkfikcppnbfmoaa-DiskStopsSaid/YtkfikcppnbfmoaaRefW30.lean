/- The walks over asofref30.with, Write, at the valid disks. -/
import Derived.Test.YtkfikcppnbfmoaaChecked
import Derived.Test.YtkfikcppnbfmoaaRefR30
import Derived.Test.YtkfikcppnbfmoaaSame30
import Derived.Deep.Cut
namespace Go.Proofs.Ytkfikcppnbfmoaa
open Go.RowKit

set_option maxHeartbeats 1000000 in
theorem refWith_any (S : Nat → Bool) (w : World) (hS : ∀ k, S k = true → k < w.heap.size) (v : Value) (d : Dk) (hv : IsDk (mask S w) v d) (hd : d.Ok) (i : Nat) (hi : i < d.sec.length) (bv : Value) (b : List UInt8) (hb : IsBytes w bv b) (hb1 : b.length = 128) (m : Nat) (hm : m ≤ 128) :
    Calls Try.prog 28 #[v, .int .i64 i, bv, .int .i64 m] w fun e w' => ∃ v', e = .returned v' ∧ IsDk (mask S w') v' { d with sec := putAt d.sec i (b.take m) } ∧ Below w.heap.size w w' := by
  obtain ⟨sv, rfl, hlm⟩ := hv
  have hl := hlm.sub (mask_is S w)
  obtain ⟨base, cap, rfl, hl1, hcap, -, hcell⟩ := hl.out
  unfold maxLen at hcap
  obtain ⟨xb, xo, u, rfl, hx, hu⟩ := hcell i hi
  have h128 := hd.size i hi
  obtain ⟨ub, uc, rfl, -, huc, -, -⟩ := hu.out
  obtain ⟨bb, bc, rfl, hbl, hbc, -, -⟩ := hb.out
  unfold maxLen at hbc huc
  have hbt := hb.take m (by omega)
  have hut := hu.from_ m (by omega)
  obtain ⟨tb, htb⟩ : ∃ tb, (if uc = m then ub else Option.map (fun x => x.add m) ub) = tb := ⟨_, rfl⟩
  rw [htb] at hut
  have H128 := Lib.hid h128
  have q1 : m ≤ bc := by omega
  have q2 : m ≤ (d.sec[i]).length := by omega
  have hmany := hd.many
  obtain ⟨vs, hrow, hone, hvs⟩ := hlm.parts
  have HLM := Lib.hid (And.intro hrow (And.intro hone hvs))
  have HD := Lib.hid hd
  have HI := Lib.hid hi
  simp only [dkV] at *
  clear hcell hl hlm hd hrow hone hvs
  obtain ⟨sec, left, tear, st⟩ := d
  simp only at *
  have hB0 : Below w.heap.size w ((w.alloc (.cells #[.slice (some ⟨xb, xo, none⟩) sec.length cap, .int .i64 left, .int .i64 tear, .bool st] 25)).alloc (.cells #[.slice none 0 0, .int .i64 0, .int .i64 0, .bool false] 25)) := ((Below.refl _ _).alloc (Nat.le_refl _) _).alloc (by simp) _
  have hrd := heap_alloc2_old w (.cells #[.slice (some ⟨xb, xo, none⟩) sec.length cap, .int .i64 left, .int .i64 tear, .bool st] 25) (.cells #[.slice none 0 0, .int .i64 0, .int .i64 0, .bool false] 25)
  have hrs := heap_alloc2_new w (.cells #[.slice (some ⟨xb, xo, none⟩) sec.length cap, .int .i64 left, .int .i64 tear, .bool st] 25) (.cells #[.slice none 0 0, .int .i64 0, .int .i64 0, .bool false] 25)
  have hsz : w.heap.size + 2 = ((w.alloc (.cells #[.slice (some ⟨xb, xo, none⟩) sec.length cap, .int .i64 left, .int .i64 tear, .bool st] 25)).alloc (.cells #[.slice none 0 0, .int .i64 0, .int .i64 0, .bool false] 25)).heap.size := by simp
  obtain ⟨W2, hW2⟩ : ∃ W2, (w.alloc (.cells #[.slice (some ⟨xb, xo, none⟩) sec.length cap, .int .i64 left, .int .i64 tear, .bool st] 25)).alloc (.cells #[.slice none 0 0, .int .i64 0, .int .i64 0, .bool false] 25) = W2 := ⟨_, rfl⟩
  rw [hW2] at hB0 hrd hrs hsz
  have hs2 : w.heap.size + 2 ≤ W2.heap.size := by omega
  have ho2 := OwnBytes.nil 5 (w.heap.size + 2) W2
  have HSZ := Lib.hid hsz
  clear hsz
  have hsr1 := (hbt.below hB0 rfl).src (P := Try.prog) Try.underlying34
  have e1 : (b.take m).length = m := by rw [List.length_take]; omega
  have e2 : ((sec[i]).drop m).length = 128 - m := by rw [List.length_drop]; omega
  have E1 := Lib.hid e1
  have E2 := Lib.hid e2
  have HUT := Lib.hid hut
  have HXX := Lib.hid hx
  have HB1 := Lib.hid hb1
  clear e1 e2 hut hx hb1 h128
  go_enter Try.func28, Try.ntmps28
  go_upto_region 3 with (at_builtin; refine wpList_append_bytes rfl (.tmp 11) (.tmp 14) 34 34 rfl (w.heap.size + 2) 5 Try.underlying34 byte_info _ [] rfl ho2 _ (b.take m) rfl hsr1 (by have := E1.out; simp only [List.length_nil]; omega) hs2 ?_; intro v3 w3 ho3 hg3)
  have hK3 := Below.grown (Below.refl (w.heap.size + 2) W2) hg3 hs2 (fun k hk => by cases hk)
  have hB3 := hB0.trans (hK3.mono (by omega))
  have hd3 := (hK3.block w.heap.size (by omega)).trans hrd
  have hr3 := (hK3.block (w.heap.size + 1) (by omega)).trans hrs
  have hsz3 := Nat.le_trans hs2 hK3.size
  obtain ⟨c0, -, -, -, -, -⟩ := dkO_cells hd3
  have hx3 := (hB3.cell (cell_lt HXX.out)).trans HXX.out
  have hsr3 := (HUT.out.below hB3 rfl).src (P := Try.prog) Try.underlying34
  clear hsr1 ho2 hrd hrs hB0 hs2
  go_upto_region 4 with (at_builtin; refine wpList_append_bytes rfl (.tmp 16) (.tmp 23) 34 34 rfl (w.heap.size + 2) 5 Try.underlying34 byte_info _ (b.take m) rfl ho3 _ ((sec[i]).drop m) rfl hsr3 (by have := E1.out; have := E2.out; omega) hsz3 ?_; intro v4 w4 ho4 hg4)
  have hK4 := Below.grown (Below.refl (w.heap.size + 2) w3) hg4 hsz3 (fun k hk => (World.ownsRow.lt ho3 k hk).1)
  have hB4 := hB3.trans (hK4.mono (by omega))
  have hd4 := (hK4.block w.heap.size (by omega)).trans hd3
  have hr4 := (hK4.block (w.heap.size + 1) (by omega)).trans hr3
  have hsz4 := Nat.le_trans hsz3 hK4.size
  clear c0 hx3 hsr3 ho3 hd3 hr3 hB3 hg4 hg3
  obtain ⟨c0, -, -, -, -, -⟩ := dkO_cells hd4
  have hal : Below w4.heap.size w4 (w4.alloc (.cells #[] 34)) := (Below.refl _ _).alloc (Nat.le_refl _) _
  have c1 := (hal.cell (p := ⟨w.heap.size, 0, none⟩) (cell_lt c0)).trans c0
  have hsr4 := Src.row (P := Try.prog) Try.underlying23 (((HLM.out.1.sub (mask_is S w)).below hB4 rfl).below hal rfl) HLM.out.2.1
  go_upto_region 5 with (at_builtin; refine wpList_append_any rfl (.tmp 25) (.tmp 27) 23 23 rfl w4.heap.size 34 (.slice none 0 0) 1 24 Try.underlying23 slice_info rfl _ 0 [] rfl (World.ownsRow_made w4 #[] 0 (Nat.le_refl _) (by simp [maxLen]) (by simp)) _ sec.length vs rfl hsr4 (by omega) (by simp only [maxLen]; omega) (by simp) ?_; intro v5 w5 ho5 hg5)
  have ho6 : w5.ownsRow w4.heap.size 34 1 v5 sec.length vs := by simpa using ho5
  obtain ⟨g, q, rfl, hlo, hhi⟩ := own_block ho6 (by have := HI.out; omega)
  have hK5 := Below.grown hal hg5 (by simp) (fun k hk => by cases hk; exact Nat.le_refl _)
  have hB5 := hB4.trans (hK5.mono hB4.size)
  have hd5 := (hK5.block w.heap.size (by omega)).trans hd4
  have hr5 := (hK5.block (w.heap.size + 1) (by omega)).trans hr4
  have ho4' := ho4.later hK5
  clear c0 c1 hsr4 hd4 hr4 hB4 hg5 ho5 hal
  obtain ⟨c0, -, -, -, -, -⟩ := dkO_cells hd5
  have f0 : w5.frozen? ⟨w.heap.size, 0, none⟩ = false := frozen_of_row _ _ _ _ _ hd5
  obtain ⟨y, hy, -⟩ := HLM.out.2.2 i HI.out
  have cy := (World.ownsRow.cellAt ho6 i (Nat.lt_of_lt_of_eq HI.out (Nat.mul_one _).symm)).trans hy
  have fy := World.ownsRow.frozenAt ho6 i
  have n1 : ¬ w.heap.size = g := by omega
  have n2 : ¬ g = w.heap.size := by omega
  have hi' : i < sec.length := HI.out
  have i1 : (i : Int) < (sec.length : Int) := by omega
  obtain ⟨s0, hs0⟩ : ∃ s0, b.take m ++ (sec[i]).drop m = s0 := ⟨_, rfl⟩
  replace ho4' : OwnBytes 5 (w.heap.size + 2) w5 v4 s0 := hs0 ▸ ho4'
  have ho4s : OwnBytes 5 (w.heap.size + 2) w4 v4 s0 := hs0 ▸ ho4
  have HS0 := Lib.hid hs0
  clear hs0
  obtain ⟨b4, q4, rfl⟩ := own_slice ho4'
  clear ho4
  go_upto_region 7 with (fail)
  have hd7 : ((w5.setCell ⟨g, i, none⟩ (.slice b4 s0.length q4)).setCell ⟨w.heap.size, 0, none⟩ (.slice (some ⟨g, 0, none⟩) sec.length q)).heap[w.heap.size]? = some (dkO (.slice (some ⟨g, 0, none⟩) sec.length q) left tear st) := by
    rw [heap_setCell_same _ _ 0 _ _ _ ((heap_setCell_other _ _ _ _ n1).trans hd5)]
    rfl
  have hr7 : ((w5.setCell ⟨g, i, none⟩ (.slice b4 s0.length q4)).setCell ⟨w.heap.size, 0, none⟩ (.slice (some ⟨g, 0, none⟩) sec.length q)).heap[w.heap.size + 1]? = some (dkO (.slice none 0 0) 0 0 false) := by
    rw [heap_setCell_other _ _ _ _ (by show w.heap.size + 1 ≠ w.heap.size; omega), heap_setCell_other _ _ _ _ (by show w.heap.size + 1 ≠ g; omega)]
    exact hr5
  have hst := (World.ownsRow.stored ho6 i (.slice b4 s0.length q4)).1
  have hB6 : Below w.heap.size w ((w5.setCell ⟨g, i, none⟩ (.slice b4 s0.length q4)).setCell ⟨w.heap.size, 0, none⟩ (.slice (some ⟨g, 0, none⟩) sec.length q)) :=
    (hB5.setCell (by show w.heap.size ≤ g; omega) _).setCell (Nat.le_refl _) _
  obtain ⟨w6, hw6⟩ : ∃ w6, (w5.setCell ⟨g, i, none⟩ (.slice b4 s0.length q4)).setCell ⟨w.heap.size, 0, none⟩ (.slice (some ⟨g, 0, none⟩) sec.length q) = w6 := ⟨_, rfl⟩
  have hrow6 : w6.ownsRow w4.heap.size 34 1 (.slice (some ⟨g, 0, none⟩) sec.length q) sec.length (vs.set i (.slice b4 s0.length q4)) := by
    rw [← hw6]
    exact World.ownsRow.kept hst (setCell_grown _ ⟨w.heap.size, 0, none⟩ _) (.inr (fun e => n2 (by cases e; rfl)))
  have hby6 : IsBytes w6 (.slice b4 s0.length q4) s0 := by
    rw [← hw6]
    refine (ho4'.is.setCell ⟨g, i, none⟩ _ (fun k hk => ?_)).setCell ⟨w.heap.size, 0, none⟩ _ (fun k hk => ?_)
    · have := (World.ownsRow.lt ho4s k hk).2
      show k ≠ g
      omega
    · have := (World.ownsRow.lt ho4s k hk).1
      show k ≠ w.heap.size
      omega
  rw [hw6] at hd7 hr7 hB6 ⊢
  clear hw6 hst c0 f0 cy fy
  go_wp2_with (first | (refine wpList_load_row rfl 25 (.tmp 4) rfl w.heap.size rfl 25 _ (0, 0) _ hd7 Try.underlying25 rfl disk_info ?_) | (refine wpList_store_row rfl 25 (.tmp 8) (.tmp 35) rfl (w.heap.size + 1) #[.slice (some ⟨g, 0, none⟩) sec.length q, .int .i64 left, .int .i64 tear, .bool st] rfl rfl 25 _ hr7 disk_info rfl (one4 rfl _ _ _) ?_))
  try simp only [Exit.inBlock, Exit.then]
  have hbz := below_setRow hB6 (Nat.le_succ w.heap.size) #[.slice (some ⟨g, 0, none⟩) sec.length q, .int .i64 left, .int .i64 tear, .bool st]
  refine ret_disk1 (w.heap.size + 1) (.slice (some ⟨g, 0, none⟩) sec.length q) left tear st rfl rfl (setRow_heap _ _ _ _ _ _ hr7) rfl ⟨_, rfl, ⟨_, rfl, ?_⟩, hbz⟩
  have hlt4 : ∀ k, (Value.slice b4 s0.length q4).ownBlock = some k → w.heap.size + 2 ≤ k := fun k hk => (World.ownsRow.lt ho4s k hk).1
  have hoff : ∀ k, w.heap.size ≤ k → S k = false := fun k hk => by
    cases h : S k with
    | false => rfl
    | true => have := hS k h; omega
  have hP : putAt sec i (b.take m) = sec.set i s0 := by
    unfold putAt
    rw [← HS0.out, E1.out]
    congr 2
    simp [List.getD_eq_getElem?_getD, hi']
  show IsLists _ _ (putAt sec i (b.take m))
  rw [hP]
  have hL : (sec.set i s0).length = sec.length := List.length_set
  refine isLists_of_row (vs := vs.set i (.slice b4 s0.length q4)) ?_ (fun j hj => ?_)
  · rw [hL]
    exact mask_row ((ownsRow_isRow hrow6).own (fun k hk => setRow_other _ _ _ _ (by
      have : g = k := by cases hk; rfl
      omega))) (fun k hk => hoff k (by
        have : g = k := by cases hk; rfl
        omega))
  · rw [hL] at hj
    have hvl : vs.length = sec.length := by rw [ho6.1]; omega
    by_cases e : i = j
    · subst e
      refine ⟨_, by rw [List.getElem?_set, if_pos rfl, if_pos (by omega)], ?_⟩
      rw [List.getElem_set_self]
      exact mask_row (IsRow.own hby6 (fun k hk => setRow_other _ _ _ _ (by have := hlt4 k hk; omega))) (fun k hk => hoff k (by have := hlt4 k hk; omega))
    · obtain ⟨x, k1, k2⟩ := HLM.out.2.2 j hj
      refine ⟨x, by rw [List.getElem?_set, if_neg e]; exact k1, ?_⟩
      rw [List.getElem_set_ne e]
      exact k2.sub (mask_below hbz rfl)

end Go.Proofs.Ytkfikcppnbfmoaa
