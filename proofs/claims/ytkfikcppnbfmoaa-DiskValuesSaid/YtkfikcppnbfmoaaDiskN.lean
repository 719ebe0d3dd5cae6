/- The walk over disk.New. -/
import Derived.Test.YtkfikcppnbfmoaaChecked
import Derived.Test.YtkfikcppnbfmoaaDisk
import Derived.Deep.OwnRows
namespace Go.Proofs.Ytkfikcppnbfmoaa
open Go.RowKit

def Dk.made (n : Nat) : Dk := ⟨List.replicate n (List.replicate 128 0), -1, 0, false⟩
def Dk.new (n : Int) : Dk × Int := if n < 1 ∨ 4096 < n then (Dk.zero, 1) else (Dk.made n.toNat, 0)

theorem box1_b {w w1 : World} {A : Obj} (hb : w.alloc A = w1) : w1.heap[w.heap.size]? = some A := by subst hb; exact heap_alloc_new w A

/-- make([][]byte, n). -/
theorem wpList_make_lists {P : Program} {w : World} {ops : Array Oper} {rest : List Oper} {o : Oper} {a : Act} {Q : Exit → Act → World → Prop}
    (hg : o.guard = none) (x c : Operand) (t : TypeId) (hop : o.op = Op.makeSlice t x c)
    (base : Nat) (e : TypeId) (h1 : P.underlying t = some (.slice e)) (hinfo : (P.info? e).map (fun i => (i.zero, i.size, i.bytes)) = some (some (.slice none 0 0), 1, 24))
    (n : Nat) (hl : a.eval x = .int .i64 n) (hc : a.eval c = .int .i64 n) (hn : n ≤ 1048576) (hbase : base ≤ w.heap.size)
    (hK : ∀ w', w'.ownsRow base e 1 (.slice (some ⟨w.heap.size, 0, none⟩) n n) n (List.replicate n (.slice none 0 0)) → w.grownBy w' none → wpList P ops Q rest (a.put o.dst (.slice (some ⟨w.heap.size, 0, none⟩) n n)) w') :
    wpList P ops Q (o :: rest) a w := by
  obtain ⟨i, hi, hz, hs, hb⟩ := info_parts hinfo
  refine wpList_make_full w hg x c t hop base e i (.slice none 0 0) 1 h1 hi hz hs .i64 .i64 n n n hl hc rfl rfl (by rw [hb]; omega) (by simp only [maxLen]; omega) hbase ?_
  intro w' ho hgr
  refine hK w' ?_ hgr
  have e : (madeCells (Value.slice none 0 0).cells (n * 1)).toList = List.replicate n (.slice none 0 0) := by
    rw [Nat.mul_one]; exact toList_madeCells_one _ n
  rw [← e]
  exact ho

/-- The loop's world: the result's block, the row of sectors, of which the first k are made. -/
structure NewInv (w : World) (g m k : Nat) (wr : World) : Prop where
  res : wr.heap[w.heap.size]? = some (dkO (.slice (some ⟨g, 0, none⟩) m m) (-1) 0 false)
  row : ∃ vs : List Value, wr.ownsRow g 34 1 (.slice (some ⟨g, 0, none⟩) m m) m vs ∧ ∀ j, j < m → ∃ u, vs[j]? = some u ∧ u.oneCell' = true ∧ (j < k → ∃ b, u = .slice (some ⟨b, 0, none⟩) 128 128 ∧ g < b ∧ IsBytes wr u (List.replicate 128 0))
  below : Below w.heap.size w wr
  size : g < wr.heap.size

theorem NewInv.step {w : World} {g m k : Nat} {wr : World} (h : NewInv w g m k wr) (hk : k < m) (hg : w.heap.size < g) :
    NewInv w g m (k + 1) (((wr.alloc (.cells (List.map u8v (List.replicate 128 0)).toArray 5)).setCell ⟨g, k, none⟩ (.slice (some ⟨wr.heap.size, 0, none⟩) 128 128)).drew) := by
  obtain ⟨hres, ⟨vs, hrow, hvs⟩, hbel, hgs⟩ := h
  have hvl : vs.length = m := by rw [hrow.1]; omega
  have hrow1 := hrow.alloc (.cells (List.map u8v (List.replicate 128 0)).toArray 5)
  have hst := (World.ownsRow.stored hrow1 k (.slice (some ⟨wr.heap.size, 0, none⟩) 128 128)).1
  have hnew : IsBytes (wr.alloc (.cells (List.map u8v (List.replicate 128 0)).toArray 5)) (.slice (some ⟨wr.heap.size, 0, none⟩) 128 128) (List.replicate 128 0) := by
    have := IsBytes.new wr 5 (0, 0) (List.replicate 128 0) (by simp [maxLen])
    simpa only [List.length_replicate] using this
  refine ⟨?_, ⟨_, hst, fun j hj => ?_⟩, ?_, ?_⟩
  · show ((wr.alloc _).setCell _ _).heap[_]? = _
    rw [heap_setCell_other _ _ _ _ (by show w.heap.size ≠ g; omega), Below.heap_alloc _ _ _ (by omega)]
    exact hres
  · by_cases e : k = j
    · subst e
      refine ⟨_, by rw [List.getElem?_set, if_pos rfl, if_pos (by omega)], rfl, fun _ => ⟨_, rfl, hgs, ?_⟩⟩
      exact IsRow.own hnew (fun b hb => heap_setCell_other _ _ _ _ (by
        have : wr.heap.size = b := by cases hb; rfl
        show b ≠ g
        omega))
    · obtain ⟨u, h1, h2, h3⟩ := hvs j hj
      refine ⟨u, by rw [List.getElem?_set, if_neg e]; exact h1, h2, fun hjk => ?_⟩
      obtain ⟨b, rfl, hgb, hu⟩ := h3 (by omega)
      refine ⟨b, rfl, hgb, ?_⟩
      have hbl : b < wr.heap.size := by
        obtain ⟨_, _, e1, _, _, _, _, hc⟩ := hu
        obtain ⟨b', off, e2, hx⟩ := hc 0 (by simp)
        cases e1; cases e2
        exact cell_lt hx
      exact IsRow.own hu (fun b2 hb2 => by
        have : b = b2 := by cases hb2; rfl
        subst this
        exact (heap_setCell_other _ _ _ _ (by show b ≠ g; omega)).trans (Below.heap_alloc _ _ _ hbl))
  · exact ((hbel.alloc (by omega) _).setCell (by show _ ≤ g; omega) _).drew
  · show g < ((wr.alloc _).setCell _ _).heap.size
    simp [World.setCell]
    omega

theorem NewInv.done {S : Nat → Bool} {w : World} (hS : ∀ k, S k = true → k < w.heap.size) {g m : Nat} {wr : World} (h : NewInv w g m m wr) (hg : w.heap.size < g) (cs : Array Value) : IsLists (mask S (wr.setRow w.heap.size cs)) (.slice (some ⟨g, 0, none⟩) m m) (List.replicate m (List.replicate 128 0)) := by
  obtain ⟨hres, ⟨vs, hrow, hvs⟩, hbel, hgs⟩ := h
  refine isLists_of_row (vs := vs) ?_ (fun j hj => ?_)
  · rw [List.length_replicate]
    have hoff : S g = false := by
      cases h : S g with
      | false => rfl
      | true => have := hS g h; omega
    exact mask_row ((ownsRow_isRow hrow).own (fun b hb => setRow_other _ _ _ _ (by
      have : g = b := by cases hb; rfl
      omega))) (fun b hb => by
        have : g = b := by cases hb; rfl
        subst this
        exact hoff)
  · rw [List.length_replicate] at hj
    obtain ⟨u, h1, _, h3⟩ := hvs j hj
    obtain ⟨b, rfl, hgb, hu⟩ := h3 hj
    refine ⟨_, h1, ?_⟩
    rw [List.getElem_replicate]
    have hoff : S b = false := by
      cases h : S b with
      | false => rfl
      | true => have := hS b h; omega
    exact mask_row (IsRow.own hu (fun b2 hb => setRow_other _ _ _ _ (by
      have : b = b2 := by cases hb; rfl
      omega))) (fun b2 hb => by
        have : b = b2 := by cases hb; rfl
        subst this
        exact hoff)

set_option maxHeartbeats 1000000 in
theorem new_any (S : Nat → Bool) (w : World) (hS : ∀ k, S k = true → k < w.heap.size) (n : Int) :
    Calls Try.prog 8 #[.int .i64 n] w fun e w' => ∃ v', e = .returned (.tuple #[v', .int .i64 (Dk.new n).2]) ∧ IsDk (mask S w') v' (Dk.new n).1 ∧ Below w.heap.size w w' := by
  have hB0 : Below w.heap.size w (w.alloc (.cells #[.slice none 0 0, .int .i64 0, .int .i64 0, .bool false] 25)) := (Below.refl _ _).alloc (Nat.le_refl _) _
  have hrs := heap_alloc_new w (.cells #[.slice none 0 0, .int .i64 0, .int .i64 0, .bool false] 25)
  by_cases k1 : n < 1
  · have hr : Dk.new n = (Dk.zero, 1) := by simp [Dk.new, k1]
    rw [hr]
    go_enter Try.func8, Try.ntmps8
    go_wp2_with (refine wpList_store_row rfl 25 (.tmp 2) (.tmp 11) rfl w.heap.size #[.slice none 0 0, .int .i64 0, .int .i64 0, .bool false] rfl rfl 25 _ hrs disk_info rfl (one4 rfl _ _ _) ?_)
    try simp only [Exit.inBlock, Exit.then]
    refine ret_disk w.heap.size (.slice none 0 0) 0 0 false rfl rfl (setRow_heap _ _ _ _ _ _ hrs) rfl ⟨_, rfl, dk_zero _, below_setRow hB0 (Nat.le_refl _) _⟩
  by_cases k2 : 4096 < n
  · have hr : Dk.new n = (Dk.zero, 1) := by simp [Dk.new, k2]
    rw [hr]
    go_enter Try.func8, Try.ntmps8
    go_wp2_with (refine wpList_store_row rfl 25 (.tmp 2) (.tmp 11) rfl w.heap.size #[.slice none 0 0, .int .i64 0, .int .i64 0, .bool false] rfl rfl 25 _ hrs disk_info rfl (one4 rfl _ _ _) ?_)
    try simp only [Exit.inBlock, Exit.then]
    refine ret_disk w.heap.size (.slice none 0 0) 0 0 false rfl rfl (setRow_heap _ _ _ _ _ _ hrs) rfl ⟨_, rfl, dk_zero _, below_setRow hB0 (Nat.le_refl _) _⟩
  obtain ⟨m, rfl⟩ : ∃ m : Nat, n = (m : Int) := ⟨n.toNat, by omega⟩
  have hr : Dk.new m = (Dk.made m, 0) := by simp [Dk.new, k1, k2]
  rw [hr]
  have hsz : w.heap.size < (w.alloc (.cells #[.slice none 0 0, .int .i64 0, .int .i64 0, .bool false] 25)).heap.size := by simp
  obtain ⟨w1, hw1⟩ : ∃ w1, w.alloc (.cells #[.slice none 0 0, .int .i64 0, .int .i64 0, .bool false] 25) = w1 := ⟨_, rfl⟩
  rw [hw1] at hB0 hrs hsz
  go_enter Try.func8, Try.ntmps8
  go_wp2_with (first | (refine wpList_make_lists rfl (.tmp 12) (.tmp 12) 23 rfl w1.heap.size 34 Try.underlying23 slice_info m rfl rfl (by omega) (Nat.le_refl _) ?_; intro w2 ho2 hg2; have hrs2 := (hg2.block w.heap.size hsz (by simp)).trans hrs) | (refine wpList_store_row rfl 25 (.tmp 2) (.tmp 14) rfl w.heap.size #[.slice (some ⟨w1.heap.size, 0, none⟩) m m, .int .i64 (-1), .int .i64 0, .bool false] rfl rfl 25 _ hrs2 disk_info rfl (one4 rfl _ _ _) ?_; have hrs3 := setRow_heap _ _ _ #[.slice (some ⟨w1.heap.size, 0, none⟩) m m, .int .i64 (-1), .int .i64 0, .bool false] _ _ hrs2; obtain ⟨c0, c1, c2, c3, f1, f2⟩ := dkO_cells hrs3))
  have hgP : w.heap.size < w1.heap.size := hsz
  have hB3 : Below w.heap.size w (w2.setRow w.heap.size #[.slice (some ⟨w1.heap.size, 0, none⟩) m m, .int .i64 (-1), .int .i64 0, .bool false]) := below_setRow (Below.grown hB0 hg2 hB0.size (fun k hk => by cases hk)) (Nat.le_refl _) _
  have hinv : NewInv w w1.heap.size m 0 (w2.setRow w.heap.size #[.slice (some ⟨w1.heap.size, 0, none⟩) m m, .int .i64 (-1), .int .i64 0, .bool false]) := by
    refine ⟨hrs3, ⟨List.replicate m (.slice none 0 0), ?_, fun j hj => ⟨.slice none 0 0, ?_, rfl, fun h => absurd h (by omega)⟩⟩, hB3, ?_⟩
    · refine ho2.kept (row := some w.heap.size) ⟨rfl, rfl, rfl, by simp, fun k _ hk => setRow_other _ _ _ _ (fun e => hk (congrArg some e.symm).symm)⟩ (.inr (fun e => by
        have : w1.heap.size = w.heap.size := Option.some.inj e
        omega))
    · simp [hj]
    · rw [size_setRow]
      exact (World.ownsRow.lt ho2 w1.heap.size rfl).2
  have HI := Lib.hid hinv
  clear hinv ho2 hrs2 hrs hB0 hB3
  go_loopw [4, 18] (fun s c wr => ∃ k : Nat, k ≤ m ∧ c = .int .i64 k ∧ NewInv w w1.heap.size m k wr) (fun _ c _ => m - (intOf c).toNat)
  case atStart => exact ⟨0, by omega, rfl, HI.out⟩
  case round =>
    obtain ⟨k, hk, rfl, hv⟩ := hrel
    have HV := Lib.hid hv
    obtain ⟨hres, ⟨vs, hrow, hvs⟩, hbel, hgs⟩ := hv
    have HVS := Lib.hid hvs
    clear hvs
    obtain ⟨c0, c1, c2, c3, f1, f2⟩ := dkO_cells hres
    by_cases hlt : k < m
    · obtain ⟨u, hu1, hu2, -⟩ := HVS.out k hlt
      have cgk := (World.ownsRow.cellAt hrow k (by omega)).trans hu1
      have fgk := World.ownsRow.frozenAt hrow k
      have hklt : (k : Int) < (m : Int) := by omega
      obtain ⟨mc, hmc⟩ : ∃ mc, mc = (List.map u8v (List.replicate 128 0)).toArray := ⟨_, rfl⟩
      have hmk : ∀ W : World, (Instr.makeSlice 34 (.int .i64 128) (.int .i64 128)).run Try.prog W = .ok (.slice (some ⟨W.heap.size, 0, none⟩) 128 128) (W.alloc (.cells mc 5)) := by
        intro W
        have h := run_make_row' (P := Try.prog) 34 5 (.int .u8 0) 1 Try.underlying34 byte_info rfl .i64 .i64 128 (by omega) (by omega) W
        have e : madeCells #[Value.int .u8 0] 128 = mc := by
          rw [hmc]
          apply Array.toList_inj.1
          rw [toList_madeCells_one]
          simp only [List.map_replicate]
          rfl
        rw [e] at h
        exact h
      have HMC := Lib.hid hmc
      clear hmc
      have hPlt : w.heap.size < wr.heap.size := by omega
      have d0 := (World.cell?_of_block (a := ⟨w.heap.size, 0, none⟩) (Below.heap_alloc wr (.cells mc 5) _ hPlt)).trans c0
      have dgk := (World.cell?_of_block (a := ⟨w1.heap.size, k, none⟩) (Below.heap_alloc wr (.cells mc 5) _ hgs)).trans cgk
      have egk := (World.frozen?_of_block (a := ⟨w1.heap.size, k, none⟩) (Below.heap_alloc wr (.cells mc 5) _ hgs)).trans fgk
      go_wp2
      go_region
      go_wp2
      go_roundw
      case rel => exact ⟨k + 1, by omega, by go_num, by have := HV.out.step hlt hgP; rw [← HMC.out, World.setCell_alloc_past _ _ _ _ hgs] at this; exact this⟩
      case measure => simp [intOf]; omega
    · obtain rfl : k = m := by omega
      go_wp2_with (first | (refine wpList_load_row rfl 25 (.tmp 2) rfl w.heap.size rfl 25 _ (0, 0) _ hres Try.underlying25 rfl disk_info ?_) | (refine wpList_store_row rfl 25 (.tmp 2) (.tmp 27) rfl w.heap.size #[.slice (some ⟨w1.heap.size, 0, none⟩) k k, .int .i64 (-1), .int .i64 0, .bool false] rfl rfl 25 _ hres disk_info rfl (one4 rfl _ _ _) ?_))
      try simp only [Exit.inBlock, Exit.then]
      have hbz := below_setRow hbel (Nat.le_refl w.heap.size) #[.slice (some ⟨w1.heap.size, 0, none⟩) k k, .int .i64 (-1), .int .i64 0, .bool false]
      refine ret_disk w.heap.size (.slice (some ⟨w1.heap.size, 0, none⟩) k k) (-1) 0 false rfl rfl (setRow_heap _ _ _ _ _ _ hres) rfl ?_
      exact ⟨_, rfl, ⟨_, by simp only [Dk.made], HV.out.done hS hgP _⟩, hbz⟩

end Go.Proofs.Ytkfikcppnbfmoaa
