/- The walks over package checksum: what table, Extend and Sum32 compute, as plain functions on lists of bytes. -/
import Derived.Test.YtblfpkhgnfjbbaaChecked
import Derived.Test.YtblfpkhgnfjbbaaCrc
import Derived.Test.YtblfpkhgnfjbbaaMem
namespace Go.Proofs.Ytblfpkhgnfjbbaa
open Go.RowKit

theorem xor32 (x y : BitVec 32) : bits .xor .u32 (x.toNat : Int) (y.toNat : Int) = ((x ^^^ y).toNat : Int) := by
  rw [BitVec.toNat_xor]; exact u32_xor_nat _ _ (by omega) (by omega)
theorem shr32_1 (x : BitVec 32) : (x.toNat : Int) / (2 : Int) = (((x >>> 1).toNat : Nat) : Int) := by
  rw [BitVec.toNat_ushiftRight, Nat.shiftRight_eq_div_pow]; rfl
theorem and32_1 (x : BitVec 32) : bits .and .u32 (x.toNat : Int) 1 = ((x &&& 1#32).toNat : Int) := by
  rw [BitVec.toNat_and]; exact u32_and_nat x.toNat 1 (by omega) (by omega)
theorem low32 (x : BitVec 32) : (bits .and .u32 (x.toNat : Int) 1 == 1) = decide (x &&& 1#32 = 1#32) := by
  rw [and32_1, Bool.eq_iff_iff, beq_iff_eq, decide_eq_true_eq, ← BitVec.toNat_inj]
  show _ ↔ _ = 1
  omega
theorem rnd_yes {x : BitVec 32} (h : (bits .and .u32 (x.toNat : Int) 1 == 1) = true) : bits .xor .u32 ((x.toNat : Int) / 2) 3988292384 = ((Crc.rnd x).toNat : Int) := by
  rw [low32, decide_eq_true_eq] at h
  rw [Crc.rnd, if_pos h, ← xor32, ← shr32_1]; rfl
theorem rnd_no {x : BitVec 32} (h : (bits .and .u32 (x.toNat : Int) 1 == 1) = false) : (x.toNat : Int) / 2 = ((Crc.rnd x).toNat : Int) := by
  rw [low32, decide_eq_false_iff_not] at h
  rw [Crc.rnd, if_neg h, shr32_1]

set_option maxHeartbeats 400000 in
theorem fill_any (i b : Nat) (w : World) (hi : i < 256) (v0 : Value) (hc : w.cell? ⟨b, i, none⟩ = some v0) (hf : w.frozen? ⟨b, i, none⟩ = false) :
    Calls Try.prog 43 #[.int .i64 i, .pointer (some ⟨b, 0, none⟩)] w fun e w' => e = .returned (.tuple #[]) ∧ w' = w.setCell ⟨b, i, none⟩ (.int .u32 (Crc.tab i).toNat) := by
  go_enter Try.func43, Try.ntmps43
  go_wp2
  go_loop [3, 6] (fun r c => ∃ k : Nat, k ≤ 8 ∧ c = .int .i64 k ∧ r = .int .u32 ((Crc.rnds k (BitVec.ofNat 32 i)).toNat : Int)) (fun _ c => 8 - (intOf c).toNat)
  case atStart => exact ⟨0, by omega, rfl, by simp [Crc.rnds]; omega⟩
  case round =>
    obtain ⟨k, hk, rfl, rfl⟩ := hrel
    go_wp2
    · go_round
      case rel => exact ⟨k + 1, by omega, by go_num, congrArg _ (rnd_yes ‹_›)⟩
      case measure => simp [intOf]; omega
    · go_round
      case rel => exact ⟨k + 1, by omega, by go_num, congrArg _ (rnd_no ‹_›)⟩
      case measure => simp [intOf]; omega
    · obtain rfl : k = 8 := by omega
      go_end0
      exact ⟨rfl, rfl⟩

theorem table_zero : (Try.prog.info? 67).bind (·.zero) = some (.agg (Array.replicate 256 (.int .u32 0))) := by kernel_rfl

def fillTo (k : Nat) : Array Value := Array.ofFn fun i : Fin 256 => if i.val < k then Value.int .u32 ((Crc.tab i.val).toNat : Int) else .int .u32 0
theorem fillTo_size (k : Nat) : (fillTo k).size = 256 := by simp [fillTo]
theorem fillTo_zero : fillTo 0 = Array.replicate 256 (.int .u32 0) := by
  apply Array.ext
  · simp [fillTo]
  · intro i h1 h2; simp [fillTo]
theorem fillTo_all : fillTo 256 = Crc.tabVals := by
  apply Array.ext
  · simp [fillTo, Crc.tabVals]
  · intro i h1 h2; rw [fillTo_size] at h1; simp [fillTo, Crc.tabVals]

theorem fillTo_succ (k : Nat) : (fillTo k).setIfInBounds k (.int .u32 ((Crc.tab k).toNat : Int)) = fillTo (k + 1) := by
  apply Array.ext
  · simp [fillTo]
  · intro i h1 h2
    rw [Array.getElem_setIfInBounds (by simpa using h1)]
    simp only [fillTo, Array.getElem_ofFn]
    by_cases e : k = i
    · subst e; simp
    · rw [if_neg e]
      by_cases e2 : i < k
      · rw [if_pos e2, if_pos (by omega)]
      · rw [if_neg e2, if_neg (by omega)]

theorem fillTo_one : (fillTo 256).all (·.oneCell') = true := by
  rw [Array.all_eq_true]
  intro i h
  simp only [fillTo, Array.getElem_ofFn]
  split <;> rfl
theorem tab_info : (Try.prog.info? 67).map (·.size) = some (fillTo 256).size := by rw [fillTo_size]; kernel_rfl
theorem tab_info' : (Try.prog.info? 67).map (·.size) = some Crc.tabVals.size := by rw [← fillTo_all]; exact tab_info
theorem tab_size : (Array.replicate 256 (Value.int .u32 0)).size = Crc.tabVals.size := by simp [Crc.tabVals]
theorem tab_one : Crc.tabVals.all (·.oneCell') = true := by rw [← fillTo_all]; exact fillTo_one
attribute [local irreducible] fillTo
set_option maxRecDepth 10000 in
set_option maxHeartbeats 400000 in
theorem table_any (w : World) :
    Calls Try.prog 41 #[] w fun e w' => e = .returned (.agg Crc.tabVals) ∧ Below w.heap.size w w' := by
  go_enter Try.func41, Try.ntmps41
  go_wp2_with (refine wpList_alloc rfl 67 rfl _ table_zero ?_)
  rw [← fillTo_zero]
  go_loopw [3, 5] (fun _ c wr => ∃ k : Nat, k ≤ 256 ∧ c = .int .i64 k ∧ wr = (w.alloc (.cells (fillTo 0) 67)).alloc (.cells (fillTo k) 67)) (fun _ c _ => 256 - (intOf c).toNat)
  case atStart => exact ⟨0, by omega, rfl, rfl⟩
  case round =>
    obtain ⟨k, hk, rfl, rfl⟩ := hrel
    by_cases hlt : k < 256
    · have hcell : ((w.alloc (.cells (fillTo 0) 67)).alloc (.cells (fillTo k) 67)).cell? ⟨w.heap.size + 1, k, none⟩ = some ((fillTo k)[k]'(by rw [fillTo_size]; exact hlt)) := by
        rw [World.cell?_alloc2_new, Array.getElem?_eq_getElem]
      have hfroz : ((w.alloc (.cells (fillTo 0) 67)).alloc (.cells (fillTo k) 67)).frozen? ⟨w.heap.size + 1, k, none⟩ = false := World.frozen?_alloc2_new _ _ _ _
      have hset : ((w.alloc (.cells (fillTo 0) 67)).alloc (.cells (fillTo k) 67)).setCell ⟨w.heap.size + 1, k, none⟩ (.int .u32 ((Crc.tab k).toNat : Int)) = (w.alloc (.cells (fillTo 0) 67)).alloc (.cells (fillTo (k + 1)) 67) := by
        rw [World.setCell_alloc_at _ _ _ _ _ (by simp), fillTo_succ k]
      have Hset := Lib.hid hset
      clear hset
      go_wp2_with (go_at_call 43; refine (fill_any k (w.heap.size + 1) _ hlt _ hcell hfroz).mono ?_; rintro e w' ⟨rfl, rfl⟩; rw [Hset.out])
      go_roundw
      case rel => exact ⟨k + 1, by omega, by go_num, rfl⟩
      case measure => simp [intOf]; omega
    · obtain rfl : k = 256 := by omega
      go_wp2_with (first | refine wpList_load_row rfl 67 (.tmp 1) rfl (w.heap.size + 1) rfl 67 (fillTo 256) (0, 0) _ (heap_alloc2_new _ _ _) Try.underlying67 rfl tab_info ?_ | refine wpList_store_row rfl 67 (.tmp 0) (.tmp 12) rfl w.heap.size (fillTo 256) rfl rfl 67 (fillTo 0) (heap_alloc2_old _ _ _) tab_info (by rw [fillTo_size, fillTo_size]) fillTo_one ?_)
      refine bodyPost_ret (v := .agg (fillTo 256)) (results_cell_row (t := 67) (fr := (0, 0)) rfl _ _ w.heap.size _ _ rfl (setRow_heap _ _ _ _ _ _ (heap_alloc2_old _ _ _)) Try.underlying67 rfl tab_info) rfl ⟨by rw [fillTo_all], ?_⟩
      exact below_setRow (((Below.refl _ _).alloc (Nat.le_refl _) _).alloc (by simp) _) (Nat.le_refl _) _

theorem not32 (x : BitVec 32) : bits .xor .u32 IntKind.u32.max (x.toNat : Int) = ((~~~x).toNat : Int) := by
  have h := xor32 (BitVec.allOnes 32) x
  rw [BitVec.allOnes_xor] at h
  exact h
/-- The place in the table, as the machine reckons it. -/
theorem idx_lt (r : BitVec 32) (x : UInt8) : r.toNat % 256 ^^^ x.toNat < 256 := Nat.xor_lt_two_pow (n := 8) (by omega) (by have := x.toNat_lt; omega)
theorem idx_eq (r : BitVec 32) (x : UInt8) : ((r.setWidth 8) ^^^ x.toBitVec).toNat = r.toNat % 256 ^^^ x.toNat := by
  rw [BitVec.toNat_xor, BitVec.toNat_setWidth]; rfl
theorem step_eq (r : BitVec 32) (x : UInt8) : bits .xor .u32 ((r.toNat : Int) / 256) ((Crc.tab (r.toNat % 256 ^^^ x.toNat)).toNat : Int) = ((Crc.step r x).toNat : Int) := by
  have h : (r.toNat : Int) / (256 : Int) = (((r >>> 8).toNat : Nat) : Int) := by rw [BitVec.toNat_ushiftRight, Nat.shiftRight_eq_div_pow]; rfl
  rw [h, xor32, ← idx_eq]; rfl
theorem run_snoc (r : BitVec 32) (l : List UInt8) (k : Nat) (h : k < l.length) : Crc.run r (l.take (k + 1)) = Crc.step (Crc.run r (l.take k)) l[k] := by
  rw [List.take_succ_eq_append_getElem h]; simp only [Crc.run, List.foldl_append, List.foldl_cons, List.foldl_nil]
theorem idx_bits (r : BitVec 32) (x : UInt8) : bits .xor .u8 ((r.toNat : Int) % 256) (x.toNat : Int) = ((r.toNat % 256 ^^^ x.toNat : Nat) : Int) := by
  have h : ((r.toNat : Int) % 256) = ((r.toNat % 256 : Nat) : Int) := by omega
  rw [h]
  exact u8_xor_nat _ _ (by omega) (by have := x.toNat_lt; omega)

set_option maxRecDepth 10000 in
set_option maxHeartbeats 400000 in
theorem extend_any (s : BitVec 32) (v : Value) (l : List UInt8) (w : World) (hv : IsBytes w v l) :
    Calls Try.prog 38 #[.int .u32 (s.toNat : Int), v] w fun e w' => e = .returned (.int .u32 ((Crc.ext s l).toNat : Int)) ∧ Below w.heap.size w w' := by
  obtain ⟨base, cap, rfl, hlen, hcap, hnil, hcell⟩ := hv.out
  clear hv
  unfold maxLen at hcap
  have HB := Lib.hid hcell
  clear hcell hnil
  go_enter Try.func38, Try.ntmps38
  go_wp2_with (first | (go_at_call 41; refine (table_any _).mono ?_; rintro e w1 ⟨rfl, hb1⟩) | refine wpList_alloc rfl 67 rfl _ table_zero ?_ | refine wpList_store_row rfl 67 (.tmp 5) (.tmp 9) rfl _ Crc.tabVals rfl rfl 67 (Array.replicate 256 (.int .u32 0)) (heap_alloc_new _ _) tab_info' tab_size tab_one ?_)
  have hWb : Below w.heap.size w ((w1.alloc (.cells (Array.replicate 256 (.int .u32 0)) 67)).setRow w1.heap.size Crc.tabVals) :=
    below_setRow (hb1.alloc hb1.size _) hb1.size _
  have hWt : ∀ j, j < 256 → ((w1.alloc (.cells (Array.replicate 256 (.int .u32 0)) 67)).setRow w1.heap.size Crc.tabVals).cell? ⟨w1.heap.size, j, none⟩ = some (.int .u32 ((Crc.tab j).toNat : Int)) := by
    intro j hj
    rw [cell_setRow_same _ _ _ _ _ _ _ (heap_alloc_new _ _)]
    simp [Crc.tabVals, hj]
  generalize ((w1.alloc (.cells (Array.replicate 256 (.int .u32 0)) 67)).setRow w1.heap.size Crc.tabVals) = W at *
  generalize w1.heap.size = tb at *
  clear hb1
  rw [not32]
  have HW := Lib.hid hWt
  clear hWt
  go_loop [6, 14] (fun r c => ∃ k : Nat, k ≤ l.length ∧ c = .int .i64 k ∧ r = .int .u32 ((Crc.run (~~~s) (l.take k)).toNat : Int)) (fun _ c => l.length - (intOf c).toNat)
  case atStart => exact ⟨0, by omega, rfl, rfl⟩
  case round =>
    obtain ⟨k, hk, rfl, rfl⟩ := hrel
    by_cases hlt : k < l.length
    · obtain ⟨b, off, rfl, hx0⟩ := HB.out k hlt
      have hx : W.cell? ⟨b, off + k, none⟩ = some (.int .u8 (l[k].toNat : Int)) := by
        rw [hWb.cell (block_lt_of_cell hx0)]; exact hx0
      have hi := idx_lt (Crc.run (~~~s) (l.take k)) l[k]
      have hi2 : (((Crc.run (~~~s) (l.take k)).toNat % 256 ^^^ l[k].toNat : Nat) : Int) < 256 := by omega
      have hst := idx_bits (Crc.run (~~~s) (l.take k)) l[k]
      have ht := HW.out _ hi
      clear hx0
      go_wp2
      go_round
      case rel => exact ⟨k + 1, by omega, by go_num, by rw [run_snoc _ _ _ hlt, ← step_eq]⟩
      case measure => simp [intOf]; omega
    · obtain rfl : k = l.length := by omega
      rw [List.take_length]
      go_wp2
      go_ret
      exact ⟨congrArg (fun n => Ending.returned (.int .u32 n)) (not32 (Crc.run (~~~s) l)), hWb⟩

set_option maxHeartbeats 400000 in
theorem sum32_any (v : Value) (l : List UInt8) (w : World) (hv : IsBytes w v l) :
    Calls Try.prog 24 #[v] w fun e w' => e = .returned (.int .u32 ((Crc.ext 0#32 l).toNat : Int)) ∧ Below w.heap.size w w' := by
  go_enter Try.func24, Try.ntmps24
  go_wp2_with (go_at_call 38; refine (extend_any 0#32 v l _ hv).mono ?_; rintro e w1 ⟨rfl, hb1⟩)
  go_ret
  exact ⟨rfl, hb1⟩

end Go.Proofs.Ytblfpkhgnfjbbaa
