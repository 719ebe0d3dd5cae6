/- The walks over package wire: ReadUint, ReadInt, ReadText. -/
import Derived.Test.YtfpkibfofainaaaChecked
import Derived.Test.YtfpkibfofainaaaWrR
import Derived.Lib.Zigzag
namespace Go.Proofs.Ytfpkibfofainaaa
open Go.RowKit

/-- What is read at an offset: the number, where it goes on, the code. -/
def Wire.readU (l : List UInt8) (i : Int) : Nat × Int × Int :=
  if i < 0 ∨ (l.length : Int) < i then (0, 0, 1) else match dec (l.drop i.toNat) with
    | .error c => (0, 0, c)
    | .ok (n, k) => (n, i + k, 0)

theorem readU_lt (l : List UInt8) (i : Int) : (Wire.readU l i).1 < 2 ^ 64 := by
  unfold Wire.readU
  split
  · exact (by decide : (0 : Nat) < 2 ^ 64)
  · split
    · exact (by decide : (0 : Nat) < 2 ^ 64)
    · rename_i n k h
      exact (Wire.dec_ok h).1
theorem zag_bits {n : Nat} (h : n < 2 ^ 64) : bits BinOp.xor IntKind.i64 (wrap64 ((n : Int) / 2)) (wrap64 (-wrap64 (bits BinOp.and IntKind.u64 (n : Int) 1))) = Wire.zag n := by
  rw [Lib.u64_and1 _ (by omega) (by omega)]
  have e1 : wrap64 ((n : Int) / 2) = ((n / 2 : Nat) : Int) := by unfold wrap64; omega
  rw [e1]
  unfold Wire.zag
  by_cases ho : n % 2 = 1
  · rw [if_pos ho]
    have e2 : wrap64 (-wrap64 ((n : Int) % 2)) = -1 := by unfold wrap64; omega
    rw [e2]
    have := Lib.i64_not (n / 2) (by omega)
    have hc : bits BinOp.xor IntKind.i64 ((n / 2 : Nat) : Int) (-1) = bits BinOp.xor IntKind.i64 (-1) ((n / 2 : Nat) : Int) := by
      show IntKind.i64.wrap ((BitVec.ofInt 64 ((n / 2 : Nat) : Int) ^^^ BitVec.ofInt 64 (-1)).toNat : Int) = IntKind.i64.wrap ((BitVec.ofInt 64 (-1) ^^^ BitVec.ofInt 64 ((n / 2 : Nat) : Int)).toNat : Int)
      rw [BitVec.xor_comm]
    rw [hc, this]
  · rw [if_neg ho]
    have e2 : wrap64 (-wrap64 ((n : Int) % 2)) = 0 := by unfold wrap64; omega
    rw [e2]
    show IntKind.i64.wrap ((BitVec.ofInt 64 ((n / 2 : Nat) : Int) ^^^ BitVec.ofInt 64 0).toNat : Int) = _
    have h2 : (BitVec.ofInt 64 ((n / 2 : Nat) : Int)).toNat = n / 2 := by
      rw [BitVec.ofInt_natCast, BitVec.toNat_ofNat]; exact Nat.mod_eq_of_lt (by omega)
    have h3 : (BitVec.ofInt 64 0).toNat = 0 := by decide
    rw [BitVec.toNat_xor, h2, h3, Nat.xor_zero, IntKind.wrap_i64]
    omega
def Wire.readI (l : List UInt8) (i : Int) : Int × Int × Int := match readU l i with
  | (n, x, c) => if c = 0 then (zag n, x, 0) else (0, 0, c)
@[reducible] def intO (x : Int) : Obj := .cells #[.int .i64 x] 3 (0, 0)
@[reducible] def errO (x : Int) : Obj := .cells #[.int .i64 x] 31 (0, 0)
@[reducible] def caughtD (p q : Nat) : Deferred := { target := .fn (.func 49) #[], args := #[.pointer (some ⟨p, 0, none⟩), .pointer (some ⟨q, 0, none⟩)] }
theorem one_cell {W : World} {g : Nat} {v : Value} {t : TypeId} (h : W.heap[g]? = some (.cells #[v] t (0, 0))) : W.cell? ⟨g, 0, none⟩ = some v ∧ W.frozen? ⟨g, 0, none⟩ = false := ⟨by rw [cell_of_row _ _ _ _ _ _ h]; rfl, frozen_of_row _ _ _ _ _ h⟩
section
variable {fn : Func} {R : Ending → World → Prop} {tmps : Array Value} {v4 : Value} {p q : Nat} {W : World}
/-- The results, read behind the deferred call. -/
theorem door_results (hres : fn.results = #[.tmp 4, .cell 5 3, .cell 6 31]) {x y : Int} (h4 : tmps.getD 4 undef = v4) (h5 : tmps.getD 5 undef = .pointer (some ⟨p, 0, none⟩)) (h6 : tmps.getD 6 undef = .pointer (some ⟨q, 0, none⟩))
    (hp : W.cell? ⟨p, 0, none⟩ = some (.int .i64 x)) (hq : W.cell? ⟨q, 0, none⟩ = some (.int .i64 y)) : (results fn tmps).run Try.prog W = .ok (.tuple #[v4, .int .i64 x, .int .i64 y]) W := by
  have h4' : tmps[4]?.getD undef = v4 := by simpa using h4
  have h5' : tmps[5]?.getD undef = .pointer (some ⟨p, 0, none⟩) := by simpa using h5
  have h6' : tmps[6]?.getD undef = .pointer (some ⟨q, 0, none⟩) := by simpa using h6
  simp [results, hres, h4', h5', h6', go_sem, hp, hq]
theorem door_err (hres : fn.results = #[.tmp 4, .cell 5 3, .cell 6 31]) {x y c : Int} (h4 : tmps.getD 4 undef = v4) (h5 : tmps.getD 5 undef = .pointer (some ⟨p, 0, none⟩)) (h6 : tmps.getD 6 undef = .pointer (some ⟨q, 0, none⟩))
    (hp : W.heap[p]? = some (intO x)) (hq : W.heap[q]? = some (errO y)) (hpq : q ≠ p)
    (hR : R (.returned (.tuple #[v4, .int .i64 0, .int .i64 c])) ((W.setCell ⟨p, 0, none⟩ (.int .i64 0)).setCell ⟨q, 0, none⟩ (.int .i64 c))) : bodyPostD Try.prog fn R (.panic [errPanic c]) ⟨tmps, [caughtD p q]⟩ W := by
  obtain ⟨p1, p2⟩ := one_cell hp
  obtain ⟨q1, q2⟩ := one_cell hq
  refine leaves_cons (f := 49) (args := #[.pointer (some ⟨p, 0, none⟩), .pointer (some ⟨q, 0, none⟩)]) (by simp) (by simp [go_sem]) ?_
  refine (caught_panicking p q x y c [] W p1 p2 q1 q2 hpq).mono ?_
  rintro e u' w'' ⟨rfl, rfl, rfl⟩
  have k1 := heap_setCell_same W p 0 _ _ (.int .i64 0) hp
  have k2 := heap_setCell_same (W.setCell ⟨p, 0, none⟩ (.int .i64 0)) q 0 _ _ (.int .i64 c) ((heap_setCell_other W ⟨p, 0, none⟩ q _ hpq).trans hq)
  have k3 := (heap_setCell_other (W.setCell ⟨p, 0, none⟩ (.int .i64 0)) ⟨q, 0, none⟩ p (.int .i64 c) (Ne.symm hpq)).trans k1
  exact ⟨_, door_results hres h4 h5 h6 (one_cell (v := .int .i64 0) k3).1 (one_cell (v := .int .i64 c) k2).1, hR⟩
theorem door_ok (hres : fn.results = #[.tmp 4, .cell 5 3, .cell 6 31]) {x y : Int} (h4 : tmps.getD 4 undef = v4) (h5 : tmps.getD 5 undef = .pointer (some ⟨p, 0, none⟩)) (h6 : tmps.getD 6 undef = .pointer (some ⟨q, 0, none⟩))
    (hp : W.heap[p]? = some (intO x)) (hq : W.heap[q]? = some (errO y)) (hR : R (.returned (.tuple #[v4, .int .i64 x, .int .i64 y])) W) : bodyPostD Try.prog fn R .ret ⟨tmps, [caughtD p q]⟩ W := by
  refine leaves_cons (f := 49) (args := #[.pointer (some ⟨p, 0, none⟩), .pointer (some ⟨q, 0, none⟩)]) (by simp) (by simp [go_sem]) ?_
  refine (caught_idle p q W).mono ?_
  rintro e u' w'' ⟨rfl, rfl, rfl⟩
  exact ⟨_, door_results hres h4 h5 h6 (one_cell hp).1 (one_cell hq).1, hR⟩
end
set_option maxHeartbeats 1000000 in
theorem readUint_any (w : World) (v : Value) (l : List UInt8) (i : Int) (hv : IsBytes w v l) :
    Calls Try.prog 19 #[v, .int .i64 i] w fun e w' => e = .returned (.tuple #[.int .u64 (Wire.readU l i).1, .int .i64 (Wire.readU l i).2.1, .int .i64 (Wire.readU l i).2.2]) ∧ Below w.heap.size w w' := by
  obtain ⟨bs, q, rfl, hlen, hcap, hnil, -⟩ := hv.out
  unfold maxLen at hcap
  by_cases hbad : i < 0 ∨ (l.length : Int) < i
  · have hr : Wire.readU l i = (0, 0, 1) := by unfold Wire.readU; rw [if_pos hbad]
    rw [hr]
    go_enter_defers Try.func19, Try.ntmps19
    go_wp2_with fail
    refine (open_bad _ bs l.length q i hbad).mono ?_
    rintro e w1 ⟨rfl, rfl⟩
    go_wp2_with fail
    refine door_err rfl rfl rfl rfl (x := 0) (y := 0) ?_ ?_ (by omega) ⟨rfl, ?_⟩
    · exact heap_alloc2_old _ _ _
    · exact heap_alloc2_new _ _ _
    · exact (((Below.refl _ _).alloc (Nat.le_refl _) _).alloc (by simp) _).setCell (Nat.le_refl _) _ |>.setCell (by simp) _
  · obtain ⟨j, rfl⟩ := Int.eq_ofNat_of_zero_le (show 0 ≤ i by omega)
    have hj : j ≤ l.length := by omega
    have hb0 : Below w.heap.size w ((w.alloc (intO 0)).alloc (errO 0)) := (((Below.refl _ _).alloc (Nat.le_refl _) _).alloc (by simp) _)
    have hp0 : ((w.alloc (intO 0)).alloc (errO 0)).heap[w.heap.size]? = some (intO 0) := heap_alloc2_old _ _ _
    have hq0 : ((w.alloc (intO 0)).alloc (errO 0)).heap[w.heap.size + 1]? = some (errO 0) := by have := heap_alloc2_new w (intO 0) (errO 0); simpa using this
    have hs0 : ((w.alloc (intO 0)).alloc (errO 0)).heap.size = w.heap.size + 2 := by simp
    have HH := Lib.hid (And.intro hb0 (And.intro hp0 (And.intro hq0 hs0)))
    clear hb0 hp0 hq0 hs0
    go_enter_defers Try.func19, Try.ntmps19
    go_wp2_with fail
    generalize (w.alloc _).alloc _ = W0 at HH ⊢
    refine (open_ok W0 bs l.length q j hj hcap hlen).mono ?_
    rintro e w1 ⟨rfl, rfl⟩
    go_upto_region 3 with fail
    have hg0 : (W0.alloc (rdO (.slice bs l.length q) j)).heap[W0.heap.size]? = some (rdO (.slice bs l.length q) j) := heap_alloc_new _ _
    have hoff : ∀ i wr, RdW (W0.alloc (rdO (.slice bs l.length q) j)) W0.heap.size (.slice bs l.length q) i wr → IsBytes wr (.slice bs l.length q) l := fun i wr h => h.bytes hv (by have := HH.out.1.size; omega) (by have := HH.out.1.size; simp; omega) (fun k hk => by rw [Below.heap_alloc _ _ _ (Nat.lt_of_lt_of_le hk HH.out.1.size)]; exact HH.out.1.block k hk)
    have hp1 : (W0.alloc (rdO (.slice bs l.length q) j)).heap[w.heap.size]? = some (intO 0) := (Below.heap_alloc _ _ _ (by have := HH.out.2.2.2; omega)).trans HH.out.2.1
    have hq1 : (W0.alloc (rdO (.slice bs l.length q) j)).heap[w.heap.size + 1]? = some (errO 0) := (Below.heap_alloc _ _ _ (by have := HH.out.2.2.2; omega)).trans HH.out.2.2.1
    have hb1 : Below w.heap.size w (W0.alloc (rdO (.slice bs l.length q) j)) := HH.out.1.alloc HH.out.1.size _
    have hgs : W0.heap.size = w.heap.size + 2 := HH.out.2.2.2
    generalize hg : W0.heap.size = g at hg0 hoff hgs ⊢
    have hgl : g < (W0.alloc (rdO (.slice bs l.length q) j)).heap.size := by simp; omega
    generalize W0.alloc _ = W1 at hg0 hoff hp1 hq1 hb1 hgl ⊢
    clear hg HH
    have HF := Lib.hid (And.intro hp1 (And.intro hq1 (And.intro hb1 (And.intro hgs hgl))))
    clear hp1 hq1 hb1 hgs hgl
    cases hd : Wire.dec (l.drop j) with
    | error code =>
      have hr : Wire.readU l j = (0, 0, code) := by unfold Wire.readU; rw [if_neg hbad, Int.toNat_natCast, hd]
      have HRD := Lib.hid hr
      clear hr
      go_wp2_with fail
      refine (number_err W1 g bs l.length q j l hg0 (hoff _ _ (RdW.start hg0)) hoff hj code hd).mono ?_
      rintro e w2 ⟨rfl, j2, hr2⟩
      go_wp2_with fail
      have hgs := HF.out.2.2.2.1
      have hgl := HF.out.2.2.2.2
      refine door_err rfl rfl rfl rfl (x := 0) (y := 0) ((hr2.grown.block _ (by omega) (fun e => by cases e; omega)).trans HF.out.1) ((hr2.grown.block _ (by omega) (fun e => by cases e; omega)).trans HF.out.2.1) (by omega) ?_
      rw [HRD.out]
      exact ⟨rfl, ((Below.grown HF.out.2.2.1 hr2.grown HF.out.2.2.1.size (fun k hk => by cases hk; omega)).setCell (Nat.le_refl _) _).setCell (by simp) _⟩
    | ok nk =>
      obtain ⟨n, k⟩ := nk
      have hr : Wire.readU l j = (n, (j : Int) + k, 0) := by unfold Wire.readU; rw [if_neg hbad, Int.toNat_natCast, hd]
      have HRD := Lib.hid hr
      clear hr
      go_wp2_with fail
      refine (number_ok W1 g bs l.length q j l hg0 (hoff _ _ (RdW.start hg0)) hoff hj n k hd).mono ?_
      rintro e w2 ⟨rfl, hr2⟩
      go_upto_region 4 with fail
      have hgs := HF.out.2.2.2.1
      have hgl := HF.out.2.2.2.2
      obtain ⟨-, c1, -⟩ := rd_cells hr2.blk
      have hp2 := (hr2.grown.block w.heap.size (by omega) (fun e => by cases e; omega)).trans HF.out.1
      have hq2 := (hr2.grown.block (w.heap.size + 1) (by omega) (fun e => by cases e; omega)).trans HF.out.2.1
      obtain ⟨p1, p2⟩ := one_cell hp2
      obtain ⟨q1, q2⟩ := one_cell hq2
      have n1 : g ≠ w.heap.size := by omega
      have n2 : g ≠ w.heap.size + 1 := by omega
      have hb2 := Below.grown HF.out.2.2.1 hr2.grown HF.out.2.2.1.size (fun k hk => by cases hk; omega)
      have HQ := Lib.hid (And.intro hp2 (And.intro hq2 hb2))
      clear hp2 hq2 hb2 hgl hgs
      go_region
      go_wp2_with fail
      refine door_ok rfl rfl rfl rfl (x := (j : Int) + k) (y := 0) ?_ ?_ ?_
      · exact (heap_setCell_other _ ⟨w.heap.size + 1, 0, none⟩ _ _ (by simp)).trans (heap_setCell_same w2 w.heap.size 0 _ _ _ HQ.out.1)
      · exact heap_setCell_same _ (w.heap.size + 1) 0 _ _ _ ((heap_setCell_other _ ⟨w.heap.size, 0, none⟩ _ _ (by simp)).trans HQ.out.2.1)
      · rw [HRD.out]
        exact ⟨rfl, ((HQ.out.2.2.setCell (Nat.le_refl _) _).setCell (by simp) _).drew⟩
set_option maxHeartbeats 1000000 in
theorem readInt_any (w : World) (v : Value) (l : List UInt8) (i : Int) (hv : IsBytes w v l) :
    Calls Try.prog 44 #[v, .int .i64 i] w fun e w' => e = .returned (.tuple #[.int .i64 (Wire.readI l i).1, .int .i64 (Wire.readI l i).2.1, .int .i64 (Wire.readI l i).2.2]) ∧ Below w.heap.size w w' := by
  obtain ⟨n, x, c, hr⟩ : ∃ n x c, Wire.readU l i = (n, x, c) := ⟨_, _, _, rfl⟩
  have hi : Wire.readI l i = if c = 0 then (Wire.zag n, x, 0) else (0, 0, c) := by unfold Wire.readI; rw [hr]
  have h1 := readUint_any w v l i hv
  rw [hr] at h1
  rw [hi]
  by_cases hc : c = 0
  · subst hc
    rw [if_pos rfl]
    go_enter Try.func44, Try.ntmps44
    go_wp2_with fail
    refine h1.mono ?_
    rintro e w1 ⟨rfl, hb⟩
    clear h1
    have hz := zag_bits (n := n) (by have := readU_lt l i; rw [hr] at this; exact this)
    have HZ := Lib.hid hz
    clear hz
    go_wp2_with fail
    rw [HZ.out]
    go_ret3
    exact ⟨rfl, hb⟩
  · rw [if_neg hc]
    have hc1 : (c != 0) = true := by simpa using hc
    go_enter Try.func44, Try.ntmps44
    go_wp2_with fail
    refine h1.mono ?_
    rintro e w1 ⟨rfl, hb⟩
    clear h1
    go_wp2_with fail
    go_ret3
    exact ⟨rfl, hb⟩
end Go.Proofs.Ytfpkibfofainaaa
