/- The walk over package wire: ReadText. -/
import Derived.Test.YtfpkibfofainaaaChecked
import Derived.Test.YtfpkibfofainaaaWrU
import Derived.Test.YtfpkibfofainaaaStrs
namespace Go.Proofs.Ytfpkibfofainaaa
open Go.RowKit

def Wire.readT (l : List UInt8) (i : Int) : List UInt8 × Int × Int :=
  if i < 0 ∨ (l.length : Int) < i then ([], 0, 1) else match decT (l.drop i.toNat) with
    | .error c => ([], 0, c)
    | .ok (s, k) => (s, i + k, 0)
set_option maxHeartbeats 1000000 in
theorem readText_any (w : World) (v : Value) (l : List UInt8) (i : Int) (hv : IsBytes w v l) :
    Calls Try.prog 42 #[v, .int .i64 i] w fun e w' => e = .returned (.tuple #[.string ⟨(Wire.readT l i).1.toArray⟩, .int .i64 (Wire.readT l i).2.1, .int .i64 (Wire.readT l i).2.2]) ∧ Below w.heap.size w w' := by
  obtain ⟨bs, q, rfl, hlen, hcap, hnil, -⟩ := hv.out
  unfold maxLen at hcap
  by_cases hbad : i < 0 ∨ (l.length : Int) < i
  · have hr : Wire.readT l i = ([], 0, 1) := by unfold Wire.readT; rw [if_pos hbad]
    rw [hr]
    go_enter_defers Try.func42, Try.ntmps42
    go_wp2_with fail
    refine (open_bad _ bs l.length q i hbad).mono ?_
    rintro e w1 ⟨rfl, rfl⟩
    go_wp2_with fail
    refine door_err rfl rfl rfl rfl (x := 0) (y := 0) ?_ ?_ (by omega) ⟨rfl, ?_⟩
    · exact heap_alloc2_old _ _ _
    · exact heap_alloc2_new _ _ _
    · exact (((Below.refl _ _).alloc (Nat.le_refl _) _).alloc (by simp) _).setCell (Nat.le_refl _) _ |>.setCell (by simp) _
  · obtain ⟨j, rfl⟩ := Int.eq_ofNat_of_zero_le (show 0 ≤ i by omega)
    have hj : j ≤ l.length := by omega
    have hb0 : Below w.heap.size w ((w.alloc (intO 0)).alloc (errO 0)) := (((Below.refl _ _).alloc (Nat.le_refl _) _).alloc (by simp) _)
    have hp0 : ((w.alloc (intO 0)).alloc (errO 0)).heap[w.heap.size]? = some (intO 0) := heap_alloc2_old _ _ _
    have hq0 : ((w.alloc (intO 0)).alloc (errO 0)).heap[w.heap.size + 1]? = some (errO 0) := by have := heap_alloc2_new w (intO 0) (errO 0); simpa using this
    have hs0 : ((w.alloc (intO 0)).alloc (errO 0)).heap.size = w.heap.size + 2 := by simp
    have HH := Lib.hid (And.intro hb0 (And.intro hp0 (And.intro hq0 hs0)))
    clear hb0 hp0 hq0 hs0
    go_enter_defers Try.func42, Try.ntmps42
    go_wp2_with fail
    generalize (w.alloc _).alloc _ = W0 at HH ⊢
    refine (open_ok W0 bs l.length q j hj hcap hlen).mono ?_
    rintro e w1 ⟨rfl, rfl⟩
    go_upto_region 3 with fail
    have hg0 : (W0.alloc (rdO (.slice bs l.length q) j)).heap[W0.heap.size]? = some (rdO (.slice bs l.length q) j) := heap_alloc_new _ _
    have hoff : ∀ i wr, RdW (W0.alloc (rdO (.slice bs l.length q) j)) W0.heap.size (.slice bs l.length q) i wr → IsBytes wr (.slice bs l.length q) l := fun i wr h => h.bytes hv (by have := HH.out.1.size; omega) (by have := HH.out.1.size; simp; omega) (fun k hk => by rw [Below.heap_alloc _ _ _ (Nat.lt_of_lt_of_le hk HH.out.1.size)]; exact HH.out.1.block k hk)
    have hp1 : (W0.alloc (rdO (.slice bs l.length q) j)).heap[w.heap.size]? = some (intO 0) := (Below.heap_alloc _ _ _ (by have := HH.out.2.2.2; omega)).trans HH.out.2.1
    have hq1 : (W0.alloc (rdO (.slice bs l.length q) j)).heap[w.heap.size + 1]? = some (errO 0) := (Below.heap_alloc _ _ _ (by have := HH.out.2.2.2; omega)).trans HH.out.2.2.1
    have hb1 : Below w.heap.size w (W0.alloc (rdO (.slice bs l.length q) j)) := HH.out.1.alloc HH.out.1.size _
    have hgs : W0.heap.size = w.heap.size + 2 := HH.out.2.2.2
    generalize hg : W0.heap.size = g at hg0 hoff hgs ⊢
    have hgl : g < (W0.alloc (rdO (.slice bs l.length q) j)).heap.size := by simp; omega
    generalize W0.alloc _ = W1 at hg0 hoff hp1 hq1 hb1 hgl ⊢
    clear hg HH
    have HF := Lib.hid (And.intro hp1 (And.intro hq1 (And.intro hb1 (And.intro hgs hgl))))
    clear hp1 hq1 hb1 hgs hgl
    cases hd : Wire.dec (l.drop j) with
    | error code =>
      have hr : Wire.readT l j = ([], 0, code) := by unfold Wire.readT Wire.decT; rw [if_neg hbad, Int.toNat_natCast, hd]
      have HRD := Lib.hid hr
      clear hr
      go_wp2_with fail
      refine (number_err W1 g bs l.length q j l hg0 (hoff _ _ (RdW.start hg0)) hoff hj code hd).mono ?_
      rintro e w2 ⟨rfl, j2, hr2⟩
      go_wp2_with fail
      have hgs := HF.out.2.2.2.1
      have hgl := HF.out.2.2.2.2
      refine door_err rfl rfl rfl rfl (x := 0) (y := 0) ((hr2.grown.block _ (by omega) (fun e => by cases e; omega)).trans HF.out.1) ((hr2.grown.block _ (by omega) (fun e => by cases e; omega)).trans HF.out.2.1) (by omega) ?_
      rw [HRD.out]
      exact ⟨rfl, ((Below.grown HF.out.2.2.1 hr2.grown HF.out.2.2.1.size (fun k hk => by cases hk; omega)).setCell (Nat.le_refl _) _).setCell (by simp) _⟩
    | ok nk =>
      obtain ⟨n, k⟩ := nk
      obtain ⟨hn64, hk0, hkl, -⟩ := Wire.dec_ok hd
      rw [List.length_drop] at hkl
      go_wp2_with fail
      refine (number_ok W1 g bs l.length q j l hg0 (hoff _ _ (RdW.start hg0)) hoff hj n k hd).mono ?_
      rintro e w2 ⟨rfl, hr2⟩
      by_cases hsh : l.length < j + k + n
      · have hr : Wire.readT l j = ([], 0, 41) := by
          unfold Wire.readT Wire.decT
          rw [if_neg hbad, Int.toNat_natCast, hd]
          simp only
          rw [if_pos (by rw [List.length_drop]; omega)]
        have HRD := Lib.hid hr
        clear hr
        go_wp2_with fail
        refine (take_bad w2 g bs l.length q (j + k) n hr2.blk hcap hlen (by omega) hsh).mono ?_
        rintro e w3 ⟨rfl, hr3⟩
        replace hr3 := hr2.trans hr3
        go_wp2_with fail
        have hgs := HF.out.2.2.2.1
        have hgl := HF.out.2.2.2.2
        refine door_err rfl rfl rfl rfl (x := 0) (y := 0) ((hr3.grown.block _ (by omega) (fun e => by cases e; omega)).trans HF.out.1) ((hr3.grown.block _ (by omega) (fun e => by cases e; omega)).trans HF.out.2.1) (by omega) ?_
        rw [HRD.out]
        exact ⟨rfl, ((Below.grown HF.out.2.2.1 hr3.grown HF.out.2.2.1.size (fun k hk => by cases hk; omega)).setCell (Nat.le_refl _) _).setCell (by simp) _⟩
      · have hr : Wire.readT l j = ((l.drop (j + k)).take n, ((j + k + n : Nat) : Int), 0) := by
          unfold Wire.readT Wire.decT
          rw [if_neg hbad, Int.toNat_natCast, hd]
          simp only
          rw [if_neg (by rw [List.length_drop]; omega)]
          simp only [List.drop_drop]
          congr 2
          omega
        have HRD := Lib.hid hr
        clear hr
        go_wp2_with fail
        refine (take_ok w2 g bs l.length q (j + k) n hr2.blk hcap hlen (by omega)).mono ?_
        rintro e w3 ⟨rfl, hr3⟩
        replace hr3 := hr2.trans hr3
        obtain ⟨pv, hpv⟩ : ∃ pv, Value.slice (if j + k + n = j + k then bs else bs.map (·.add (j + k))) n n = pv := ⟨_, rfl⟩
        have hpb : IsBytes w3 pv ((l.drop (j + k)).take n) := by
          have := (hoff _ _ hr3).part (j + k) (j + k + n) (j + k + n) (by omega) (by omega) (Nat.le_refl _) (by omega)
          rw [Nat.add_sub_cancel_left, hpv] at this
          rw [List.take_drop]
          exact this
        rw [hpv]
        clear hpv
        have hst := fun W (h : IsBytes W pv ((l.drop (j + k)).take n)) => run_str (P := Try.prog) W 22 9 5 Try.underlying22 Try.underlying5 Try.underlying9 pv _ h
        have hcv : (convert 22 9 pv).run Try.prog w3.drew = .ok (.string ⟨((l.drop (j + k)).take n).toArray⟩) w3.drew := hst _ hpb
        generalize (l.drop (j + k)).take n = part at hcv HRD
        clear hst hpb
        go_upto_region 4 with fail
        have hgs := HF.out.2.2.2.1
        have hgl := HF.out.2.2.2.2
        obtain ⟨-, c1, -⟩ := rd_cells hr3.blk
        have hp2 := (hr3.grown.block w.heap.size (by omega) (fun e => by cases e; omega)).trans HF.out.1
        have hq2 := (hr3.grown.block (w.heap.size + 1) (by omega) (fun e => by cases e; omega)).trans HF.out.2.1
        obtain ⟨p1, p2⟩ := one_cell hp2
        obtain ⟨q1, q2⟩ := one_cell hq2
        have n1 : g ≠ w.heap.size := by omega
        have n2 : g ≠ w.heap.size + 1 := by omega
        have hb2 := Below.grown HF.out.2.2.1 hr3.grown HF.out.2.2.1.size (fun k hk => by cases hk; omega)
        have HQ := Lib.hid (And.intro hp2 (And.intro hq2 hb2))
        clear hp2 hq2 hb2 hgl hgs
        generalize hx : j + k + n = x at *
        clear hx hsh
        go_region
        go_wp2_with fail
        refine door_ok rfl rfl rfl rfl (x := (x : Int)) (y := 0) ?_ ?_ ?_
        · exact (heap_setCell_other _ ⟨w.heap.size + 1, 0, none⟩ _ _ (by simp)).trans (heap_setCell_same w3 w.heap.size 0 _ _ _ HQ.out.1)
        · exact heap_setCell_same _ (w.heap.size + 1) 0 _ _ _ ((heap_setCell_other _ ⟨w.heap.size, 0, none⟩ _ _ (by simp)).trans HQ.out.2.1)
        · rw [HRD.out]
          exact ⟨rfl, ((HQ.out.2.2.setCell (Nat.le_refl _) _).setCell (by simp) _).drew⟩
end Go.Proofs.Ytfpkibfofainaaa
