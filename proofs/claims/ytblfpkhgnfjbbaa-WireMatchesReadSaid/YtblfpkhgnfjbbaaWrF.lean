/- The walk over package wire: ReadFrame. -/
import Derived.Test.YtblfpkhgnfjbbaaChecked
import Derived.Test.YtblfpkhgnfjbbaaWrU
namespace Go.Proofs.Ytblfpkhgnfjbbaa
open Go.RowKit

def Wire.decF (l : List UInt8) : Except Int (List UInt8 × Nat) := match dec l with
  | .error c => .error c
  | .ok (n, k) => if 8192 < n then .error 2 else if l.length - k < n + 4 then .error 41 else
    if (l.drop (k + n)).take 4 = sum4 (Wire.sumOf ((l.drop k).take n)) then .ok ((l.drop k).take n, k + n + 4) else .error 40
def Wire.readF (l : List UInt8) (i : Int) : List UInt8 × Int × Int :=
  if i < 0 ∨ (l.length : Int) < i then ([], 0, 1) else match decF (l.drop i.toNat) with
    | .error c => ([], 0, c)
    | .ok (s, k) => (s, i + k, 0)
theorem cut_take (l : List UInt8) (a n m : Nat) : ((l.take (a + (n + m))).drop a).take n = (l.drop a).take n := by
  rw [List.drop_take, List.take_take]; congr 1; omega
theorem cut_drop (l : List UInt8) (a n m : Nat) : ((l.take (a + (n + m))).drop a).drop n = (l.drop (a + n)).take m := by
  rw [List.drop_drop, List.drop_take]; congr 1; omega
theorem IsBytes.cut {w : World} {a : Addr} {m cap : Nat} {l : List UInt8} (h : IsBytes w (.slice (some a) m cap) l) (n : Nat) (hn : n ≤ l.length) : IsBytes w (.slice (some a) n n) (l.take n) := by
  have hcap : l.length ≤ cap := by
    obtain ⟨_, _, hv, _, hl, _⟩ := h
    simp only [Value.slice.injEq] at hv
    omega
  have h2 := h.part 0 n n (Nat.zero_le _) hn (Nat.le_refl _) (by omega)
  have e : (some a).map (fun x => x.add 0) = some a := by simp [Addr.add]
  rw [e, ite_self] at h2
  simpa using h2
theorem four {l : List UInt8} (h : l.length = 4) : ∃ a b c d, l = [a, b, c, d] := by
  match l, h with
  | [a, b, c, d], _ => exact ⟨a, b, c, d, rfl⟩
theorem byte_ne {x y : UInt8} {z : Int} (hz : z = (y.toNat : Int)) : (((x.toNat : Int)) != z) = decide (x ≠ y) := by
  subst hz
  rw [Bool.eq_iff_iff]
  simp only [bne_iff_ne, ne_eq, decide_eq_true_eq]
  constructor
  · intro h e; exact h (by rw [e])
  · intro h e; exact h (UInt8.toNat_inj.1 (by omega))
theorem sum4_bytes (r : BitVec 32) : ∃ y0 y1 y2 y3 : UInt8, sum4 r = [y0, y1, y2, y3] ∧ (r.toNat : Int) % 256 = (y0.toNat : Int) ∧ (r.toNat : Int) / 256 % 256 = (y1.toNat : Int) ∧ (r.toNat : Int) / 65536 % 256 = (y2.toNat : Int) ∧ (r.toNat : Int) / 16777216 = (y3.toNat : Int) := by
  have hr := r.isLt
  refine ⟨_, _, _, _, rfl, ?_, ?_, ?_, ?_⟩ <;> rw [Wire.byte_lo (by omega)] <;> omega
set_option maxHeartbeats 4000000 in
theorem readFrame_any (w : World) (v : Value) (l : List UInt8) (i : Int) (hv : IsBytes w v l) :
    Calls Try.prog 23 #[v, .int .i64 i] w fun e w' => ∃ pv, e = .returned (.tuple #[pv, .int .i64 (Wire.readF l i).2.1, .int .i64 (Wire.readF l i).2.2]) ∧ IsBytes w' pv (Wire.readF l i).1 ∧ Below w.heap.size w w' := by
  obtain ⟨bs, q, rfl, hlen, hcap, hnil, -⟩ := hv.out
  unfold maxLen at hcap
  by_cases hbad : i < 0 ∨ (l.length : Int) < i
  · have hr : Wire.readF l i = ([], 0, 1) := by unfold Wire.readF; rw [if_pos hbad]
    rw [hr]
    go_enter_defers Try.func23, Try.ntmps23
    go_wp2_with fail
    refine (open_bad _ bs l.length q i hbad).mono ?_
    rintro e w1 ⟨rfl, rfl⟩
    go_wp2_with fail
    refine door_err rfl rfl rfl rfl (x := 0) (y := 0) ?_ ?_ (by omega) ⟨_, rfl, IsBytes.none _, ?_⟩
    · exact heap_alloc2_old _ _ _
    · exact heap_alloc2_new _ _ _
    · exact (((Below.refl _ _).alloc (Nat.le_refl _) _).alloc (by simp) _).setCell (Nat.le_refl _) _ |>.setCell (by simp) _
  · obtain ⟨j, rfl⟩ := Int.eq_ofNat_of_zero_le (show 0 ≤ i by omega)
    have hj : j ≤ l.length := by omega
    have hb0 : Below w.heap.size w ((w.alloc (intO 0)).alloc (errO 0)) := (((Below.refl _ _).alloc (Nat.le_refl _) _).alloc (by simp) _)
    have hp0 : ((w.alloc (intO 0)).alloc (errO 0)).heap[w.heap.size]? = some (intO 0) := heap_alloc2_old _ _ _
    have hq0 : ((w.alloc (intO 0)).alloc (errO 0)).heap[w.heap.size + 1]? = some (errO 0) := by have := heap_alloc2_new w (intO 0) (errO 0); simpa using this
    have hs0 : ((w.alloc (intO 0)).alloc (errO 0)).heap.size = w.heap.size + 2 := by simp
    have HH := Lib.hid (And.intro hb0 (And.intro hp0 (And.intro hq0 hs0)))
    clear hb0 hp0 hq0 hs0
    go_enter_defers Try.func23, Try.ntmps23
    go_wp2_with fail
    generalize (w.alloc _).alloc _ = W0 at HH ⊢
    refine (open_ok W0 bs l.length q j hj hcap hlen).mono ?_
    rintro e w1 ⟨rfl, rfl⟩
    go_upto_region 3 with fail
    have hg0 : (W0.alloc (rdO (.slice bs l.length q) j)).heap[W0.heap.size]? = some (rdO (.slice bs l.length q) j) := heap_alloc_new _ _
    have hoff : ∀ i wr, RdW (W0.alloc (rdO (.slice bs l.length q) j)) W0.heap.size (.slice bs l.length q) i wr → IsBytes wr (.slice bs l.length q) l := fun i wr h => h.bytes hv (by have := HH.out.1.size; omega) (by have := HH.out.1.size; simp; omega) (fun k hk => by rw [Below.heap_alloc _ _ _ (Nat.lt_of_lt_of_le hk HH.out.1.size)]; exact HH.out.1.block k hk)
    have hp1 : (W0.alloc (rdO (.slice bs l.length q) j)).heap[w.heap.size]? = some (intO 0) := (Below.heap_alloc _ _ _ (by have := HH.out.2.2.2; omega)).trans HH.out.2.1
    have hq1 : (W0.alloc (rdO (.slice bs l.length q) j)).heap[w.heap.size + 1]? = some (errO 0) := (Below.heap_alloc _ _ _ (by have := HH.out.2.2.2; omega)).trans HH.out.2.2.1
    have hb1 : Below w.heap.size w (W0.alloc (rdO (.slice bs l.length q) j)) := HH.out.1.alloc HH.out.1.size _
    have hgs : W0.heap.size = w.heap.size + 2 := HH.out.2.2.2
    generalize hg : W0.heap.size = g at hg0 hoff hgs ⊢
    have hgl : g < (W0.alloc (rdO (.slice bs l.length q) j)).heap.size := by simp; omega
    generalize W0.alloc _ = W1 at hg0 hoff hp1 hq1 hb1 hgl ⊢
    clear hg HH
    have HF := Lib.hid (And.intro hp1 (And.intro hq1 (And.intro hb1 (And.intro hgs hgl))))
    clear hp1 hq1 hb1 hgs hgl
    cases hd : Wire.dec (l.drop j) with
    | error code =>
      have hr : Wire.readF l j = ([], 0, code) := by unfold Wire.readF Wire.decF; rw [if_neg hbad, Int.toNat_natCast, hd]
      have HRD := Lib.hid hr
      clear hr
      go_wp2_with fail
      refine (number_err W1 g bs l.length q j l hg0 (hoff _ _ (RdW.start hg0)) hoff hj code hd).mono ?_
      rintro e w2 ⟨rfl, j2, hr2⟩
      go_wp2_with fail
      have hgs := HF.out.2.2.2.1
      have hgl := HF.out.2.2.2.2
      refine door_err rfl rfl rfl rfl (x := 0) (y := 0) ((hr2.grown.block _ (by omega) (fun e => by cases e; omega)).trans HF.out.1) ((hr2.grown.block _ (by omega) (fun e => by cases e; omega)).trans HF.out.2.1) (by omega) ?_
      rw [HRD.out]
      exact ⟨_, rfl, IsBytes.none _, ((Below.grown HF.out.2.2.1 hr2.grown HF.out.2.2.1.size (fun k hk => by cases hk; omega)).setCell (Nat.le_refl _) _).setCell (by simp) _⟩
    | ok nk =>
      obtain ⟨n, k⟩ := nk
      obtain ⟨hn64, hk0, hkl, -⟩ := Wire.dec_ok hd
      rw [List.length_drop] at hkl
      go_wp2_with fail
      refine (number_ok W1 g bs l.length q j l hg0 (hoff _ _ (RdW.start hg0)) hoff hj n k hd).mono ?_
      rintro e w2 ⟨rfl, hr2⟩
      by_cases hbig : 8192 < n
      · have hr : Wire.readF l j = ([], 0, 2) := by
          unfold Wire.readF Wire.decF
          rw [if_neg hbad, Int.toNat_natCast, hd]
          simp only
          rw [if_pos hbig]
        have HRD := Lib.hid hr
        clear hr
        have hb1 : (8192 : Int) < (n : Int) := by omega
        go_wp2_with fail
        have hgs := HF.out.2.2.2.1
        have hgl := HF.out.2.2.2.2
        refine door_err rfl rfl rfl rfl (x := 0) (y := 0) ((hr2.grown.block _ (by omega) (fun e => by cases e; omega)).trans HF.out.1) ((hr2.grown.block _ (by omega) (fun e => by cases e; omega)).trans HF.out.2.1) (by omega) ?_
        rw [HRD.out]
        exact ⟨_, rfl, IsBytes.none _, ((Below.grown HF.out.2.2.1 hr2.grown HF.out.2.2.1.size (fun k hk => by cases hk; omega)).setCell (Nat.le_refl _) _).setCell (by simp) _⟩
      have hb1 : ¬ (8192 : Int) < (n : Int) := by omega
      have e4 : (n : Int) + 4 = ((n + 4 : Nat) : Int) := by omega
      by_cases hsh : l.length < j + k + (n + 4)
      · have hr : Wire.readF l j = ([], 0, 41) := by
          unfold Wire.readF Wire.decF
          rw [if_neg hbad, Int.toNat_natCast, hd]
          simp only
          rw [if_neg hbig, if_pos (by rw [List.length_drop]; omega)]
        have HRD := Lib.hid hr
        have E4 := Lib.hid e4
        clear hr e4
        go_wp2_with fail
        rw [E4.out]
        refine (take_bad w2 g bs l.length q (j + k) (n + 4) hr2.blk hcap hlen (by omega) hsh).mono ?_
        rintro e w3 ⟨rfl, hr3⟩
        replace hr3 := hr2.trans hr3
        go_wp2_with fail
        have hgs := HF.out.2.2.2.1
        have hgl := HF.out.2.2.2.2
        refine door_err rfl rfl rfl rfl (x := 0) (y := 0) ((hr3.grown.block _ (by omega) (fun e => by cases e; omega)).trans HF.out.1) ((hr3.grown.block _ (by omega) (fun e => by cases e; omega)).trans HF.out.2.1) (by omega) ?_
        rw [HRD.out]
        exact ⟨_, rfl, IsBytes.none _, ((Below.grown HF.out.2.2.1 hr3.grown HF.out.2.2.1.size (fun k hk => by cases hk; omega)).setCell (Nat.le_refl _) _).setCell (by simp) _⟩
      have E4 := Lib.hid e4
      clear e4
      go_wp2_with fail
      rw [E4.out]
      refine (take_ok w2 g bs l.length q (j + k) (n + 4) hr2.blk hcap hlen (by omega)).mono ?_
      rintro e w3 ⟨rfl, hr3⟩
      replace hr3 := hr2.trans hr3
      have hall := (hoff _ _ hr3).part (j + k) (j + k + (n + 4)) (j + k + (n + 4)) (by omega) (by omega) (Nat.le_refl _) (by omega)
      have hallw := hv.part (j + k) (j + k + (n + 4)) (j + k + (n + 4)) (by omega) (by omega) (Nat.le_refl _) (by omega)
      rw [Nat.add_sub_cancel_left] at hall hallw
      have hne4 : ¬ j + k + (n + 4) = j + k := by omega
      rw [if_neg hne4] at hall hallw ⊢
      obtain ⟨_, _, e, -, -, -, hcl⟩ := (hoff _ _ hr3).out
      cases e
      obtain ⟨b, off, rfl, -⟩ := hcl (j + k) (by omega)
      clear hcl
      simp only [Option.map_some, Addr.add_lit] at hall hallw ⊢
      generalize hoff2 : off + (j + k) = off2 at hall hallw ⊢
      clear hoff2 hne4
      obtain ⟨al, hal⟩ : ∃ al, (l.take (j + k + (n + 4))).drop (j + k) = al := ⟨_, rfl⟩
      have hp4 : (l.drop (j + k)).take n = al.take n := by rw [← hal]; exact (cut_take l (j + k) n 4).symm
      have hd4 : (l.drop (j + k + n)).take 4 = al.drop n := by rw [← hal]; exact (cut_drop l (j + k) n 4).symm
      rw [hal] at hall hallw
      have hall2 : al.length = n + 4 := by rw [← hal, List.length_drop, List.length_take]; omega
      obtain ⟨x0, x1, x2, x3, hx⟩ := four (l := al.drop n) (by rw [List.length_drop]; omega)
      rw [hx] at hd4
      have hpart : IsBytes w3 (.slice (some ⟨b, off2, none⟩) n (n + 4)) (al.take n) := hall.take n (by omega)
      obtain ⟨r, hsum⟩ : ∃ r, Wire.sumOf (al.take n) = r := ⟨_, rfl⟩
      have hn4 : (n : Int) ≤ ((n + 4 : Nat) : Int) := by omega
      have hn0 : (0 : Int) ≤ (n : Int) := by omega
      have HALL := Lib.hid hall
      have HPAY := Lib.hid (hallw.cut n (by omega))
      clear hallw
      have HBIG := Lib.hid hbig
      have HSH := Lib.hid hsh
      clear hall
      go_wp2_with fail
      refine (sum32_any _ _ _ hpart).mono ?_
      rintro e w4 ⟨rfl, hb4⟩
      rw [show Crc.ext 0#32 (al.take n) = r from hsum]
      have hall4 := HALL.out.below hb4 rfl
      have hr4 : RdW W1 g (.slice (some ⟨b, off, none⟩) l.length q) (j + k + (n + 4)) w4 := by
        have hgs := HF.out.2.2.2.2
        have hg3 : g < w3.heap.size := Nat.lt_of_lt_of_le hgs hr3.grown.size
        exact ⟨⟨hb4.os.trans hr3.grown.os, hb4.tape.trans hr3.grown.tape, hb4.output.trans hr3.grown.output, Nat.le_trans hr3.grown.size hb4.size, fun x hx hne => (hb4.block x (Nat.lt_of_lt_of_le hx hr3.grown.size)).trans (hr3.grown.block x hx hne)⟩, (hb4.block g hg3).trans hr3.blk⟩
      obtain ⟨y0, y1, y2, y3, hy, z0, z1, z2, z3⟩ := sum4_bytes r
      have HZ := Lib.hid (And.intro z0 (And.intro z1 (And.intro z2 z3)))
      clear z0 z1 z2 z3
      have hcells : ∀ i (h : i < al.length), w4.cell? ⟨b, off2 + i, none⟩ = some (.int .u8 (al[i].toNat : Int)) := fun i h => by
        obtain ⟨_, _, e, -, -, -, hc⟩ := hall4.out
        rw [hall2] at e
        cases e
        obtain ⟨_, _, e, hc⟩ := hc i h
        cases e
        exact hc
      have ex : ∀ i (h : i < 4) (x : UInt8), (al.drop n)[i]? = some x → w4.cell? ⟨b, off2 + (n + i), none⟩ = some (.int .u8 (x.toNat : Int)) := fun i h x hx => by
        rw [List.getElem?_drop] at hx
        obtain ⟨h1, h2⟩ := List.getElem?_eq_some_iff.1 hx
        rw [hcells (n + i) h1, h2]
      have c0 := ex 0 (by omega) x0 (by rw [hx]; rfl)
      have c1 := ex 1 (by omega) x1 (by rw [hx]; rfl)
      have c2 := ex 2 (by omega) x2 (by rw [hx]; rfl)
      have c3 := ex 3 (by omega) x3 (by rw [hx]; rfl)
      rw [Nat.add_zero] at c0
      clear ex hcells
      have HALL4 := Lib.hid hall4
      have HR4 := Lib.hid hr4
      clear hall4 hr4 hr3 hpart hb4 hr2 hoff hg0 HALL hx
      have g0 : (n : Int) < (n : Int) + 4 := by omega
      have g1 : (n : Int) + 1 < (n : Int) + 4 := by omega
      have g2 : (n : Int) + 2 < (n : Int) + 4 := by omega
      have g3 : (n : Int) + 3 < (n : Int) + 4 := by omega
      have f1 : ((n : Int) + 1).toNat = n + 1 := by omega
      have f2 : ((n : Int) + 2).toNat = n + 2 := by omega
      have f3 : ((n : Int) + 3).toNat = n + 3 := by omega
      go_upto_region 8 with fail
      by_cases m0 : x0 = y0
      case neg =>
        have hr : Wire.readF l j = ([], 0, 40) := by
          unfold Wire.readF Wire.decF
          rw [if_neg hbad, Int.toNat_natCast, hd]
          simp only
          rw [if_neg hbig, if_neg (by rw [List.length_drop]; omega), if_neg]
          intro h
          rw [List.drop_drop, List.drop_drop, ← Nat.add_assoc, hd4, hp4, hsum, hy] at h
          simp only [List.cons.injEq] at h
          exact m0 h.1
        have HRD := Lib.hid hr
        clear hr
        have t0 : ((x0.toNat : Int) != (r.toNat : Int) % 256) = true := by rw [byte_ne HZ.out.1]; simp [m0]
        clear hd4 hp4 hsum hy hal hall2 hbig hsh
        go_wp2_with fail
        all_goals
          have hgs := HF.out.2.2.2.1
          have hgl := HF.out.2.2.2.2
          refine door_err rfl rfl rfl rfl (x := 0) (y := 0) ((HR4.out.grown.block _ (by omega) (fun e => by cases e; omega)).trans HF.out.1) ((HR4.out.grown.block _ (by omega) (fun e => by cases e; omega)).trans HF.out.2.1) (by omega) ?_
          rw [HRD.out]
          exact ⟨_, rfl, IsBytes.none _, ((Below.grown HF.out.2.2.1 HR4.out.grown HF.out.2.2.1.size (fun k hk => by cases hk; omega)).setCell (Nat.le_refl _) _).setCell (by simp) _⟩
      by_cases m1 : x1 = y1
      case neg =>
        have hr : Wire.readF l j = ([], 0, 40) := by
          unfold Wire.readF Wire.decF
          rw [if_neg hbad, Int.toNat_natCast, hd]
          simp only
          rw [if_neg hbig, if_neg (by rw [List.length_drop]; omega), if_neg]
          intro h
          rw [List.drop_drop, List.drop_drop, ← Nat.add_assoc, hd4, hp4, hsum, hy] at h
          simp only [List.cons.injEq] at h
          exact m1 h.2.1
        have HRD := Lib.hid hr
        clear hr
        have t0 : ((x0.toNat : Int) != (r.toNat : Int) % 256) = false := by rw [byte_ne HZ.out.1]; simp [m0]
        have t1 : ((x1.toNat : Int) != (r.toNat : Int) / 256 % 256) = true := by rw [byte_ne HZ.out.2.1]; simp [m1]
        have HX := Lib.hid m1
        clear m1 hd4 hp4 hsum hy hal hall2 hbig hsh
        go_wp2_with fail
        all_goals
          have hgs := HF.out.2.2.2.1
          have hgl := HF.out.2.2.2.2
          refine door_err rfl rfl rfl rfl (x := 0) (y := 0) ((HR4.out.grown.block _ (by omega) (fun e => by cases e; omega)).trans HF.out.1) ((HR4.out.grown.block _ (by omega) (fun e => by cases e; omega)).trans HF.out.2.1) (by omega) ?_
          rw [HRD.out]
          exact ⟨_, rfl, IsBytes.none _, ((Below.grown HF.out.2.2.1 HR4.out.grown HF.out.2.2.1.size (fun k hk => by cases hk; omega)).setCell (Nat.le_refl _) _).setCell (by simp) _⟩
      by_cases m2 : x2 = y2
      case neg =>
        have hr : Wire.readF l j = ([], 0, 40) := by
          unfold Wire.readF Wire.decF
          rw [if_neg hbad, Int.toNat_natCast, hd]
          simp only
          rw [if_neg hbig, if_neg (by rw [List.length_drop]; omega), if_neg]
          intro h
          rw [List.drop_drop, List.drop_drop, ← Nat.add_assoc, hd4, hp4, hsum, hy] at h
          simp only [List.cons.injEq] at h
          exact m2 h.2.2.1
        have HRD := Lib.hid hr
        clear hr
        have t0 : ((x0.toNat : Int) != (r.toNat : Int) % 256) = false := by rw [byte_ne HZ.out.1]; simp [m0]
        have t1 : ((x1.toNat : Int) != (r.toNat : Int) / 256 % 256) = false := by rw [byte_ne HZ.out.2.1]; simp [m1]
        have t2 : ((x2.toNat : Int) != (r.toNat : Int) / 65536 % 256) = true := by rw [byte_ne HZ.out.2.2.1]; simp [m2]
        have HX := Lib.hid m2
        clear m2 hd4 hp4 hsum hy hal hall2 hbig hsh
        go_wp2_with fail
        all_goals
          have hgs := HF.out.2.2.2.1
          have hgl := HF.out.2.2.2.2
          refine door_err rfl rfl rfl rfl (x := 0) (y := 0) ((HR4.out.grown.block _ (by omega) (fun e => by cases e; omega)).trans HF.out.1) ((HR4.out.grown.block _ (by omega) (fun e => by cases e; omega)).trans HF.out.2.1) (by omega) ?_
          rw [HRD.out]
          exact ⟨_, rfl, IsBytes.none _, ((Below.grown HF.out.2.2.1 HR4.out.grown HF.out.2.2.1.size (fun k hk => by cases hk; omega)).setCell (Nat.le_refl _) _).setCell (by simp) _⟩
      by_cases m3 : x3 = y3
      case neg =>
        have hr : Wire.readF l j = ([], 0, 40) := by
          unfold Wire.readF Wire.decF
          rw [if_neg hbad, Int.toNat_natCast, hd]
          simp only
          rw [if_neg hbig, if_neg (by rw [List.length_drop]; omega), if_neg]
          intro h
          rw [List.drop_drop, List.drop_drop, ← Nat.add_assoc, hd4, hp4, hsum, hy] at h
          simp only [List.cons.injEq] at h
          exact m3 h.2.2.2.1
        have HRD := Lib.hid hr
        clear hr
        have t0 : ((x0.toNat : Int) != (r.toNat : Int) % 256) = false := by rw [byte_ne HZ.out.1]; simp [m0]
        have t1 : ((x1.toNat : Int) != (r.toNat : Int) / 256 % 256) = false := by rw [byte_ne HZ.out.2.1]; simp [m1]
        have t2 : ((x2.toNat : Int) != (r.toNat : Int) / 65536 % 256) = false := by rw [byte_ne HZ.out.2.2.1]; simp [m2]
        have t3 : ((x3.toNat : Int) != (r.toNat : Int) / 16777216) = true := by rw [byte_ne HZ.out.2.2.2]; simp [m3]
        have HX := Lib.hid m3
        clear m3 hd4 hp4 hsum hy hal hall2 hbig hsh
        go_wp2_with fail
        all_goals
          have hgs := HF.out.2.2.2.1
          have hgl := HF.out.2.2.2.2
          refine door_err rfl rfl rfl rfl (x := 0) (y := 0) ((HR4.out.grown.block _ (by omega) (fun e => by cases e; omega)).trans HF.out.1) ((HR4.out.grown.block _ (by omega) (fun e => by cases e; omega)).trans HF.out.2.1) (by omega) ?_
          rw [HRD.out]
          exact ⟨_, rfl, IsBytes.none _, ((Below.grown HF.out.2.2.1 HR4.out.grown HF.out.2.2.1.size (fun k hk => by cases hk; omega)).setCell (Nat.le_refl _) _).setCell (by simp) _⟩
      have hr : Wire.readF l j = (al.take n, ((j + k + (n + 4) : Nat) : Int), 0) := by
        unfold Wire.readF Wire.decF
        rw [if_neg hbad, Int.toNat_natCast, hd]
        simp only
        rw [if_neg hbig, if_neg (by rw [List.length_drop]; omega), if_pos, List.drop_drop, hp4]
        · simp only
          rw [show ((j : Int) + ((k + n + 4 : Nat) : Int)) = ((j + k + (n + 4) : Nat) : Int) from by push_cast; omega]
        · rw [List.drop_drop, List.drop_drop, ← Nat.add_assoc, hd4, hp4, hsum, hy, m0, m1, m2, m3]
      have HRD := Lib.hid hr
      clear hr
      have t0 : ((x0.toNat : Int) != (r.toNat : Int) % 256) = false := by rw [byte_ne HZ.out.1]; simp [m0]
      have t1 : ((x1.toNat : Int) != (r.toNat : Int) / 256 % 256) = false := by rw [byte_ne HZ.out.2.1]; simp [m1]
      have t2 : ((x2.toNat : Int) != (r.toNat : Int) / 65536 % 256) = false := by rw [byte_ne HZ.out.2.2.1]; simp [m2]
      have t3 : ((x3.toNat : Int) != (r.toNat : Int) / 16777216) = false := by rw [byte_ne HZ.out.2.2.2]; simp [m3]
      clear hd4 hp4 hsum hy hal hall2 hbig hsh
      subst m0 m1 m2 m3
      go_upto_region 10 with fail
      clear g0 g1 g2 g3 f1 f2 f3 t0 t1 t2 t3 c0 c1 c2 c3 hn4
      have hgs := HF.out.2.2.2.1
      have hgl := HF.out.2.2.2.2
      obtain ⟨-, d1, -⟩ := rd_cells HR4.out.blk
      have hp2 := (HR4.out.grown.block w.heap.size (by omega) (fun e => by cases e; omega)).trans HF.out.1
      have hq2 := (HR4.out.grown.block (w.heap.size + 1) (by omega) (fun e => by cases e; omega)).trans HF.out.2.1
      obtain ⟨p1, p2⟩ := one_cell hp2
      obtain ⟨q1, q2⟩ := one_cell hq2
      have n1 : g ≠ w.heap.size := by omega
      have n2 : g ≠ w.heap.size + 1 := by omega
      have hb2 := Below.grown HF.out.2.2.1 HR4.out.grown HF.out.2.2.1.size (fun k hk => by cases hk; omega)
      have HQ := Lib.hid (And.intro hp2 (And.intro hq2 hb2))
      clear hp2 hq2 hb2 hgl hgs
      have hn4 : (n : Int) ≤ ((n + 4 : Nat) : Int) := by omega
      go_region
      go_wp2_with fail
      refine door_ok rfl rfl rfl rfl (x := ((j + k + (n + 4) : Nat) : Int)) (y := 0) ?_ ?_ ?_
      · exact (heap_setCell_other _ ⟨w.heap.size + 1, 0, none⟩ _ _ (by simp)).trans (heap_setCell_same w4 w.heap.size 0 _ _ _ HQ.out.1)
      · exact heap_setCell_same _ (w.heap.size + 1) 0 _ _ _ ((heap_setCell_other _ ⟨w.heap.size, 0, none⟩ _ _ (by simp)).trans HQ.out.2.1)
      · rw [HRD.out]
        refine ⟨_, rfl, HPAY.out.below (B := w.heap.size) ?_ rfl, ?_⟩ <;> exact ((HQ.out.2.2.setCell (Nat.le_refl _) _).setCell (by simp) _).drew
end Go.Proofs.Ytblfpkhgnfjbbaa
