/- The walks of the laws of chapter 3: each returns true. -/
import Derived.Test.YtmjanlgcindfpaaEx03
import Derived.Test.YtmjanlgcindfpaaApp
namespace Go.Proofs.Ytmjanlgcindfpaa
open Go.RowKit

set_option maxHeartbeats 400000 in
theorem sums_walk (w : World) (s : BitVec 32) (v : Value) (l : List UInt8) (hv : IsBytes w v l) :
    Calls Try.prog 3 #[.int .u32 (s.toNat : Int), v] w fun e w' => e = .returned (.bool true) ∧ Below w.heap.size w w' := by
  go_enter Try.func3, Try.ntmps3
  go_wp2_with fail
  refine (few_any v l 2000 _ hv (by decide)).mono ?_
  rintro e w0 ⟨x, rfl, hx, rfl⟩
  generalize l.take 2000 = k at *
  go_wp2_with fail
  refine (example_any _).mono ?_
  rintro e w1 ⟨rfl, hb1⟩
  have hx1 := hx.below hb1 rfl
  go_wp2_with fail
  refine (sum32_any _ k _ hx1).mono ?_
  rintro e w2 ⟨rfl, hb2⟩
  have hx2 := hx1.below hb2 rfl
  have hB2 := hb1.trans (hb2.mono hb1.size)
  clear hx1 hb1 hb2
  go_wp2_with fail
  refine (refSum32_any _ k _ hx2).mono ?_
  rintro e w3 ⟨rfl, rfl⟩
  go_wp2_with fail
  refine (extend_any _ _ k _ hx2).mono ?_
  rintro e w3 ⟨rfl, hb3⟩
  have hx3 := hx2.below hb3 rfl
  have hB3 := hB2.trans (hb3.mono hB2.size)
  clear hx2 hb3 hB2
  go_wp2_with fail
  refine (refExtend_any _ _ k _ hx3).mono ?_
  rintro e w4 ⟨rfl, rfl⟩
  go_wp2_with fail
  go_ret
  exact ⟨rfl, hB3⟩

/-- The word that a sample is drawn by. -/
def smp (seed : Int) (l : List UInt8) : Int := (((Crc.hash (BitVec.ofInt 64 seed) l).toNat : Nat) : Int) % 1000
theorem smp_range (seed : Int) (l : List UInt8) : 0 ≤ smp seed l ∧ smp seed l < 1000 := by unfold smp; omega

set_option maxHeartbeats 400000 in
theorem hashes_walk (w : World) (s : BitVec 64) (v : Value) (l : List UInt8) (hv : IsBytes w v l) :
    Calls Try.prog 4 #[.int .u64 (s.toNat : Int), v] w fun e w' => e = .returned (.bool true) ∧ Below w.heap.size w w' := by
  go_enter Try.func4, Try.ntmps4
  go_wp2_with fail
  refine (few_any v l 4000 _ hv (by decide)).mono ?_
  rintro e w0 ⟨x, rfl, hx, rfl⟩
  have hk : (l.take 4000).length ≤ 140737488355328 := Nat.le_trans (List.length_take_le _ _) (by decide)
  generalize l.take 4000 = k at *
  go_wp2_with fail
  refine (example_any _).mono ?_
  rintro e w1 ⟨rfl, hb1⟩
  have hx1 := hx.below hb1 rfl
  go_wp2_with fail
  refine (hash_any s _ k _ hx1).mono ?_
  rintro e w2 ⟨rfl, rfl⟩
  generalize hh : Crc.hash s k = h
  have HH := Lib.hid hh
  clear hh
  go_wp2_with fail
  refine (refHash_any s _ k _ hx1 hk).mono ?_
  rintro e w2 ⟨rfl, rfl⟩
  rw [HH.out]
  go_wp2_with fail
  go_ret
  exact ⟨rfl, hb1⟩

theorem sample_smp (seed : Int) (v : Value) (l : List UInt8) (p : Int) (w : World) (hv : IsBytes w v l) (b : Bool) (hb : decide (smp seed l < p) = b) :
    Calls Try.prog 18 #[.int .i64 seed, v, .int .i64 p] w fun e w' => e = .returned (.bool b) ∧ w = w' :=
  (sample_any seed v l p w hv).mono fun _ _ ⟨h1, h2⟩ => ⟨by rw [h1, ← hb]; rfl, h2⟩
theorem refSample_smp (seed : Int) (v : Value) (l : List UInt8) (p : Int) (w : World) (hv : IsBytes w v l) (hs : l.length ≤ 140737488355328) (b : Bool) (hb : decide (smp seed l < p) = b) :
    Calls Try.prog 19 #[.int .i64 seed, v, .int .i64 p] w fun e w' => e = .returned (.bool b) ∧ w = w' :=
  (refSample_any seed v l p w hv hs).mono fun _ _ ⟨h1, h2⟩ => ⟨by rw [h1, ← hb]; rfl, h2⟩

set_option maxHeartbeats 400000 in
theorem samples_walk (w : World) (seed : Int) (hseed : -9223372036854775808 ≤ seed ∧ seed ≤ 9223372036854775807) (v : Value) (l : List UInt8) (hv : IsBytes w v l) (p : Int) (hp : -9223372036854775808 ≤ p ∧ p ≤ 9223372036854775807) :
    Calls Try.prog 5 #[.int .i64 seed, v, .int .i64 p] w fun e w' => e = .returned (.bool true) ∧ Below w.heap.size w w' := by
  go_enter Try.func5, Try.ntmps5
  go_wp2_with fail
  refine (few_any v l 200 _ hv (by decide)).mono ?_
  rintro e w0 ⟨x, rfl, hx, rfl⟩
  have hk : (l.take 200).length ≤ 140737488355328 := Nat.le_trans (List.length_take_le _ _) (by decide)
  generalize l.take 200 = k at *
  have hr := smp_range seed k
  by_cases h1 : smp seed k < p
  · have d1 : decide (smp seed k < p) = true := by simpa using h1
    have d2 : decide (smp seed k < 1000) = true := by simpa using hr.2
    have d3 : decide (smp seed k < 0) = false := by simpa using hr.1
    have D1 := Lib.hid d1
    have D2 := Lib.hid d2
    have D3 := Lib.hid d3
    clear d1 d2 d3
    go_wp2_with fail
    refine (sample_smp seed _ k p _ hx true D1.out).mono ?_
    rintro e w0 ⟨rfl, rfl⟩
    go_wp2_with fail
    refine (example_any _).mono ?_
    rintro e w1 ⟨rfl, hb1⟩
    have hx1 := hx.below hb1 rfl
    go_wp2_with fail
    refine (refSample_smp seed _ k p _ hx1 hk true D1.out).mono ?_
    rintro e w2 ⟨rfl, rfl⟩
    by_cases hp2 : 1000 < p
    · go_wp2_with fail
      refine (sample_smp seed _ k _ _ hx1 _ rfl).mono ?_
      rintro e w2 ⟨rfl, rfl⟩
      generalize decide (smp seed k < _) = b
      go_wp2_with fail
      refine (sample_smp seed _ k 1000 _ hx1 true D2.out).mono ?_
      rintro e w2 ⟨rfl, rfl⟩
      go_wp2_with fail
      refine (sample_smp seed _ k 0 _ hx1 false D3.out).mono ?_
      rintro e w2 ⟨rfl, rfl⟩
      go_wp2_with fail
      go_ret
      exact ⟨rfl, hb1⟩
    · go_wp2_with fail
      refine (sample_smp seed _ k _ _ hx1 true (decide_eq_true (by omega))).mono ?_
      rintro e w2 ⟨rfl, rfl⟩
      go_wp2_with fail
      refine (sample_smp seed _ k 1000 _ hx1 true D2.out).mono ?_
      rintro e w2 ⟨rfl, rfl⟩
      go_wp2_with fail
      refine (sample_smp seed _ k 0 _ hx1 false D3.out).mono ?_
      rintro e w2 ⟨rfl, rfl⟩
      go_wp2_with fail
      go_ret
      exact ⟨rfl, hb1⟩
  · have d1 : decide (smp seed k < p) = false := by simpa using h1
    have d2 : decide (smp seed k < 1000) = true := by simpa using hr.2
    have d3 : decide (smp seed k < 0) = false := by simpa using hr.1
    have D1 := Lib.hid d1
    have D2 := Lib.hid d2
    have D3 := Lib.hid d3
    clear d1 d2 d3
    go_wp2_with fail
    refine (sample_smp seed _ k p _ hx false D1.out).mono ?_
    rintro e w0 ⟨rfl, rfl⟩
    go_wp2_with fail
    refine (example_any _).mono ?_
    rintro e w1 ⟨rfl, hb1⟩
    have hx1 := hx.below hb1 rfl
    go_wp2_with fail
    refine (refSample_smp seed _ k p _ hx1 hk false D1.out).mono ?_
    rintro e w2 ⟨rfl, rfl⟩
    have hp3 : ¬ 1000 < p := by omega
    go_wp2_with fail
    refine (sample_smp seed _ k _ _ hx1 _ rfl).mono ?_
    rintro e w2 ⟨rfl, rfl⟩
    generalize decide (smp seed k < _) = b
    go_wp2_with fail
    refine (sample_smp seed _ k 1000 _ hx1 true D2.out).mono ?_
    rintro e w2 ⟨rfl, rfl⟩
    go_wp2_with fail
    refine (sample_smp seed _ k 0 _ hx1 false D3.out).mono ?_
    rintro e w2 ⟨rfl, rfl⟩
    go_wp2_with fail
    go_ret
    exact ⟨rfl, hb1⟩

theorem byte_info : (Try.prog.info? 5).map (fun i => (i.zero, i.size, i.bytes)) = some (some (.int .u8 0), 1, 1) := by kernel_rfl

set_option maxHeartbeats 400000 in
theorem extends_walk (w : World) (v : Value) (l : List UInt8) (hv : IsBytes w v l) (v2 : Value) (l2 : List UInt8) (hv2 : IsBytes w v2 l2) :
    Calls Try.prog 6 #[v, v2] w fun e w' => e = .returned (.bool true) ∧ Below w.heap.size w w' := by
  go_enter Try.func6, Try.ntmps6
  go_wp2_with fail
  refine (few_any v l 500 _ hv (by decide)).mono ?_
  rintro e w0 ⟨x, rfl, hx, rfl⟩
  have hk : (l.take 500).length ≤ 500 := List.length_take_le _ _
  generalize l.take 500 = k at *
  go_wp2_with fail
  refine (few_any v2 l2 500 _ hv2 (by decide)).mono ?_
  rintro e w0 ⟨y, rfl, hy, rfl⟩
  have hk2 : (l2.take 500).length ≤ 500 := List.length_take_le _ _
  generalize l2.take 500 = k2 at *
  have ho0 := OwnBytes.made 5 w w.heap.size (Nat.le_refl _)
  have hb0 : Below w.heap.size w (w.alloc (.cells #[] 5)) := (Below.refl _ _).alloc (Nat.le_refl _) _
  have hx0 := hx.below hb0 rfl
  go_wp2_with (first | (at_builtin; refine wpList_append_bytes rfl (.tmp 12) (.tmp 13) 23 23 rfl w.heap.size 5 Try.underlying23 byte_info _ [] rfl ho0 _ k rfl (hx0.src Try.underlying23) (by simp only [List.length_nil]; omega) hb0.size ?_; intro v3 w1 ho1 hg1; have hb1 := Below.grown hb0 hg1 hb0.size (fun k hk => (World.ownsRow.lt ho0 k hk).1)) | (at_builtin; refine wpList_append_bytes rfl (.tmp 14) (.tmp 15) 23 23 rfl w.heap.size 5 Try.underlying23 byte_info _ k rfl ho1 _ k2 rfl ((hy.below hb1 rfl).src Try.underlying23) (by omega) hb1.size ?_; intro v4 w2 ho2 hg2; have hb2 := Below.grown hb1 hg2 hb1.size (fun k hk => (World.ownsRow.lt ho1 k hk).1)) | (go_at_call 11; refine (example_any _).mono ?_; rintro e w3 ⟨rfl, hb3⟩))
  have B3 := hb2.trans (hb3.mono hb2.size)
  have H4 := ho2.is.below hb3 rfl
  clear hb3 hg1 hg2 ho1 ho2 hb1 hb2 hb0 hx0 ho0
  refine (sum32_any _ k _ (hx.below B3 rfl)).mono ?_
  rintro e w4 ⟨rfl, hb4⟩
  have B4 := B3.trans (hb4.mono B3.size)
  have H5 := H4.below hb4 rfl
  clear hb4 H4 B3
  go_wp2_with fail
  refine (extend_any _ _ k2 _ (hy.below B4 rfl)).mono ?_
  rintro e w5 ⟨rfl, hb5⟩
  have B5 := B4.trans (hb5.mono B4.size)
  have H6 := H5.below hb5 rfl
  clear hb5 H5 B4
  rw [Crc.ext_append]
  go_wp2_with fail
  refine (sum32_any _ (k ++ k2) _ H6).mono ?_
  rintro e w6 ⟨rfl, hb6⟩
  go_wp2_with fail
  go_ret
  exact ⟨rfl, B5.trans (hb6.mono B5.size)⟩

end Go.Proofs.Ytmjanlgcindfpaa
