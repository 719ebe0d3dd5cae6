/- The walks of the laws of chapter 3: each returns true. -/
import Derived.Test.YtmjanlgcindfpaaEx03
namespace Go.Proofs.Ytmjanlgcindfpaa
open Go.RowKit

set_option maxHeartbeats 400000 in
theorem sums_walk (w : World) (s : BitVec 32) (v : Value) (l : List UInt8) (hv : IsBytes w v l) :
    Calls Try.prog 3 #[.int .u32 (s.toNat : Int), v] w fun e w' => e = .returned (.bool true) ∧ Below w.heap.size w w' := by
  go_enter Try.func3, Try.ntmps3
  go_wp2_with fail
  refine (few_any v l 2000 _ hv (by decide)).mono ?_
  rintro e w0 ⟨x, rfl, hx, rfl⟩
  generalize l.take 2000 = k at *
  go_wp2_with fail
  refine (example_any _).mono ?_
  rintro e w1 ⟨rfl, hb1⟩
  have hx1 := hx.below hb1 rfl
  go_wp2_with fail
  refine (sum32_any _ k _ hx1).mono ?_
  rintro e w2 ⟨rfl, hb2⟩
  have hx2 := hx1.below hb2 rfl
  have hB2 := hb1.trans (hb2.mono hb1.size)
  clear hx1 hb1 hb2
  go_wp2_with fail
  refine (refSum32_any _ k _ hx2).mono ?_
  rintro e w3 ⟨rfl, rfl⟩
  go_wp2_with fail
  refine (extend_any _ _ k _ hx2).mono ?_
  rintro e w3 ⟨rfl, hb3⟩
  have hx3 := hx2.below hb3 rfl
  have hB3 := hB2.trans (hb3.mono hB2.size)
  clear hx2 hb3 hB2
  go_wp2_with fail
  refine (refExtend_any _ _ k _ hx3).mono ?_
  rintro e w4 ⟨rfl, rfl⟩
  go_wp2_with fail
  go_ret
  exact ⟨rfl, hB3⟩

end Go.Proofs.Ytmjanlgcindfpaa
