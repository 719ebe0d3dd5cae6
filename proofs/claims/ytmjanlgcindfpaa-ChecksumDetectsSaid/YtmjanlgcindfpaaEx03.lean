/- The walks over the law's own helpers: few, and the worked examples of the chapter, which are true. -/
import Derived.Test.YtmjanlgcindfpaaRef03
import Derived.Lib.SlBytesConst
namespace Go.Proofs.Ytmjanlgcindfpaa
open Go.RowKit

def digits : List UInt8 := [49, 50, 51, 52, 53, 54, 55, 56, 57]
theorem ex1 : (Crc.ext 0#32 []).toNat = 0 := by decide +kernel
theorem ex2 : (Crc.ext 0#32 digits).toNat = 3421780262 := by decide +kernel
theorem ex3 : (Crc.ext (Crc.ext 0#32 [97]) [98]).toNat = 2659403885 := by decide +kernel
theorem ex4 : (Crc.hash 0#64 []).toNat = 0 := by decide +kernel
theorem ex5 : (Crc.hash 0#64 [97]).toNat = 10811150683561025831 := by decide +kernel
theorem ex6 : (Crc.hash 7#64 [49, 50, 51, 52, 53, 54, 55, 56]).toNat = 8553921110080825787 := by decide +kernel
theorem ex7 : (Crc.hash 7#64 digits).toNat = 4973162054311077252 := by decide +kernel

theorem lit_a (w : World) : IsBytes (w.alloc (.cells #[.int .u8 97] 5 (1, 2))) (.slice (some ⟨w.heap.size, 0, none⟩) 1 1) [97] := IsBytes.new w 5 (1, 2) [97] (by decide)
theorem lit_b (w : World) : IsBytes (w.alloc (.cells #[.int .u8 98] 5 (1, 2))) (.slice (some ⟨w.heap.size, 0, none⟩) 1 1) [98] := IsBytes.new w 5 (1, 2) [98] (by decide)
theorem lit_digits (w : World) : IsBytes (w.alloc (.cells #[.int .u8 49, .int .u8 50, .int .u8 51, .int .u8 52, .int .u8 53, .int .u8 54, .int .u8 55, .int .u8 56, .int .u8 57] 5 (9, 10))) (.slice (some ⟨w.heap.size, 0, none⟩) 9 9) digits :=
  IsBytes.new w 5 (9, 10) digits (by decide)

theorem hash_val (seed : BitVec 64) (v : Value) (l : List UInt8) (c : Int) (hc : ((Crc.hash seed l).toNat : Int) = c) (w : World) (hv : IsBytes w v l) :
    Calls Try.prog 16 #[.int .u64 (seed.toNat : Int), v] w fun e w' => ∃ m : Int, e = .returned (.int .u64 m) ∧ (m == c) = true ∧ w = w' :=
  (hash_any seed v l w hv).mono fun _ _ ⟨h1, h2⟩ => ⟨_, h1, by rw [hc]; exact beq_self_eq_true _, h2⟩
theorem ex4' : ((Crc.hash 0#64 []).toNat : Int) = 0 := by rw [ex4]; rfl
theorem ex5' : ((Crc.hash 0#64 [97]).toNat : Int) = 10811150683561025831 := by rw [ex5]; rfl
theorem ex6' : ((Crc.hash 7#64 [49, 50, 51, 52, 53, 54, 55, 56]).toNat : Int) = 8553921110080825787 := by rw [ex6]; rfl
theorem ex7' : ((Crc.hash 7#64 digits).toNat : Int) = 4973162054311077252 := by rw [ex7]; rfl
theorem sample_no (v : Value) (w : World) (hv : IsBytes w v [97]) :
    Calls Try.prog 18 #[.int .i64 0, v, .int .i64 831] w fun e w' => e = .returned (.bool false) ∧ w = w' :=
  (sample_any 0 v [97] 831 w hv).mono fun _ _ ⟨h1, h2⟩ => ⟨by rw [h1]; exact congrArg (fun b => Ending.returned (.bool b)) (by have h := ex5'; rw [show BitVec.ofInt 64 0 = 0#64 from rfl, h]; decide), h2⟩
theorem sample_yes (v : Value) (w : World) (hv : IsBytes w v [97]) :
    Calls Try.prog 18 #[.int .i64 0, v, .int .i64 832] w fun e w' => e = .returned (.bool true) ∧ w = w' :=
  (sample_any 0 v [97] 832 w hv).mono fun _ _ ⟨h1, h2⟩ => ⟨by rw [h1]; exact congrArg (fun b => Ending.returned (.bool b)) (by have h := ex5'; rw [show BitVec.ofInt 64 0 = 0#64 from rfl, h]; decide), h2⟩
theorem take8 (w : World) (v : Nat) (h : IsBytes w (.slice (some ⟨v, 0, none⟩) 9 9) digits) : IsBytes w (.slice (some ⟨v, 0, none⟩) 8 9) [49, 50, 51, 52, 53, 54, 55, 56] := by
  have h2 := IsBytes.part h 0 8 9 (by decide) (by decide) (by decide) (by decide)
  exact h2

set_option maxHeartbeats 400000 in
theorem example_any (w : World) :
    Calls Try.prog 11 #[] w fun e w' => e = .returned (.bool true) ∧ Below w.heap.size w w' := by
  have kc := fun (w : World) (C : Array Value) (n c : Nat) => Lib.run_convert_bytes_const (P := Try.prog) w 23 5 C n c Try.underlying23 Try.underlying5
  have hd := lit_digits w
  have hb0 : Below w.heap.size w (w.alloc (.cells #[.int .u8 49, .int .u8 50, .int .u8 51, .int .u8 52, .int .u8 53, .int .u8 54, .int .u8 55, .int .u8 56, .int .u8 57] 5 (9, 10))) := (Below.refl _ _).alloc (Nat.le_refl _) _
  go_enter Try.func11, Try.ntmps11
  go_wp2_with fail
  refine (sum32_any _ [] _ (IsBytes.none _)).mono ?_
  rintro e w1 ⟨rfl, hb1⟩
  rw [ex1]
  have hd1 := hd.below hb1 rfl
  have hB1 := hb0.trans (hb1.mono hb0.size)
  clear hd hb1 hb0
  go_wp2_with fail
  refine (sum32_any _ digits _ hd1).mono ?_
  rintro e w2 ⟨rfl, hb2⟩
  rw [ex2]
  have hd2 := hd1.below hb2 rfl
  have hB2 := hB1.trans (hb2.mono hB1.size)
  clear hd1 hb2 hB1
  go_wp2_with fail
  refine (sum32_any _ [97] _ (lit_a w2)).mono ?_
  rintro e w3 ⟨rfl, hb3⟩
  have hd3 := (hd2.below ((Below.refl w2.heap.size w2).alloc (Nat.le_refl _) _) rfl).below hb3 rfl
  have hB3 := (hB2.alloc hB2.size _).trans (hb3.mono (hB2.alloc hB2.size _).size)
  clear hd2 hb3 hB2
  go_wp2_with fail
  refine (extend_any _ _ [98] _ (lit_b w3)).mono ?_
  rintro e w4 ⟨rfl, hb4⟩
  rw [ex3]
  have hd4 := (hd3.below ((Below.refl w3.heap.size w3).alloc (Nat.le_refl _) _) rfl).below hb4 rfl
  have hB4 := (hB3.alloc hB3.size _).trans (hb4.mono (hB3.alloc hB3.size _).size)
  clear hd3 hb4 hB3
  go_wp2_with fail
  refine (hash_val 0#64 _ [] 0 ex4' _ (IsBytes.none _)).mono ?_
  rintro e w5 ⟨n4, rfl, hn4, rfl⟩
  go_wp2_with fail
  refine (hash_val 0#64 _ [97] 10811150683561025831 ex5' _ (lit_a w4)).mono ?_
  rintro e w5 ⟨n5, rfl, hn5, rfl⟩
  have hd5 := hd4.below ((Below.refl w4.heap.size w4).alloc (Nat.le_refl _) (.cells #[.int .u8 97] 5 (1, 2))) rfl
  have hB5 := hB4.alloc hB4.size (.cells #[.int .u8 97] 5 (1, 2))
  clear hd4 hB4
  generalize w4.alloc (.cells #[.int .u8 97] 5 (1, 2)) = w5 at *
  go_wp2_with fail
  refine (hash_val 7#64 _ [49, 50, 51, 52, 53, 54, 55, 56] 8553921110080825787 ex6' _ (take8 _ _ hd5)).mono ?_
  rintro e w6 ⟨n6, rfl, hn6, rfl⟩
  go_wp2_with fail
  refine (hash_val 7#64 _ digits 4973162054311077252 ex7' _ hd5).mono ?_
  rintro e w6 ⟨n7, rfl, hn7, rfl⟩
  go_wp2_with fail
  refine (sample_no _ _ (lit_a w5)).mono ?_
  rintro e w6 ⟨rfl, rfl⟩
  have hB6 := hB5.alloc hB5.size (.cells #[.int .u8 97] 5 (1, 2))
  generalize w5.alloc (.cells #[.int .u8 97] 5 (1, 2)) = w6 at *
  go_wp2_with fail
  refine (sample_yes _ _ (lit_a w6)).mono ?_
  rintro e w7 ⟨rfl, rfl⟩
  go_wp2_with fail
  go_ret
  exact ⟨rfl, hB6.alloc hB6.size _⟩

set_option maxHeartbeats 400000 in
theorem few_any (v : Value) (l : List UInt8) (most : Nat) (w : World) (hv : IsBytes w v l) (hm : most ≤ 100000) :
    Calls Try.prog 10 #[v, .int .i64 most] w fun e w' => ∃ v', e = .returned v' ∧ IsBytes w v' (l.take most) ∧ w = w' := by
  obtain ⟨base, cap, rfl, hlen, hcap, hnil, hcell⟩ := hv.out
  unfold maxLen at hcap
  have HV := Lib.hid hv
  clear hcell hnil hv
  by_cases hlt : most < l.length
  · have h2 := IsBytes.take HV.out most (by omega)
    go_enter Try.func10, Try.ntmps10
    go_wp2
    go_ret
    exact ⟨_, rfl, h2, rfl⟩
  · go_enter Try.func10, Try.ntmps10
    go_wp2
    go_ret
    exact ⟨_, rfl, by rw [List.take_of_length_le (by omega)]; exact HV.out, rfl⟩

end Go.Proofs.Ytmjanlgcindfpaa
