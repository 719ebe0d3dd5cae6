/- The examples of the chapter, which are true. -/
import Derived.Test.YtblfpkhgnfjbbaaWrT
import Derived.Test.YtblfpkhgnfjbbaaWrF
import Derived.Lib.SlBytesConst
set_option linter.unusedVariables false
namespace Go.Proofs.Ytblfpkhgnfjbbaa
open Go.RowKit

theorem str_of {W : World} {v : Value} {l : List UInt8} (h : IsBytes W v l) : (convert 22 9 v).run Try.prog W = .ok (.string ⟨l.toArray⟩) W :=
  run_str (P := Try.prog) W 22 9 5 Try.underlying22 Try.underlying5 Try.underlying9 v _ h

theorem ex_u300 : Wire.encU 300 = [172, 2] := by rw [Wire.encU_big (by decide), Wire.encU_small (by decide)]; rfl
theorem ex_u128 : Wire.encU 128 = [128, 1] := by rw [Wire.encU_big (by decide), Wire.encU_small (by decide)]; rfl
theorem ex_i : Wire.encI (-2) = [3] := by unfold Wire.encI; rw [Wire.encU_small (by decide)]; rfl
theorem ex_t : Wire.encT [97, 98] = [2, 97, 98] := by unfold Wire.encT; rw [Wire.encU_small (by decide)]; rfl
def ex_digits : List UInt8 := [49, 50, 51, 52, 53, 54, 55, 56, 57]
def ex_frame : List UInt8 := [9, 49, 50, 51, 52, 53, 54, 55, 56, 57, 38, 57, 244, 203]
theorem ex_sum : sum4 (Wire.sumOf ex_digits) = [38, 57, 244, 203] := by decide +kernel
theorem ex_f : Wire.encF ex_digits = ex_frame := by unfold Wire.encF; rw [Wire.encU_small (by decide), ex_sum]; rfl
theorem ex_r1 : Wire.readU [172, 2, 7] 0 = (300, 2, 0) := by decide +kernel
theorem ex_r2 : Wire.readU [128, 0] 0 = (0, 0, 3) := by decide +kernel
theorem ex_r3 : Wire.readU [172] 0 = (0, 0, 41) := by decide +kernel
theorem ex_r4 : Wire.readT [3, 97, 98] 0 = ([], 0, 41) := by decide +kernel
theorem ex_r5 : Wire.readF ex_frame 0 = (ex_digits, 14, 0) := by decide +kernel

/-- What an Append function gives, as a string. -/
def GaveStr (w : World) (s : List UInt8) (e : Ending) (w' : World) : Prop := ∃ v, e = .returned v ∧ (convert 22 9 v).run Try.prog w' = .ok (.string ⟨s.toArray⟩) w' ∧ Below w.heap.size w w'
theorem gave_of {w : World} {s : List UInt8} {e : Ending} {w' : World} {v' : Value} (h1 : e = .returned v') (h2 : OwnBytes 5 w.heap.size w' v' s) (h3 : Below w.heap.size w w') : GaveStr w s e w' :=
  ⟨v', h1, str_of h2.is, h3⟩
theorem ex_c1 (w : World) : Calls Try.prog 14 #[.slice none 0 0, .int .u64 300] w (GaveStr w [172, 2]) :=
  (appendUint_any w _ [] 300 (by decide) (IsBytes.none w) (by decide)).mono fun _ _ ⟨v, h1, h2, h3⟩ => gave_of h1 (by have h := h2; rwa [ex_u300] at h) h3
theorem ex_c2 (w : World) : Calls Try.prog 14 #[.slice none 0 0, .int .u64 128] w (GaveStr w [128, 1]) :=
  (appendUint_any w _ [] 128 (by decide) (IsBytes.none w) (by decide)).mono fun _ _ ⟨v, h1, h2, h3⟩ => gave_of h1 (by have h := h2; rwa [ex_u128] at h) h3
theorem ex_c3 (w : World) : Calls Try.prog 17 #[.slice none 0 0, .int .i64 (-2)] w (GaveStr w [3]) :=
  (appendInt_any w _ [] (-2) (by decide) (by decide) (IsBytes.none w) (by decide)).mono fun _ _ ⟨v, h1, h2, h3⟩ => gave_of h1 (by have h := h2; rwa [ex_i] at h) h3
theorem ex_c4 (w : World) : Calls Try.prog 19 #[.slice none 0 0, .string ⟨#[97, 98]⟩] w (GaveStr w [2, 97, 98]) :=
  (appendText_any w _ [] ⟨#[97, 98]⟩ (IsBytes.none w) (by decide)).mono fun _ _ ⟨v, h1, h2, h3⟩ => gave_of h1 (by have h := h2; exact ex_t ▸ h) h3
theorem ex_new (w : World) (l : List UInt8) (hl : l.length ≤ maxLen) : IsBytes (w.alloc (.cells (l.map u8v).toArray 5)) (.slice (some ⟨w.heap.size, 0, none⟩) l.length l.length) l := IsBytes.new w 5 _ l hl
theorem ex_d1 (w : World) (v : Value) (h : IsBytes w v [172, 2, 7]) : Calls Try.prog 25 #[v, .int .i64 0] w fun e w' => e = .returned (.tuple #[.int .u64 300, .int .i64 2, .int .i64 0]) ∧ Below w.heap.size w w' :=
  (readUint_any w v _ 0 h).mono fun _ _ ⟨h1, h2⟩ => ⟨by rw [ex_r1] at h1; exact h1, h2⟩
theorem ex_d2 (w : World) (v : Value) (h : IsBytes w v [128, 0]) : Calls Try.prog 25 #[v, .int .i64 0] w fun e w' => e = .returned (.tuple #[.int .u64 0, .int .i64 0, .int .i64 3]) ∧ Below w.heap.size w w' :=
  (readUint_any w v _ 0 h).mono fun _ _ ⟨h1, h2⟩ => ⟨by rw [ex_r2] at h1; exact h1, h2⟩
theorem ex_d3 (w : World) (v : Value) (h : IsBytes w v [172]) : Calls Try.prog 25 #[v, .int .i64 0] w fun e w' => e = .returned (.tuple #[.int .u64 0, .int .i64 0, .int .i64 41]) ∧ Below w.heap.size w w' :=
  (readUint_any w v _ 0 h).mono fun _ _ ⟨h1, h2⟩ => ⟨by rw [ex_r3] at h1; exact h1, h2⟩
theorem ex_d4 (w : World) (v : Value) (h : IsBytes w v [3, 97, 98]) : Calls Try.prog 26 #[v, .int .i64 0] w fun e w' => e = .returned (.tuple #[.string ⟨#[]⟩, .int .i64 0, .int .i64 41]) ∧ Below w.heap.size w w' :=
  (readText_any w v _ 0 h).mono fun _ _ ⟨h1, h2⟩ => ⟨by rw [ex_r4] at h1; exact h1, h2⟩
theorem ex_d5 (w : World) (v : Value) (h : IsBytes w v ex_frame) : Calls Try.prog 23 #[v, .int .i64 0] w fun e w' => ∃ pv, e = .returned (.tuple #[pv, .int .i64 14, .int .i64 0]) ∧ IsBytes w' pv ex_digits ∧ Below w.heap.size w w' :=
  (readFrame_any w v _ 0 h).mono fun _ _ ⟨pv, h1, h2, h3⟩ => ⟨pv, by rw [ex_r5] at h1; exact h1, by rw [ex_r5] at h2; exact h2, h3⟩

set_option maxHeartbeats 1000000 in
theorem example_any (w : World) :
    Calls Try.prog 12 #[] w fun e w' => e = .returned (.bool true) ∧ Below w.heap.size w w' := by
  go_enter Try.func12, Try.ntmps12
  go_wp2_with fail
  refine (ex_c1 _).mono ?_
  rintro e w1 ⟨v1, rfl, s1, hb1⟩
  go_wp2_with fail
  refine (ex_c2 _).mono ?_
  rintro e w2 ⟨v2, rfl, s2, hb2⟩
  replace hb2 := hb1.trans (hb2.mono hb1.size)
  clear hb1
  go_wp2_with fail
  refine (ex_c3 _).mono ?_
  rintro e w3 ⟨v3, rfl, s3, hb3⟩
  replace hb3 := hb2.trans (hb3.mono hb2.size)
  clear hb2
  go_wp2_with fail
  refine (ex_c4 _).mono ?_
  rintro e w4 ⟨v4, rfl, s4, hb4⟩
  replace hb4 := hb3.trans (hb4.mono hb3.size)
  clear hb3
  go_wp2_with fail
  refine (ex_d1 _ _ (ex_new w4 [172, 2, 7] (by decide))).mono ?_
  rintro e w5 ⟨rfl, hb5⟩
  replace hb5 := (hb4.alloc hb4.size _).trans (hb5.mono (hb4.alloc hb4.size _).size)
  clear hb4 s1 s2 s3 s4
  go_wp2_with fail
  refine (ex_d2 _ _ (ex_new w5 [128, 0] (by decide))).mono ?_
  rintro e w6 ⟨rfl, hb6⟩
  replace hb6 := (hb5.alloc hb5.size _).trans (hb6.mono (hb5.alloc hb5.size _).size)
  clear hb5
  go_wp2_with fail
  refine (ex_d3 _ _ (ex_new w6 [172] (by decide))).mono ?_
  rintro e w7 ⟨rfl, hb7⟩
  replace hb7 := (hb6.alloc hb6.size _).trans (hb7.mono (hb6.alloc hb6.size _).size)
  clear hb6
  go_wp2_with fail
  refine (ex_d4 _ _ (ex_new w7 [3, 97, 98] (by decide))).mono ?_
  rintro e w8 ⟨rfl, hb8⟩
  replace hb8 := (hb7.alloc hb7.size _).trans (hb8.mono (hb7.alloc hb7.size _).size)
  clear hb7
  have kc := fun (w : World) (C : Array Value) (n c : Nat) => Lib.run_convert_bytes_const (P := Try.prog) w 22 5 C n c Try.underlying22 Try.underlying5
  go_wp2_with fail
  refine (appendFrame_any _ _ [] _ ex_digits (IsBytes.none _) (IsBytes.new w8 5 (9, 10) ex_digits (by decide)) (by decide)).mono ?_
  rintro e w9 ⟨v9, rfl, o9, hb9⟩
  replace hb9 := (hb8.alloc hb8.size _).trans (hb9.mono (hb8.alloc hb8.size _).size)
  clear hb8
  have i9 : IsBytes w9 v9 ex_frame := by have h := o9.is; rwa [ex_f] at h
  clear o9
  go_wp2_with fail
  refine (ex_d5 _ _ i9).mono ?_
  rintro e w10 ⟨v10, rfl, p10, hb10⟩
  have s9 := str_of (i9.below hb10 rfl)
  have s10 := str_of p10
  replace hb10 := hb9.trans (hb10.mono hb9.size)
  clear hb9 i9 p10
  unfold ex_frame at s9
  unfold ex_digits at s10
  go_wp2_with fail
  go_ret
  exact ⟨rfl, hb10⟩
end Go.Proofs.Ytblfpkhgnfjbbaa
