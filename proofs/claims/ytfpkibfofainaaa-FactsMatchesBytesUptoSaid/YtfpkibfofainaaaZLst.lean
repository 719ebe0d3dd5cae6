/- The walk over facts.list at values. -/
import Derived.Test.YtfpkibfofainaaaZValA
import Derived.Test.YtfpkibfofainaaaZCat
import Derived.Test.YtfpkibfofainaaaZGB
set_option linter.unusedVariables false
namespace Go.Proofs.Ytfpkibfofainaaa
open Go.RowKit

def encVs (l : List Vl) : List UInt8 := l.flatMap Vl.enc
theorem encVs_take (l : List Vl) (j : Nat) (h : j < l.length) : encVs (l.take (j + 1)) = encVs (l.take j) ++ l[j].enc := by
  unfold encVs
  rw [List.take_succ_eq_append_getElem h, List.flatMap_append]
  simp
theorem enc_le (v : Vl) : v.enc.length ≤ 75 := by
  unfold Vl.enc
  by_cases h : v.check = 0
  · rw [if_pos h, List.length_cons]
    unfold Vl.body
    split
    · simp
    · split
      · rename_i h2
        have hn := check_num h h2
        have : (Wire.encI v.n).length ≤ 10 := Wire.encU_len10 (Wire.zig_lt (by omega) (by omega))
        omega
      · split
        · rename_i h2
          have hs := check_str h h2
          have hl : v.s.data.toList.length = v.s.size := by simp
          unfold Wire.encT
          rw [List.length_append]
          have := Wire.encU_len10 (n := v.s.data.toList.length) (by omega)
          omega
        · simp
  · rw [if_neg h]; simp
theorem encVs_le (l : List Vl) : ∀ j, j ≤ l.length → (encVs (l.take j)).length ≤ j * 75 := by
  intro j
  induction j with
  | zero => intro _; simp [encVs]
  | succ j ih =>
    intro hj
    rw [encVs_take l j (by omega), List.length_append]
    have := ih (by omega)
    have := enc_le l[j]
    omega

set_option maxRecDepth 8000 in
set_option maxHeartbeats 4000000 in
theorem list_any (w : World) (bv : Value) (l : List UInt8) (vb : Option Addr) (vq : Nat) (vs : List Vl) (hb : IsBytes w bv l) (hv : IsVals w (.slice vb vs.length vq) vs) (hl : l.length ≤ 1099511627776) (hvl : vs.length ≤ 1048576) :
    Calls Try.prog 39 #[bv, .slice vb vs.length vq, .func (.func 40) #[] #[]] w fun e w' => ∃ v', e = .returned v' ∧ OwnBytes 5 w.heap.size w' v' (l ++ Wire.encU vs.length ++ encVs vs) ∧ Below w.heap.size w w' := by
  obtain ⟨n, hn⟩ : ∃ n, vs.length = n := ⟨_, rfl⟩
  rw [hn] at hv hvl ⊢
  have h0 := (St.start w).putOld (P := (IsVals · (.slice vb n vq) vs)) (Mono.seq rdVal_up _ _) hv
  have HN := Lib.hid hn
  have hU := Wire.encU_len10 (n := n) (by omega)
  clear hn hv
  go_enter Try.func39, Try.ntmps39
  go_wp2_with fail
  refine (appendUint_any w bv l n (by omega) hb (by omega)).mono ?_
  rintro e w1 ⟨v1, rfl, ho1, hb1⟩
  have h1 := h0.call hb1
  clear h0 hb1 hb
  go_wp2_with fail
  go_loopw [0, 16] (fun cv iv wr => ∃ k : Nat, k ≤ n ∧ iv = .int .i64 k ∧ OwnBytes 5 w.heap.size wr cv (l ++ Wire.encU n ++ encVs (vs.take k)) ∧ St w wr [] [(IsVals · (.slice vb n vq) vs)]) (fun _ iv _ => n - (intOf iv).toNat)
  case atStart => exact ⟨0, by omega, rfl, by simpa [encVs] using ho1, h1⟩
  case round =>
    clear h1 ho1
    obtain ⟨k, hk, rfl, ho, hst⟩ := hrel
    have hvl' : vs.length = n := HN.out
    by_cases hlt : k < n
    · have hkl : k < vs.length := by omega
      obtain ⟨g1, o1, x0', x1', x2', rfl, hrow, x0, x1, x2⟩ := (hst.is 0 rfl : IsVals _ _ _).row3 k hkl
      obtain ⟨⟨ak, an, sa⟩, hae⟩ : ∃ v, vs[k] = v := ⟨_, rfl⟩
      rw [hae] at hrow
      simp only [rdVal, Vl.cells, List.cons.injEq, and_true] at hrow
      obtain ⟨rfl, rfl, rfl⟩ := hrow
      have hlen := encVs_le vs k (by omega)
      have hsn := encVs_take vs k hkl
      rw [hae] at hsn
      have HS := Lib.hid hsn
      have HO := Lib.hid ho
      clear hsn hae ho
      have h2 := hst.box (.cells #[.int .i64 ak, .int .i64 an, .string sa] 57)
      have ha2 : Below wr.heap.size wr (wr.alloc (.cells #[.int .i64 ak, .int .i64 an, .string sa] 57)) := (Below.refl _ _).alloc (Nat.le_refl _) _
      go_wp2_with fail
      refine (valAppend_any _ _ _ ⟨ak, an, sa⟩ (HO.out.later ha2).is (by simp only [List.length_append]; omega)).mono ?_
      rintro e w3 ⟨v3, rfl, ho3, hb3⟩
      have h3 := h2.call hb3
      have hsz := h2.size
      rw [List.append_assoc, ← HS.out] at ho3
      replace ho3 := ho3.lower hsz
      clear h2 hb3 hst x0 x1 x2 ha2
      go_wp2_with fail
      go_roundw
      case rel => exact ⟨k + 1, by omega, by go_num, ho3, h3⟩
      case measure => simp [intOf]; omega
    · obtain rfl : k = n := by omega
      rw [← hvl', List.take_length] at ho
      rw [hvl'] at ho
      go_wp2_with fail
      go_ret
      exact ⟨_, rfl, ho, hst.below⟩
end Go.Proofs.Ytfpkibfofainaaa
