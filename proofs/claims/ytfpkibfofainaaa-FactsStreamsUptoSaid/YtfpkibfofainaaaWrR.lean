/- The walks over package wire's reader. -/
import Derived.Test.YtfpkibfofainaaaChecked
import Derived.Test.YtfpkibfofainaaaWrB
import Derived.Test.YtfpkibfofainaaaMask
import Derived.Recover
import Derived.BigQuiet
import Derived.Deep.QuietTactic
import Derived.Deep.CutRange
set_option linter.unusedVariables false
namespace Go.Proofs.Ytfpkibfofainaaa
open Go.RowKit

/-- A panic with an error code. -/
@[reducible] def errPanic (c : Int) : PanicEntry := { v := .iface 31 (.int .i64 c), recovered := false }
theorem assert_errno (W : World) (xT : TypeId) (v : Value) : (Instr.typeAssert (.iface 31 v) xT 31 true).run Try.prog W = .ok (.tuple #[v, .bool true]) W := by kernel_rfl
theorem wpS_of_wp' {P : Program} {c : Code} {Q : Exit → Act → List Frame → World → Prop} {a : Act} {cs : List Frame} {w : World} (h : ∀ Q' : Exit → Act → World → Prop, (∀ e a' w', Q e a' cs w' → Q' e a' w') → c.wp P Q' a w) : c.wpS P Q a cs w := wpS_of_wp (h _ fun _ _ _ h => h)
set_option maxHeartbeats 1000000 in
theorem caught_panicking (p q : Nat) (x y : Int) (c : Int) (older : List PanicEntry) (w : World) (hp : w.cell? ⟨p, 0, none⟩ = some (.int .i64 x)) (hpf : w.frozen? ⟨p, 0, none⟩ = false) (hq : w.cell? ⟨q, 0, none⟩ = some (.int .i64 y)) (hqf : w.frozen? ⟨q, 0, none⟩ = false) (hpq : q ≠ p) :
    CallsD Try.prog 49 #[.pointer (some ⟨p, 0, none⟩), .pointer (some ⟨q, 0, none⟩)] (.panicking (errPanic c :: older)) w fun e u' w' =>
      e = .returned (.tuple #[]) ∧ u' = .panicking ({ v := .iface 31 (.int .i64 c), recovered := true } :: older) ∧ w' = (w.setCell ⟨p, 0, none⟩ (.int .i64 0)).setCell ⟨q, 0, none⟩ (.int .i64 c) := by
  refine callsD_of_wpS Try.func49 rfl fun c₀ cs hu => ?_
  apply wpS_seq
  apply wpS_region
  simp [wpOpsS, go_sem, recoverD, hu, Try.ntmps49, Exit.thenS]
  refine wpS_of_wp' fun Q' hQ => ?_
  have HQ := Lib.hid hQ
  clear hQ
  simp only [Array.replicate_succ, Array.replicate_zero, List.push_toArray, List.append_toArray, List.nil_append, List.cons_append, List.setIfInBounds_toArray, List.set_cons_succ, List.set_cons_zero]
  have has := assert_errno
  go_wp2_with fail
  refine HQ.out _ _ _ ?_
  simp [bodyPostS, results, Try.results49]
theorem caught_idle (p q : Nat) (w : World) :
    CallsD Try.prog 49 #[.pointer (some ⟨p, 0, none⟩), .pointer (some ⟨q, 0, none⟩)] .returning w fun e u' w' => e = .returned (.tuple #[]) ∧ u' = .returning ∧ w' = w := by
  refine callsD_of_wpS Try.func49 rfl fun c₀ cs hu => ?_
  apply wpS_seq
  apply wpS_region
  simp [wpOpsS, go_sem, recoverD, hu, Try.ntmps49, Exit.thenS]
  refine wpS_of_wp' fun Q' hQ => ?_
  have HQ := Lib.hid hQ
  clear hQ
  simp only [Array.replicate_succ, Array.replicate_zero, List.push_toArray, List.append_toArray, List.nil_append, List.cons_append, List.setIfInBounds_toArray, List.set_cons_succ, List.set_cons_zero]
  go_wp2_with fail
  refine HQ.out _ _ _ ?_
  clear HQ
  cases c₀
  simp_all [bodyPostS, results, Try.results49]

/-- A reader's block: its bytes, and how far it has come. -/
@[reducible] def rdO (v : Value) (i : Nat) : Obj := .cells #[v, .int .i64 i] 93 (0, 0)
theorem reader_info : (Try.prog.info? 93).map (·.size) = some 2 := by kernel_rfl
set_option maxHeartbeats 1000000 in
theorem open_ok (w : World) (bs : Option Addr) (n q : Nat) (i : Nat) (hi : i ≤ n) (hq : q ≤ 9223372036854775807) (hn : n ≤ q) :
    Calls Try.prog 50 #[.slice bs n q, .int .i64 i] w fun e w' => e = .returned (.pointer (some ⟨w.heap.size, 0, none⟩)) ∧ w' = w.alloc (rdO (.slice bs n q) i) := by
  have i1 : ¬ (i : Int) < 0 := by omega
  have i2 : ¬ (n : Int) < (i : Int) := by omega
  go_enter Try.func50, Try.ntmps50
  go_wp2
  go_ret
  exact ⟨rfl, rfl⟩
set_option maxHeartbeats 1000000 in
theorem open_bad (w : World) (bs : Option Addr) (n q : Nat) (i : Int) (hi : i < 0 ∨ (n : Int) < i) :
    Calls Try.prog 50 #[.slice bs n q, .int .i64 i] w fun e w' => e = .panicked [errPanic 1] ∧ w' = w := by
  by_cases i1 : i < 0
  · go_enter Try.func50, Try.ntmps50
    go_wp2
    exact ⟨rfl, rfl, rfl⟩
  · have i2 : (n : Int) < i := by omega
    go_enter Try.func50, Try.ntmps50
    go_wp2
    exact ⟨rfl, rfl, rfl⟩

/-- What the reader's steps do: its own block alone, which then says how far it has come. -/
structure RdW (W : World) (g : Nat) (v : Value) (i : Nat) (w' : World) : Prop where
  grown : W.grownBy w' (some g)
  blk : w'.heap[g]? = some (rdO v i)
theorem RdW.start {W : World} {g : Nat} {v : Value} {i : Nat} (h : W.heap[g]? = some (rdO v i)) : RdW W g v i W := ⟨⟨rfl, rfl, rfl, Nat.le_refl _, fun _ _ _ => rfl⟩, h⟩
theorem RdW.trans {W w1 w2 : World} {g : Nat} {v : Value} {i j : Nat} (h : RdW W g v i w1) (k : RdW w1 g v j w2) : RdW W g v j w2 :=
  ⟨⟨k.grown.os.trans h.grown.os, k.grown.tape.trans h.grown.tape, k.grown.output.trans h.grown.output, Nat.le_trans h.grown.size k.grown.size, fun x hx hne => (k.grown.block x (Nat.lt_of_lt_of_le hx h.grown.size) hne).trans (h.grown.block x hx hne)⟩, k.blk⟩
theorem RdW.bytes {w W w' : World} {g : Nat} {v u : Value} {i : Nat} {l : List UInt8} (h : RdW W g v i w') (hu : IsBytes w u l) (hg : w.heap.size ≤ g) (hs : w.heap.size ≤ W.heap.size) (hk : ∀ k, k < w.heap.size → W.heap[k]? = w.heap[k]?) : IsBytes w' u l :=
  hu.sub (Sub.of_heap fun k hk' => (h.grown.block k (Nat.lt_of_lt_of_le hk' hs) (fun e => by cases e; omega)).trans (hk k hk'))
theorem RdW.set {W w' : World} {g : Nat} {v : Value} {i j : Nat} (h : RdW W g v i w') (m : Nat) : RdW W g v j ((w'.drewN m).setCell ⟨g, 1, none⟩ (.int .i64 j)) := by
  have hs := heap_setCell_same (w'.drewN m) g 1 #[v, .int .i64 i] 93 (.int .i64 j) h.blk
  refine ⟨⟨h.grown.os, h.grown.tape, h.grown.output, ?_, fun x hx hne => ?_⟩, hs⟩
  · have := h.grown.size
    simpa [World.setCell] using this
  · exact (heap_setCell_other _ _ _ _ (fun e => hne (by rw [e]))).trans (h.grown.block x hx hne)
theorem rd_cells {W : World} {g i : Nat} {v : Value} (h : W.heap[g]? = some (rdO v i)) : W.cell? ⟨g, 0, none⟩ = some v ∧ W.cell? ⟨g, 1, none⟩ = some (.int .i64 i) ∧ W.frozen? ⟨g, 1, none⟩ = false := by
  refine ⟨?_, ?_, frozen_of_row _ _ _ _ _ h⟩ <;> rw [cell_of_row _ _ _ _ _ _ h] <;> rfl

set_option maxHeartbeats 1000000 in
theorem take_ok (W : World) (g : Nat) (bs : Option Addr) (n q i k : Nat) (hb : W.heap[g]? = some (rdO (.slice bs n q) i)) (hq : q ≤ 9223372036854775807) (hn : n ≤ q) (hk : i + k ≤ n) :
    Calls Try.prog 66 #[.pointer (some ⟨g, 0, none⟩), .int .u64 k] W fun e w' => e = .returned (.slice (if i + k = i then bs else bs.map (·.add i)) k k) ∧ RdW W g (.slice bs n q) (i + k) w' := by
  obtain ⟨c0, c1, cf⟩ := rd_cells hb
  have HB := Lib.hid hb
  clear hb
  by_cases hk0 : k = 0
  · subst hk0
    rw [Nat.add_zero, if_pos rfl]
    have i1 : ¬ ((n : Int) - (i : Int)) < 0 := by omega
    go_enter Try.func66, Try.ntmps66
    go_wp2_with fail
    go_quiet (fail)
    go_wp2_with fail
    go_quiet (fail)
    go_wp2_with fail
    go_ret
    exact ⟨rfl, (RdW.start HB.out).set _⟩
  · have i1 : ¬ ((n : Int) - (i : Int)) < (k : Int) := by omega
    have i2 : ¬ i + k = i := by omega
    rw [if_neg i2]
    have e1 : (i : Int) + (k : Int) = ((i + k : Nat) : Int) := by omega
    have E1 := Lib.hid e1
    clear e1
    go_enter Try.func66, Try.ntmps66
    go_wp2_with fail
    go_quiet (fail)
    go_wp2_with fail
    go_quiet (fail)
    go_wp2_with fail
    all_goals
      rw [E1.out]
      go_ret
      refine ⟨?_, (RdW.start HB.out).set _⟩
      first
        | rfl
        | (show Ending.returned (Value.slice _ (i + k - i) (i + k - i)) = _; rw [Nat.add_sub_cancel_left])
set_option maxHeartbeats 1000000 in
theorem take_bad (W : World) (g : Nat) (bs : Option Addr) (n q i k : Nat) (hb : W.heap[g]? = some (rdO (.slice bs n q) i)) (hq : q ≤ 9223372036854775807) (hn : n ≤ q) (hi : i ≤ n) (hk : n < i + k) :
    Calls Try.prog 66 #[.pointer (some ⟨g, 0, none⟩), .int .u64 k] W fun e w' => e = .panicked [errPanic 41] ∧ RdW W g (.slice bs n q) i w' := by
  obtain ⟨c0, c1, cf⟩ := rd_cells hb
  have HB := Lib.hid hb
  clear hb
  have i1 : ((n : Int) - (i : Int)) < (k : Int) := by omega
  go_enter Try.func66, Try.ntmps66
  go_wp2_with fail
  go_quiet (fail)
  go_wp2_with fail
  exact ⟨rfl, rfl, ⟨⟨rfl, rfl, rfl, Nat.le_refl _, fun _ _ _ => rfl⟩, HB.out⟩⟩

theorem and127 (c : UInt8) : bits .and .u8 (c.toNat : Int) 127 = ((c.toNat % 128 : Nat) : Int) := by
  have h : ∀ x : Fin 256, x.val &&& 127 = x.val % 128 := by decide +kernel
  rw [show (127 : Int) = ((127 : Nat) : Int) from rfl, u8_and_nat _ _ (by have := c.toNat_lt; omega) (by omega), h ⟨c.toNat, by have := c.toNat_lt; omega⟩]
theorem or_shift {acc x i : Nat} (ha : acc < 2 ^ (7 * i)) (hx : acc + x * 2 ^ (7 * i) < 18446744073709551616) : bits .or .u64 (acc : Int) ((x * 2 ^ (7 * i) : Nat) : Int) = ((acc + x * 2 ^ (7 * i) : Nat) : Int) := by
  rw [u64_or_nat _ _ (by omega) (by omega)]
  congr 1
  rw [Nat.or_comm, Nat.mul_comm, ← Nat.two_pow_add_eq_or_of_lt ha, Nat.add_comm]

theorem num_bits {acc i d : Nat} {z : Int} (hz : z = (d : Int)) (ha : acc < 2 ^ (7 * i)) (hi : i ≤ 9) (hd : d < 128) (h9 : i = 9 → d ≤ 1) :
    bits BinOp.or IntKind.u64 (acc : Int) (IntKind.u64.wrap (IntKind.u64.wrap z * 2 ^ (7 * i))) = ((acc + d * 2 ^ (7 * i) : Nat) : Int) := by
  have hw : ∀ z : Int, IntKind.u64.wrap z = z % 18446744073709551616 := fun z => rfl
  have hlt : acc + d * 2 ^ (7 * i) < 18446744073709551616 := by
    by_cases e : i = 9
    · subst e
      have := Nat.mul_le_mul_right (2 ^ (7 * 9)) (h9 rfl)
      omega
    · have h1 : 2 ^ (7 * i) ≤ 2 ^ 56 := Nat.pow_le_pow_right (by decide) (by omega)
      have h2 : d * 2 ^ (7 * i) ≤ 127 * 2 ^ 56 := Nat.mul_le_mul (by omega) h1
      omega
  rw [hw, hw, hz]
  have e1 : (d : Int) % 18446744073709551616 = (d : Int) := by omega
  rw [e1]
  have e2 : (d : Int) * 2 ^ (7 * i) = ((d * 2 ^ (7 * i) : Nat) : Int) := by simp
  rw [e2]
  have e3 : ((d * 2 ^ (7 * i) : Nat) : Int) % 18446744073709551616 = ((d * 2 ^ (7 * i) : Nat) : Int) := by omega
  rw [e3]
  exact or_shift ha hlt
theorem acc_lt {acc i d : Nat} (ha : acc < 2 ^ (7 * i)) (hd : d < 128) : acc + d * 2 ^ (7 * i) < 2 ^ (7 * (i + 1)) := by
  rw [Wire.pow7]
  have : d * 2 ^ (7 * i) ≤ 127 * 2 ^ (7 * i) := Nat.mul_le_mul_right _ (by omega)
  omega
set_option maxHeartbeats 1000000 in
set_option maxRecDepth 10000 in
theorem number_ok (W : World) (g : Nat) (bs : Option Addr) (n q i0 : Nat) (l : List UInt8) (hb : W.heap[g]? = some (rdO (.slice bs n q) i0)) (hv : IsBytes W (.slice bs n q) l) (hoff : ∀ i wr, RdW W g (.slice bs n q) i wr → IsBytes wr (.slice bs n q) l) (hi : i0 ≤ l.length)
    (m k : Nat) (hd : Wire.dec (l.drop i0) = .ok (m, k)) :
    Calls Try.prog 51 #[.pointer (some ⟨g, 0, none⟩)] W fun e w' => e = .returned (.int .u64 m) ∧ RdW W g (.slice bs n q) (i0 + k) w' := by
  obtain ⟨_, _, e, hlen, hcap, -, -⟩ := hv.out
  cases e
  unfold maxLen at hcap
  go_enter Try.func51, Try.ntmps51
  go_wp2
  go_loopw [2, 3] (fun nv iv wr => ∃ i acc : Nat, i ≤ 9 ∧ nv = .int .u64 acc ∧ iv = .int .i64 i ∧ acc < 2 ^ (7 * i) ∧ i0 + i ≤ l.length ∧ Wire.decU (10 - i) i acc (l.drop (i0 + i)) = .ok (m, k) ∧ RdW W g (.slice bs l.length q) (i0 + i) wr) (fun _ iv _ => 10 - (intOf iv).toNat)
  case atStart => exact ⟨0, 0, by omega, rfl, rfl, by simp, by omega, hd, RdW.start hb⟩
  case round =>
    obtain ⟨i, acc, hi9, rfl, rfl, hacc, hil, hdec, hrd⟩ := hrel
    have i1 : (i : Int) < 10 := by omega
    have hd2 := hdec
    rw [show 10 - i = (9 - i) + 1 by omega] at hd2
    by_cases hend : i0 + i = l.length
    · rw [List.drop_of_length_le (by omega)] at hd2
      simp [Wire.decU] at hd2
    have hil2 : i0 + i < l.length := by omega
    rw [List.drop_eq_getElem_cons hil2] at hd2
    unfold Wire.decU at hd2
    have HD := Lib.hid hd2
    have HR := Lib.hid hrd
    clear hd2 hdec hrd
    go_wp2_with fail
    refine (take_ok _ g bs l.length q (i0 + i) 1 HR.out.blk (by omega) hlen (by omega)).mono ?_
    rintro e w1 ⟨rfl, hr1⟩
    replace hr1 := HR.out.trans hr1
    obtain ⟨_, _, e, -, -, -, hcell⟩ := (hoff _ _ hr1).out
    cases e
    obtain ⟨b, off, rfl, hc⟩ := hcell (i0 + i) hil2
    clear hcell
    obtain ⟨c, hcc⟩ : ∃ c, l[i0 + i] = c := ⟨_, rfl⟩
    rw [hcc] at hc
    have HCC := Lib.hid hcc
    clear hcc
    have hne1 : ¬ i0 + i + 1 = i0 + i := by omega
    rw [if_neg hne1]
    simp only [Option.map_some, Addr.add_lit]
    have ha := and127 c
    have hc256 := c.toNat_lt
    obtain ⟨d, hdd⟩ : ∃ d, c.toNat % 128 = d := ⟨_, rfl⟩
    rw [hdd] at ha
    have hd128 : d < 128 := by omega
    have HA := Lib.hid ha
    clear ha
    have hHD := HD.out
    rw [HCC.out, hdd] at hHD
    go_upto_region 6 with fail
    by_cases h128 : c.toNat < 128
    · rw [if_pos h128] at hHD
      have hdc : d = c.toNat := by omega
      by_cases hbad : (i = 9 ∧ 1 < c.toNat) ∨ (0 < i ∧ c.toNat = 0)
      · rw [if_pos hbad] at hHD; cases hHD
      · rw [if_neg hbad] at hHD
        have hm : m = acc + d * 2 ^ (7 * i) ∧ k = i + 1 := by cases hHD; exact ⟨rfl, rfl⟩
        clear hHD
        obtain ⟨rfl, rfl⟩ := hm
        rw [num_bits HA.out hacc hi9 hd128 (fun h => by omega)]
        have hR2 : RdW W g (Value.slice (some ⟨b, off, none⟩) l.length q) (i0 + (i + 1)) w1 := by rw [← Nat.add_assoc]; exact hr1
        have HR2 := Lib.hid hR2
        clear hR2 hr1 hc
        have j1 : (c.toNat : Int) < 128 := by omega
        by_cases e9 : i = 9
        · subst e9
          have j2 : ¬ 1 < (c.toNat : Int) := by omega
          have j3 : ((c.toNat : Int) == 0) = false := by simp; omega
          clear hbad h128 HA HD HCC hdd hdc
          go_wp2
          go_ret
          exact ⟨rfl, HR2.out⟩
        · have j2 : ((i : Int) == 9) = false := by simp; omega
          by_cases e0 : i = 0
          · subst e0
            clear hbad h128 HA HD HCC hdd hdc
            go_wp2
            go_ret
            exact ⟨rfl, HR2.out⟩
          · have j3 : (0 : Int) < (i : Int) := by omega
            have j4 : ((c.toNat : Int) == 0) = false := by simp; omega
            clear hbad h128 HA HD HCC hdd hdc
            go_wp2
            go_ret
            exact ⟨rfl, HR2.out⟩
    · rw [if_neg h128] at hHD
      have hi8 : i ≤ 8 := by
        rcases Nat.lt_or_ge i 9 with h | h
        · omega
        · exfalso
          rw [show 9 - i = 0 by omega] at hHD
          simp [Wire.decU] at hHD
      rw [num_bits HA.out hacc hi9 hd128 (fun h => by omega)]
      have j1 : ¬ (c.toNat : Int) < 128 := by omega
      have HH := Lib.hid hHD
      clear h128 hHD HA HD HCC hdd hc
      go_wp2
      go_roundw
      case rel => exact ⟨i + 1, acc + d * 2 ^ (7 * i), by omega, rfl, by go_num, acc_lt hacc hd128, by omega, by rw [show 10 - (i + 1) = 9 - i by omega, ← Nat.add_assoc]; exact HH.out, by rw [← Nat.add_assoc]; exact hr1⟩
      case measure => simp [intOf]; omega

set_option maxHeartbeats 1000000 in
set_option maxRecDepth 10000 in
theorem number_err (W : World) (g : Nat) (bs : Option Addr) (n q i0 : Nat) (l : List UInt8) (hb : W.heap[g]? = some (rdO (.slice bs n q) i0)) (hv : IsBytes W (.slice bs n q) l) (hoff : ∀ i wr, RdW W g (.slice bs n q) i wr → IsBytes wr (.slice bs n q) l) (hi : i0 ≤ l.length)
    (code : Int) (hd : Wire.dec (l.drop i0) = .error code) :
    Calls Try.prog 51 #[.pointer (some ⟨g, 0, none⟩)] W fun e w' => e = .panicked [errPanic code] ∧ ∃ j, RdW W g (.slice bs n q) j w' := by
  obtain ⟨_, _, e, hlen, hcap, -, -⟩ := hv.out
  cases e
  unfold maxLen at hcap
  go_enter Try.func51, Try.ntmps51
  go_wp2
  go_loopw [2, 3] (fun nv iv wr => ∃ (i : Nat) (z : Int), i ≤ 10 ∧ nv = .int .u64 z ∧ iv = .int .i64 i ∧ (i ≤ 9 → ∃ acc : Nat, z = acc ∧ acc < 2 ^ (7 * i) ∧ Wire.decU (10 - i) i acc (l.drop (i0 + i)) = .error code) ∧ (i = 10 → code = 3) ∧ i0 + i ≤ l.length ∧ RdW W g (.slice bs l.length q) (i0 + i) wr) (fun _ iv _ => 10 - (intOf iv).toNat)
  case atStart => exact ⟨0, 0, by omega, rfl, rfl, fun _ => ⟨0, rfl, by simp, hd⟩, fun h => by omega, by omega, RdW.start hb⟩
  case round =>
    obtain ⟨i, z, hi10, rfl, rfl, hst, h3, hil, hrd⟩ := hrel
    by_cases e10 : i = 10
    · subst e10
      obtain rfl := h3 rfl
      clear hst h3
      go_wp2
      exact ⟨rfl, rfl, _, hrd⟩
    obtain ⟨acc, rfl, hacc, hdec⟩ := hst (by omega)
    have hi9 : i ≤ 9 := by omega
    clear hst h3
    have i1 : (i : Int) < 10 := by omega
    have hd2 := hdec
    rw [show 10 - i = (9 - i) + 1 by omega] at hd2
    by_cases hend : i0 + i = l.length
    · rw [List.drop_of_length_le (by omega)] at hd2
      have hcode : code = 41 := by simpa [Wire.decU] using hd2.symm
      subst hcode
      clear hd2 hdec
      have HR := Lib.hid hrd
      clear hrd e10
      go_wp2_with fail
      refine (take_bad _ g bs l.length q (i0 + i) 1 HR.out.blk (by omega) hlen (by omega) (by omega)).mono ?_
      rintro e w1 ⟨rfl, hr1⟩
      go_wp2
      exact ⟨rfl, rfl, _, HR.out.trans hr1⟩
    have hil2 : i0 + i < l.length := by omega
    rw [List.drop_eq_getElem_cons hil2] at hd2
    unfold Wire.decU at hd2
    have HD := Lib.hid hd2
    have HR := Lib.hid hrd
    clear hd2 hdec hrd
    go_wp2_with fail
    refine (take_ok _ g bs l.length q (i0 + i) 1 HR.out.blk (by omega) hlen (by omega)).mono ?_
    rintro e w1 ⟨rfl, hr1⟩
    replace hr1 := HR.out.trans hr1
    obtain ⟨_, _, e, -, -, -, hcell⟩ := (hoff _ _ hr1).out
    cases e
    obtain ⟨b, off, rfl, hc⟩ := hcell (i0 + i) hil2
    clear hcell
    obtain ⟨c, hcc⟩ : ∃ c, l[i0 + i] = c := ⟨_, rfl⟩
    rw [hcc] at hc
    have HCC := Lib.hid hcc
    clear hcc
    have hne1 : ¬ i0 + i + 1 = i0 + i := by omega
    rw [if_neg hne1]
    simp only [Option.map_some, Addr.add_lit]
    have ha := and127 c
    have hc256 := c.toNat_lt
    obtain ⟨d, hdd⟩ : ∃ d, c.toNat % 128 = d := ⟨_, rfl⟩
    rw [hdd] at ha
    have hd128 : d < 128 := by omega
    have HA := Lib.hid ha
    clear ha
    have hHD := HD.out
    rw [HCC.out, hdd] at hHD
    have hR2 : RdW W g (Value.slice (some ⟨b, off, none⟩) l.length q) (i0 + (i + 1)) w1 := by rw [← Nat.add_assoc]; exact hr1
    have HR2 := Lib.hid hR2
    clear hR2 hr1
    go_upto_region 6 with fail
    clear hc
    by_cases h128 : c.toNat < 128
    · rw [if_pos h128] at hHD
      have j1 : (c.toNat : Int) < 128 := by omega
      by_cases hbad : (i = 9 ∧ 1 < c.toNat) ∨ (0 < i ∧ c.toNat = 0)
      · rw [if_pos hbad] at hHD
        have hcode : code = 3 := by cases hHD; rfl
        subst hcode
        generalize bits BinOp.or IntKind.u64 _ _ = z2
        by_cases e9 : i = 9
        · subst e9
          by_cases e1 : 1 < c.toNat
          · have j2 : 1 < (c.toNat : Int) := by omega
            clear hbad h128 HA HD HCC hdd hHD
            go_wp2
            exact ⟨rfl, rfl, _, HR2.out⟩
          · have j2 : ¬ 1 < (c.toNat : Int) := by omega
            have j3 : ((c.toNat : Int) == 0) = true := by simp; omega
            clear hbad h128 HA HD HCC hdd hHD e1
            go_wp2
            exact ⟨rfl, rfl, _, HR2.out⟩
        · have j2 : ((i : Int) == 9) = false := by simp; omega
          have j3 : (0 : Int) < (i : Int) := by omega
          have j4 : ((c.toNat : Int) == 0) = true := by simp; omega
          clear hbad h128 HA HD HCC hdd hHD
          go_wp2
          exact ⟨rfl, rfl, _, HR2.out⟩
      · rw [if_neg hbad] at hHD; cases hHD
    · rw [if_neg h128] at hHD
      have j1 : ¬ (c.toNat : Int) < 128 := by omega
      by_cases e9 : i = 9
      · have hcode : code = 3 := by
          rw [show 9 - i = 0 by omega] at hHD
          simpa [Wire.decU] using hHD.symm
        subst hcode
        generalize bits BinOp.or IntKind.u64 _ _ = z2
        clear h128 HA HD HCC hdd hHD
        go_wp2
        go_roundw
        case rel => exact ⟨i + 1, _, by omega, rfl, by go_num, fun h => by omega, fun _ => by trivial, by omega, HR2.out⟩
        case measure => simp [intOf]; omega
      · rw [num_bits HA.out hacc hi9 hd128 (fun h => by omega)]
        have HH := Lib.hid hHD
        clear h128 hHD HA HD HCC hdd
        go_wp2
        go_roundw
        case rel => exact ⟨i + 1, _, by omega, rfl, by go_num, fun _ => ⟨_, rfl, acc_lt hacc hd128, by rw [show 10 - (i + 1) = 9 - i by omega, ← Nat.add_assoc]; exact HH.out⟩, fun h => by omega, by omega, HR2.out⟩
        case measure => simp [intOf]; omega
end Go.Proofs.Ytfpkibfofainaaa
