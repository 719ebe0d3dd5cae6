/- The walks over package asofref03: Extend, Sum32, Group, Hash and Sample compute the same plain functions. -/
import Derived.Test.YtmjanlgcindfpaaSum
import Derived.Test.YtmjanlgcindfpaaHash
namespace Go.Proofs.Ytmjanlgcindfpaa
open Go.RowKit

theorem xor32b (r : BitVec 32) (x : UInt8) : bits .xor .u32 (r.toNat : Int) (x.toNat : Int) = ((r ^^^ x.toBitVec.setWidth 32).toNat : Int) := by
  have h : (x.toNat : Int) = (((x.toBitVec.setWidth 32).toNat : Nat) : Int) := by
    rw [BitVec.toNat_setWidth]
    have := x.toNat_lt
    show (x.toNat : Int) = ((x.toNat % 2 ^ 32 : Nat) : Int)
    omega
  rw [h, xor32]
theorem odd_yes {r : BitVec 32} (h : ((r.toNat : Int) % 2 == 1) = true) : bits .xor .u32 ((r.toNat : Int) / 2) 3988292384 = ((Crc.rnd r).toNat : Int) := by
  refine rnd_yes ?_
  rw [low32, decide_eq_true_eq, ← BitVec.toNat_inj, BitVec.toNat_and]
  rw [beq_iff_eq] at h
  show r.toNat &&& 1 = 1
  rw [nat_mask1]; omega
theorem odd_no {r : BitVec 32} (h : ((r.toNat : Int) % 2 == 1) = false) : (r.toNat : Int) / 2 = ((Crc.rnd r).toNat : Int) := by
  refine rnd_no ?_
  rw [low32, decide_eq_false_iff_not, ← BitVec.toNat_inj, BitVec.toNat_and]
  rw [beq_eq_false_iff_ne] at h
  show ¬ r.toNat &&& 1 = 1
  rw [nat_mask1]; omega

set_option maxHeartbeats 400000 in
theorem refExtend_any (s : BitVec 32) (v : Value) (l : List UInt8) (w : World) (hv : IsBytes w v l) :
    Calls Try.prog 15 #[.int .u32 (s.toNat : Int), v] w fun e w' => e = .returned (.int .u32 ((Crc.ext s l).toNat : Int)) ∧ w = w' := by
  obtain ⟨base, cap, rfl, hlen, hcap, hnil, hcell⟩ := hv.out
  clear hv
  unfold maxLen at hcap
  have HB := Lib.hid hcell
  clear hcell hnil
  go_enter Try.func15, Try.ntmps15
  go_wp2
  rw [not32]
  go_loop [5, 6] (fun r c => ∃ k : Nat, k ≤ l.length ∧ c = .int .i64 k ∧ r = .int .u32 ((Crc.run (~~~s) (l.take k)).toNat : Int)) (fun _ c => l.length - (intOf c).toNat)
  case atStart => exact ⟨0, by omega, rfl, rfl⟩
  case round =>
    obtain ⟨k, hk, rfl, rfl⟩ := hrel
    by_cases hlt : k < l.length
    · obtain ⟨b, off, rfl, hx⟩ := HB.out k hlt
      generalize hr : Crc.run (~~~s) (l.take k) = r
      have HR := Lib.hid hr
      clear hr
      have hx8 := l[k].toNat_lt
      go_wp2
      rw [xor32b]
      go_loop [5, 7] (fun q c => ∃ j : Nat, j ≤ 8 ∧ c = .int .i64 j ∧ q = .int .u32 ((Crc.rnds j (r ^^^ l[k].toBitVec.setWidth 32)).toNat : Int)) (fun _ c => 8 - (intOf c).toNat)
      case atStart => exact ⟨0, by omega, rfl, rfl⟩
      case round =>
        obtain ⟨j, hj, rfl, rfl⟩ := hrel
        by_cases hj8 : j < 8
        · generalize hq : Crc.rnds j (r ^^^ l[k].toBitVec.setWidth 32) = q
          have HQ := Lib.hid hq
          clear hq
          generalize r ^^^ l[k].toBitVec.setWidth 32 = r' at *
          go_wp2
          · go_round
            case rel => exact ⟨j + 1, by omega, by go_num, by rw [odd_yes ‹_›, ← HQ.out]; rfl⟩
            case measure => simp [intOf]; omega
          · go_round
            case rel => exact ⟨j + 1, by omega, by go_num, by rw [odd_no ‹_›, ← HQ.out]; rfl⟩
            case measure => simp [intOf]; omega
        · obtain rfl : j = 8 := by omega
          rw [Crc.step_rnds]
          go_wp2
          go_round
          case rel => exact ⟨k + 1, by omega, by go_num, by rw [run_snoc _ _ _ hlt, HR.out]⟩
          case measure => simp [intOf]; omega
    · obtain rfl : k = l.length := by omega
      rw [List.take_length]
      go_wp2
      go_ret
      exact ⟨congrArg (fun n => Ending.returned (.int .u32 n)) (not32 (Crc.run (~~~s) l)), rfl⟩

set_option maxHeartbeats 400000 in
theorem refSum32_any (v : Value) (l : List UInt8) (w : World) (hv : IsBytes w v l) :
    Calls Try.prog 13 #[v] w fun e w' => e = .returned (.int .u32 ((Crc.ext 0#32 l).toNat : Int)) ∧ w = w' := by
  go_enter Try.func13, Try.ntmps13
  go_wp2_with (go_at_call 15; refine (refExtend_any 0#32 v l _ hv).mono ?_; rintro e w1 ⟨rfl, rfl⟩)
  go_ret
  exact ⟨rfl, rfl⟩

theorem drop_take_cons (l : List UInt8) (i q : Nat) (h : i + q < l.length) (hq : q < 8) : ((l.drop i).take 8).drop q = l[i + q] :: ((l.drop i).take 8).drop (q + 1) := by
  rw [List.drop_eq_getElem_cons (by simp; omega)]
  congr 1
  simp

theorem horner_bits (g : BitVec 64) (x : UInt8) : IntKind.u64.wrap (IntKind.u64.wrap ((g.toNat : Int) * 256) + (x.toNat : Int)) = ((g * 256#64 + x.toBitVec.setWidth 64).toNat : Int) := by
  rw [mul64 g 256#64 256 rfl]
  refine add64 _ _ _ ?_
  rw [BitVec.toNat_setWidth]
  have := x.toNat_lt
  show (x.toNat : Int) = ((x.toNat % 2 ^ 64 : Nat) : Int)
  omega
theorem refMix_hid (x : BitVec 64) (w : World) :
    Calls Try.prog 22 #[.int .u64 (x.toNat : Int)] w fun e w' => ∃ m : BitVec 64, e = .returned (.int .u64 (m.toNat : Int)) ∧ Hid (m = Crc.mix x) ∧ w = w' :=
  (refMix_any x w).mono fun _ _ ⟨h1, h2⟩ => ⟨Crc.mix x, h1, rfl, h2⟩

set_option maxHeartbeats 400000 in
theorem refGroup_any (v : Value) (l : List UInt8) (i : Nat) (w : World) (hv : IsBytes w v l) (hs : l.length ≤ 140737488355328) (hi : i ≤ l.length) :
    Calls Try.prog 23 #[v, .int .i64 i] w fun e w' => ∃ m : BitVec 64, e = .returned (.int .u64 (m.toNat : Int)) ∧ Hid (m = Crc.grp ((l.drop i).take 8)) ∧ w = w' := by
  obtain ⟨base, cap, rfl, hlen, hcap, hnil, hcell⟩ := hv.out
  clear hv
  unfold maxLen at hcap
  have HB := Lib.hid hcell
  clear hcell hnil
  go_enter Try.func23, Try.ntmps23
  go_wp2
  go_loop [5, 6] (fun g c => ∃ (q : Nat) (m : BitVec 64), q ≤ 8 ∧ c = .int .i64 ((q : Int) - 1) ∧ g = .int .u64 (m.toNat : Int) ∧ m = Crc.grp (((l.drop i).take 8).drop q)) (fun _ c => (intOf c + 1).toNat)
  case atStart => exact ⟨8, 0#64, by omega, rfl, rfl, by rw [List.drop_eq_nil_of_le (List.length_take_le _ _)]; rfl⟩
  case round =>
    obtain ⟨q, m, hq, rfl, rfl, hm⟩ := hrel
    have HM := Lib.hid hm
    clear hm
    cases q with
    | zero =>
      go_wp2
      go_ret
      exact ⟨m, rfl, HM.out, rfl⟩
    | succ q =>
      have e : ((q + 1 : Nat) : Int) - 1 = (q : Int) := by omega
      rw [e]
      clear e
      by_cases hlt : i + q < l.length
      · obtain ⟨b, off, rfl, hx⟩ := HB.out (i + q) hlt
        have hx8 := l[i + q].toNat_lt
        go_wp2
        go_round
        case rel => exact ⟨q, _, by omega, rfl, congrArg _ (horner_bits m l[i + q]), by rw [HM.out, drop_take_cons l i q hlt (by omega), Crc.grp_horner]⟩
        case measure => simp [intOf]
      · go_wp2
        go_round
        case rel => exact ⟨q, 0#64, by omega, rfl, by rw [HM.out, List.drop_eq_nil_of_le (by simp; omega)]; rfl, by rw [List.drop_eq_nil_of_le (by simp; omega)]; rfl⟩
        case measure => simp [intOf]

set_option maxHeartbeats 400000 in
theorem refHash_any (seed : BitVec 64) (v : Value) (l : List UInt8) (w : World) (hv : IsBytes w v l) (hs : l.length ≤ 140737488355328) :
    Calls Try.prog 17 #[.int .u64 (seed.toNat : Int), v] w fun e w' => e = .returned (.int .u64 ((Crc.hash seed l).toNat : Int)) ∧ w = w' := by
  obtain ⟨base, cap, rfl, hlen, hcap, hnil, hcell⟩ := hv.out
  unfold maxLen at hcap
  have HV := Lib.hid hv
  clear hcell hnil hv
  obtain ⟨h0, hh0⟩ : ∃ h0, h0 = Crc.hash0 seed l := ⟨_, rfl⟩
  have H0 := Lib.hid hh0
  go_enter Try.func17, Try.ntmps17
  go_wp2
  rw [hash0_eq, ← hh0]
  generalize IntKind.u64.wrap ((l.length : Int) * 11400714819323198485) = z13
  clear hh0
  go_loop [5, 6] (fun h c => ∃ (k : Nat) (hk : BitVec 64), 8 * k ≤ l.length + 7 ∧ c = .int .i64 ((8 * k : Nat) : Int) ∧ h = .int .u64 (hk.toNat : Int) ∧ hk = Crc.hashTo h0 l k) (fun _ c => l.length + 8 - (intOf c).toNat)
  case atStart => exact ⟨0, h0, by omega, rfl, rfl, rfl⟩
  case round =>
    obtain ⟨k, hk, hkl, rfl, rfl, hhk⟩ := hrel
    have HH := Lib.hid hhk
    clear hhk
    generalize hi : 8 * k = i at *
    by_cases hlt : i < l.length
    · have HI := Lib.hid hi
      clear hi
      go_wp2_with (go_at_call 23; refine (refGroup_any _ l i _ HV.out hs (by omega)).mono ?_; rintro e w1 ⟨g, rfl, Hg, rfl⟩)
      rw [xor64, add64g]
      refine (refMix_hid _ _).mono ?_
      rintro e w' ⟨m, rfl, Hm, rfl⟩
      have HM : m = Crc.hashTo h0 l (k + 1) := by
        rw [Hm.out, Crc.hashTo, ← HH.out, HI.out, Hg.out]
      replace HM := Lib.hid HM
      clear Hm
      generalize (hk ^^^ g) + Crc.golden = z at *
      go_wp2_with fail
      go_round
      case rel => have h1 := HI.out; exact ⟨k + 1, m, by omega, by go_num, rfl, HM.out⟩
      case measure => simp [intOf]; omega
    · have HI := Lib.hid hi
      clear hi
      go_wp2_with (go_at_call 22; refine (refMix_hid _ _).mono ?_; rintro e w' ⟨m, rfl, Hm, rfl⟩)
      go_ret
      have hk8 : k = (l.length + 7) / 8 := by have := HI.out; omega
      exact ⟨congrArg (fun m : BitVec 64 => Ending.returned (.int .u64 (m.toNat : Int))) (by rw [Hm.out, HH.out, H0.out, hk8]; rfl), rfl⟩

set_option maxHeartbeats 400000 in
theorem refSample_any (seed : Int) (v : Value) (l : List UInt8) (p : Int) (w : World) (hv : IsBytes w v l) (hs : l.length ≤ 140737488355328) :
    Calls Try.prog 19 #[.int .i64 seed, v, .int .i64 p] w fun e w' => e = .returned (.bool (decide ((((Crc.hash (BitVec.ofInt 64 seed) l).toNat : Int) % 1000) < p))) ∧ w = w' := by
  have h := Lib.hid (refHash_any (BitVec.ofInt 64 seed) v l w hv hs)
  go_enter Try.func19, Try.ntmps19
  go_wp2_with (go_at_call 17; rw [wrap_ofInt]; refine h.out.mono ?_; rintro e w' ⟨rfl, rfl⟩)
  go_ret
  exact ⟨rfl, rfl⟩

end Go.Proofs.Ytmjanlgcindfpaa
