/- The walks over package checksum: mix, Hash and Sample. -/
import Derived.Test.YtmjanlgcindfpaaChecked
import Derived.Test.YtmjanlgcindfpaaCrc
import Derived.Test.YtmjanlgcindfpaaMem
namespace Go.Proofs.Ytmjanlgcindfpaa
open Go.RowKit

theorem xor64 (x y : BitVec 64) : bits .xor .u64 (x.toNat : Int) (y.toNat : Int) = ((x ^^^ y).toNat : Int) := by
  rw [BitVec.toNat_xor]; exact u64_xor_nat _ _ (by omega) (by omega)
theorem or64 (x y : BitVec 64) : bits .or .u64 (x.toNat : Int) (y.toNat : Int) = ((x ||| y).toNat : Int) := by
  rw [BitVec.toNat_or]; exact u64_or_nat _ _ (by omega) (by omega)

theorem shr64 (x : BitVec 64) (n : Nat) (c : Int) (h : c = ((2 ^ n : Nat) : Int)) : (x.toNat : Int) / c = (((x >>> n).toNat : Nat) : Int) := by
  rw [h, BitVec.toNat_ushiftRight, Nat.shiftRight_eq_div_pow]; rfl
theorem wrap_u64 (n : Int) : IntKind.u64.wrap n = n % 18446744073709551616 := by simp [IntKind.wrap, IntKind.bits, IntKind.signed]
theorem mul64 (x y : BitVec 64) (c : Int) (h : c = (y.toNat : Int)) : IntKind.u64.wrap ((x.toNat : Int) * c) = ((x * y).toNat : Int) := by
  rw [h, wrap_u64, BitVec.toNat_mul]; rfl
theorem add64 (x y : BitVec 64) (c : Int) (h : c = (y.toNat : Int)) : IntKind.u64.wrap ((x.toNat : Int) + c) = ((x + y).toNat : Int) := by
  rw [h, wrap_u64, BitVec.toNat_add]; rfl
/-- What the machine reckons is the mixing. -/
theorem mix_eq (x : BitVec 64) : bits .xor .u64 (IntKind.u64.wrap (bits .xor .u64 (IntKind.u64.wrap (bits .xor .u64 (x.toNat : Int) ((x.toNat : Int) / 1073741824) * 13787848793156543929)) (IntKind.u64.wrap (bits .xor .u64 (x.toNat : Int) ((x.toNat : Int) / 1073741824) * 13787848793156543929) / 134217728) * 10723151780598845931))
    (IntKind.u64.wrap (bits .xor .u64 (IntKind.u64.wrap (bits .xor .u64 (x.toNat : Int) ((x.toNat : Int) / 1073741824) * 13787848793156543929)) (IntKind.u64.wrap (bits .xor .u64 (x.toNat : Int) ((x.toNat : Int) / 1073741824) * 13787848793156543929) / 134217728) * 10723151780598845931) / 2147483648) = ((Crc.mix x).toNat : Int) := by
  rw [shr64 x 30 1073741824 rfl, xor64, mul64 _ 0xbf58476d1ce4e5b9#64 13787848793156543929 rfl, shr64 _ 27 134217728 rfl, xor64, mul64 _ 0x94d049bb133111eb#64 10723151780598845931 rfl, shr64 _ 31 2147483648 rfl, xor64]
  rfl

set_option maxHeartbeats 400000 in
theorem mix_any (x : BitVec 64) (w : World) :
    Calls Try.prog 21 #[.int .u64 (x.toNat : Int)] w fun e w' => e = .returned (.int .u64 ((Crc.mix x).toNat : Int)) ∧ w = w' := by
  go_enter Try.func21, Try.ntmps21
  go_wp2
  go_ret
  exact ⟨congrArg (fun n => Ending.returned (.int .u64 n)) (mix_eq x), rfl⟩

/-- The same, the outcome under a name: the walk does not look into it. -/
theorem mix_hid (x : BitVec 64) (w : World) :
    Calls Try.prog 21 #[.int .u64 (x.toNat : Int)] w fun e w' => ∃ m : BitVec 64, e = .returned (.int .u64 (m.toNat : Int)) ∧ Hid (m = Crc.mix x) ∧ w = w' :=
  (mix_any x w).mono fun _ _ ⟨h1, h2⟩ => ⟨Crc.mix x, h1, rfl, h2⟩

set_option maxHeartbeats 400000 in
theorem refMix_any (x : BitVec 64) (w : World) :
    Calls Try.prog 22 #[.int .u64 (x.toNat : Int)] w fun e w' => e = .returned (.int .u64 ((Crc.mix x).toNat : Int)) ∧ w = w' := by
  go_enter Try.func22, Try.ntmps22
  go_wp2
  go_ret
  exact ⟨congrArg (fun n => Ending.returned (.int .u64 n)) (mix_eq x), rfl⟩

theorem hash0_eq (seed : BitVec 64) (l : List UInt8) : bits .xor .u64 (seed.toNat : Int) (IntKind.u64.wrap ((l.length : Int) * 11400714819323198485)) = ((Crc.hash0 seed l).toNat : Int) := by
  have h : IntKind.u64.wrap ((l.length : Int) * 11400714819323198485) = ((BitVec.ofNat 64 l.length * Crc.golden).toNat : Int) := by
    rw [wrap_u64, BitVec.toNat_mul, BitVec.toNat_ofNat]
    show _ = (((l.length % 18446744073709551616) * 11400714819323198485 % 18446744073709551616 : Nat) : Int)
    omega
  rw [h, xor64]; rfl
theorem add64g (x : BitVec 64) : IntKind.u64.wrap ((x.toNat : Int) + 11400714819323198485) = ((x + Crc.golden).toNat : Int) := add64 x 0x9e3779b97f4a7c15#64 11400714819323198485 rfl
theorem grp_bits (g : BitVec 64) (x : UInt8) (j : Nat) : bits .or .u64 (g.toNat : Int) (IntKind.u64.wrap ((x.toNat : Int) * 2 ^ (8 * j))) = ((g ||| ((x.toBitVec.setWidth 64) <<< (8 * j))).toNat : Int) := by
  have h : IntKind.u64.wrap ((x.toNat : Int) * 2 ^ (8 * j)) = (((x.toBitVec.setWidth 64) <<< (8 * j)).toNat : Int) := by
    rw [wrap_u64, BitVec.toNat_shiftLeft, BitVec.toNat_setWidth, Nat.shiftLeft_eq]
    have : x.toBitVec.toNat % 2 ^ 64 = x.toNat := Nat.mod_eq_of_lt (by have := x.toNat_lt; show x.toNat < _; omega)
    rw [this, Int.natCast_emod, Int.natCast_mul, Int.natCast_pow]; rfl
  rw [h, or64]
theorem grp_take (l : List UInt8) (j : Nat) (h : j < l.length) : Crc.grp (l.take (j + 1)) = Crc.grp (l.take j) ||| ((l[j].toBitVec.setWidth 64) <<< (8 * j)) := by
  rw [List.take_succ_eq_append_getElem h, Crc.grp_snoc, List.length_take, Nat.min_eq_left (Nat.le_of_lt h)]
theorem byte_rows : (Try.prog.info? 5).map (·.size) = some 1 := by kernel_rfl
def lenV : Value → Nat | .slice _ n _ => n | _ => 0

set_option maxHeartbeats 400000 in
theorem hash_any (seed : BitVec 64) (v : Value) (l : List UInt8) (w : World) (hv : IsBytes w v l) :
    Calls Try.prog 16 #[.int .u64 (seed.toNat : Int), v] w fun e w' => e = .returned (.int .u64 ((Crc.hash seed l).toNat : Int)) ∧ w = w' := by
  obtain ⟨base, cap, rfl, hlen, hcap, hnil, hcell⟩ := hv.out
  have hcap : cap ≤ 9223372036854775807 := hcap
  have HV := Lib.hid hv
  clear hcell hnil hv
  go_enter Try.func16, Try.ntmps16
  obtain ⟨h0, hh0⟩ : ∃ h0, h0 = Crc.hash0 seed l := ⟨_, rfl⟩
  have H0 := Lib.hid hh0
  go_wp2
  rw [hash0_eq, ← hh0]
  generalize IntKind.u64.wrap ((l.length : Int) * 11400714819323198485) = z13
  clear hh0
  go_loop [1, 4] (fun b h => ∃ (k : Nat) (hk : BitVec 64), 8 * k ≤ l.length + 7 ∧ IsBytes w b (l.drop (8 * k)) ∧ h = .int .u64 (hk.toNat : Int) ∧ hk = Crc.hashTo h0 l k) (fun b _ => lenV b)
  case atStart => exact ⟨0, h0, by omega, HV.out, rfl, rfl⟩
  case round =>
    obtain ⟨k, hk, hkl, hvk, rfl, hhk⟩ := hrel
    have HH := Lib.hid hhk
    clear hhk
    obtain ⟨l', hl'⟩ : ∃ l', l' = l.drop (8 * k) := ⟨_, rfl⟩
    have hll : l'.length = l.length - 8 * k := by rw [hl', List.length_drop]
    rw [← hl'] at hvk
    have HL := Lib.hid hl'
    clear hl'
    obtain ⟨base', cap', rfl, hlen', hcap', hnil', hcell'⟩ := hvk.out
    have hcap' : cap' ≤ 9223372036854775807 := hcap'
    have HK := Lib.hid hvk
    have HLL := Lib.hid hll
    clear hvk hll
    by_cases hpos : 0 < l'.length
    · obtain ⟨b, off, rfl, -⟩ := hcell' 0 hpos
      have HC := Lib.hid hcell'
      clear hcell' hnil'
      by_cases h8 : 8 ≤ l'.length
      · go_wp2
        go_loop [6, 25] (fun g c => ∃ (j : Nat) (gj : BitVec 64), j ≤ 8 ∧ c = .int .i64 j ∧ g = .int .u64 (gj.toNat : Int) ∧ gj = Crc.grp (l'.take j)) (fun _ c => 8 - (intOf c).toNat)
        case atStart => exact ⟨0, 0#64, by omega, rfl, rfl, rfl⟩
        case round =>
          obtain ⟨j, gj, hj, rfl, rfl, hgj⟩ := hrel
          have HG := Lib.hid hgj
          clear hgj
          by_cases hlt : j < 8
          · obtain ⟨b', off', hbo, hx⟩ := HC.out j (by omega)
            simp only [Option.some.injEq, Addr.mk.injEq, and_true] at hbo
            obtain ⟨rfl, rfl⟩ := hbo
            have hx8 := l'[j].toNat_lt
            go_wp2
            go_round
            case rel => exact ⟨j + 1, _, by omega, by go_num, congrArg _ (grp_bits gj l'[j] j), by rw [HG.out]; exact (grp_take l' j (by omega)).symm⟩
            case measure => simp [intOf]; omega
          · obtain rfl : j = 8 := by omega
            go_wp2_with fail
            rw [xor64, add64g]
            refine (mix_hid _ _).mono ?_
            rintro e w' ⟨m, rfl, Hm, rfl⟩
            have HM : Hid (m = Crc.hashTo h0 l (k + 1)) := by
              rw [Hm.out, Crc.hashTo, ← HH.out, ← HL.out, HG.out]; rfl
            clear Hm
            generalize (hk ^^^ gj) + Crc.golden = z at *
            go_wp2_with fail
            go_roundw
            case rel =>
              have h1 := HLL.out
              exact ⟨k + 1, m, by omega, by have h2 := IsBytes.drop HK.out 8 h8; rw [HL.out, List.drop_drop, ← HL.out] at h2; exact h2, rfl, HM.out⟩
            case measure => simp only [lenV]; omega
      · go_wp2
        go_loop [6, 25] (fun g c => ∃ (j : Nat) (gj : BitVec 64), j ≤ l'.length ∧ c = .int .i64 j ∧ g = .int .u64 (gj.toNat : Int) ∧ gj = Crc.grp (l'.take j)) (fun _ c => l'.length - (intOf c).toNat)
        case atStart => exact ⟨0, 0#64, by omega, rfl, rfl, rfl⟩
        case round =>
          obtain ⟨j, gj, hj, rfl, rfl, hgj⟩ := hrel
          have HG := Lib.hid hgj
          clear hgj
          by_cases hlt : j < l'.length
          · obtain ⟨b', off', hbo, hx⟩ := HC.out j hlt
            simp only [Option.some.injEq, Addr.mk.injEq, and_true] at hbo
            obtain ⟨rfl, rfl⟩ := hbo
            have hx8 := l'[j].toNat_lt
            go_wp2
            go_round
            case rel => exact ⟨j + 1, _, by omega, by go_num, congrArg _ (grp_bits gj l'[j] j), by rw [HG.out]; exact (grp_take l' j (by omega)).symm⟩
            case measure => simp [intOf]; omega
          · obtain rfl : j = l'.length := by omega
            go_wp2_with fail
            rw [xor64, add64g]
            refine (mix_hid _ _).mono ?_
            rintro e w' ⟨m, rfl, Hm, rfl⟩
            have HM : Hid (m = Crc.hashTo h0 l (k + 1)) := by
              rw [Hm.out, Crc.hashTo, ← HH.out, ← HL.out, HG.out, List.take_length, List.take_of_length_le (by omega)]; rfl
            clear Hm
            generalize (hk ^^^ gj) + Crc.golden = z at *
            go_wp2_with fail
            go_roundw
            case rel =>
              have h1 := HLL.out
              exact ⟨k + 1, m, by omega, by have h2 := IsBytes.drop HK.out l'.length (Nat.le_refl _); rw [List.drop_eq_nil_of_le (Nat.le_refl _), Nat.sub_self] at h2; rw [List.drop_eq_nil_of_le (by omega)]; exact h2, rfl, HM.out⟩
            case measure => simp only [lenV]; omega
    · go_wp2_with (go_at_call 21; refine (mix_hid _ _).mono ?_; rintro e w' ⟨m, rfl, Hm, rfl⟩)
      go_ret
      have hk8 : k = (l.length + 7) / 8 := by have := HLL.out; omega
      exact ⟨congrArg (fun m : BitVec 64 => Ending.returned (.int .u64 (m.toNat : Int))) (by rw [Hm.out, HH.out, H0.out, hk8]; rfl), rfl⟩

theorem wrap_ofInt (n : Int) : IntKind.u64.wrap n = ((BitVec.ofInt 64 n).toNat : Int) := by
  rw [wrap_u64, BitVec.toNat_ofInt]
  exact (Int.toNat_of_nonneg (by omega)).symm

set_option maxHeartbeats 400000 in
theorem sample_any (seed : Int) (v : Value) (l : List UInt8) (p : Int) (w : World) (hv : IsBytes w v l) :
    Calls Try.prog 18 #[.int .i64 seed, v, .int .i64 p] w fun e w' => e = .returned (.bool (decide ((((Crc.hash (BitVec.ofInt 64 seed) l).toNat : Int) % 1000) < p))) ∧ w = w' := by
  have h := Lib.hid (hash_any (BitVec.ofInt 64 seed) v l w hv)
  go_enter Try.func18, Try.ntmps18
  go_wp2_with (go_at_call 16; rw [wrap_ofInt]; refine h.out.mono ?_; rintro e w' ⟨rfl, rfl⟩)
  go_ret
  exact ⟨rfl, rfl⟩

end Go.Proofs.Ytmjanlgcindfpaa
