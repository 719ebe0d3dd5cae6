/- Bits inverted in one sector of a batch: the plain law. -/
import Derived.Test.YtnfgapdpnihicaaZLy31
import Derived.Test.YtnfgapdpnihicaaZFeed
import Derived.Laws.BitsAllLaws
set_option linter.unusedVariables false
namespace Go.Proofs.Ytnfgapdpnihicaa
open Go Go.RowKit
namespace Crc
/-- The bytes with bits inverted from a place on, below a limit, up to a number of them. -/
def flipE (n : Nat) (l : List UInt8) (f bits : Nat) : Nat → List UInt8
  | 0 => l
  | k + 1 => if bits.testBit k = true ∧ f + k < n then (flipE n l f bits k).set ((f + k) / 8) ((flipE n l f bits k).getD ((f + k) / 8) 0 ^^^ UInt8.ofNat (2 ^ ((f + k) % 8))) else flipE n l f bits k
theorem flipE_length (n : Nat) (l : List UInt8) (f bits k : Nat) : (flipE n l f bits k).length = l.length := by
  induction k with
  | zero => rfl
  | succ k ih => rw [flipE]; split <;> simp [ih]
theorem num_flipE {n : Nat} {l : List UInt8} (hn : n ≤ 8 * l.length) (f bits k : Nat) : num (flipE n l f bits k) = num l ^^^ (2 ^ f * maskTo n f bits k) := by
  induction k with
  | zero => simp [flipE, maskTo]
  | succ k ih =>
    rw [flipE, maskTo]
    split
    · rename_i h
      have hlt : (f + k) / 8 < (flipE n l f bits k).length := by rw [flipE_length]; omega
      have hg : (flipE n l f bits k).getD ((f + k) / 8) 0 = (flipE n l f bits k)[(f + k) / 8] := by
        rw [List.getD_eq_getElem?_getD, List.getElem?_eq_getElem hlt]; rfl
      have hp : (UInt8.ofNat (2 ^ ((f + k) % 8))).toNat = 2 ^ ((f + k) % 8) := by
        rw [UInt8.toNat_ofNat']
        exact Nat.mod_eq_of_lt (Nat.pow_lt_pow_right (by decide) (by omega))
      rw [hg, num_set _ _ _ hlt, ih, hp, ← Nat.pow_add, show 8 * ((f + k) / 8) + (f + k) % 8 = f + k from by omega, Nat.pow_add, Nat.xor_assoc]
      congr 1
      apply Nat.eq_of_testBit_eq
      intro i
      simp only [Nat.testBit_xor]
      rw [← Nat.pow_add, ← Nat.mul_one (2 ^ (f + k)), Nat.pow_add, Nat.mul_assoc, Nat.mul_one]
      simp only [Nat.testBit_two_pow_mul, Nat.testBit_xor]
      by_cases hi : f ≤ i
      · simp [hi]
      · simp [hi]
    · exact ih
theorem flipE_none {n f bits : Nat} (l : List UInt8) : ∀ {k : Nat}, maskTo n f bits k = 0 → flipE n l f bits k = l
  | 0, _ => rfl
  | k + 1, h => by
    obtain ⟨h1, h2⟩ := (maskTo_zero n f bits k).1 h
    rw [flipE, if_neg h2, flipE_none l h1]
theorem maskTo_shift (d n f bits : Nat) : ∀ k, maskTo (d + n) (d + f) bits k = maskTo n f bits k
  | 0 => rfl
  | k + 1 => by
    rw [maskTo, maskTo, maskTo_shift d n f bits k]
    by_cases h : bits.testBit k = true ∧ f + k < n
    · rw [if_pos h, if_pos ⟨h.1, by omega⟩]
    · rw [if_neg h, if_neg (fun h1 => h ⟨h1.1, by omega⟩)]
theorem flipE_left (A S : List UInt8) (n f bits : Nat) : ∀ k, flipE (8 * A.length + n) (A ++ S) (8 * A.length + f) bits k = A ++ flipE n S f bits k
  | 0 => rfl
  | k + 1 => by
    rw [flipE, flipE, flipE_left A S n f bits k]
    by_cases h : bits.testBit k = true ∧ f + k < n
    · rw [if_pos h, if_pos ⟨h.1, by omega⟩, show (8 * A.length + f + k) / 8 = A.length + (f + k) / 8 by omega, show (8 * A.length + f + k) % 8 = (f + k) % 8 by omega, List.set_append_right _ _ (by omega), List.getD_eq_getElem?_getD, List.getElem?_append_right (by omega), Nat.add_sub_cancel_left, List.getD_eq_getElem?_getD]
    · rw [if_neg h, if_neg (fun h1 => h ⟨h1.1, by omega⟩)]
theorem flipE_right (S R : List UInt8) {n : Nat} (hn : n ≤ 8 * S.length) (f bits : Nat) : ∀ k, flipE n (S ++ R) f bits k = flipE n S f bits k ++ R
  | 0 => rfl
  | k + 1 => by
    rw [flipE, flipE, flipE_right S R hn f bits k]
    by_cases h : bits.testBit k = true ∧ f + k < n
    · have hl : (f + k) / 8 < (flipE n S f bits k).length := by rw [flipE_length]; omega
      rw [if_pos h, if_pos h, List.set_append_left _ _ hl, List.getD_eq_getElem?_getD, List.getElem?_append_left hl, List.getD_eq_getElem?_getD]
    · rw [if_neg h, if_neg h]
theorem ext_flipE (s : BitVec 32) {l : List UInt8} {n f bits : Nat} (hf : f ≤ n) (hn : n ≤ 8 * l.length) : ext s (flipE n l f bits 32) = ext s l ↔ maskTo n f bits 32 = 0 :=
  ext_detects s l _ f _ (flipE_length _ _ _ _ _) (by omega) (maskTo_lt _ _ _ _) (Nat.lt_of_lt_of_le (maskTo_in _ _ _ _ hf) (Nat.pow_le_pow_right (by decide) (by omega))) (num_flipE hn _ _ _)
theorem flipE_ne {l : List UInt8} {n f bits : Nat} (hf : f ≤ n) (hn : n ≤ 8 * l.length) (h : maskTo n f bits 32 ≠ 0) : flipE n l f bits 32 ≠ l := fun e => h ((ext_flipE 0#32 hf hn).1 (by rw [e]))
end Crc
theorem sum4_bytes (r : BitVec 32) : ∃ y0 y1 y2 y3 : UInt8, sum4 r = [y0, y1, y2, y3] ∧ (r.toNat : Int) % 256 = (y0.toNat : Int) ∧ (r.toNat : Int) / 256 % 256 = (y1.toNat : Int) ∧ (r.toNat : Int) / 65536 % 256 = (y2.toNat : Int) ∧ (r.toNat : Int) / 16777216 = (y3.toNat : Int) := by
  have hr := r.isLt
  refine ⟨_, _, _, _, rfl, ?_, ?_, ?_, ?_⟩ <;> rw [Wire.byte_lo (by omega)] <;> omega
theorem sum4_inj {a b : BitVec 32} (h : sum4 a = sum4 b) : a = b := by
  have ha := a.isLt
  have hb := b.isLt
  obtain ⟨y0, y1, y2, y3, e, z0, z1, z2, z3⟩ := sum4_bytes a
  obtain ⟨x0, x1, x2, x3, e', t0, t1, t2, t3⟩ := sum4_bytes b
  rw [e, e'] at h
  simp only [List.cons.injEq, and_true] at h
  obtain ⟨rfl, rfl, rfl, rfl⟩ := h
  exact BitVec.eq_of_toNat_eq (by omega)
namespace Wl
/-- The first byte of the stream that a sector holds, and how many it holds. -/
def base (q : Nat) : Nat := if q = 0 then 0 else 127 + 128 * (q - 1)
def roof (q : Nat) : Nat := if q = 0 then 127 else 128
theorem place_low {i q : Nat} (h : (placeR i).1 = q) : base q ≤ i ∧ i < base q + roof q ∧ (placeR i).2 = i - base q := by
  unfold placeR at *
  unfold base roof
  by_cases hi : i < 127
  · rw [if_pos hi] at h ⊢
    simp only at h ⊢
    subst h
    simp; omega
  · rw [if_neg hi] at h ⊢
    simp only at h ⊢
    subst h
    rw [if_neg (by omega), if_neg (by omega)]
    omega
theorem place_is {i q : Nat} (h1 : base q ≤ i) (h2 : i < base q + roof q) : (placeR i).1 = q := by
  unfold placeR
  unfold base roof at *
  by_cases hq : q = 0
  · rw [if_pos hq] at h1 h2
    rw [if_pos hq] at h2
    rw [if_pos (by omega)]
    exact hq.symm
  · rw [if_neg hq] at h1 h2
    rw [if_neg hq] at h2
    rw [if_neg (by omega)]
    simp only
    omega
/-- Where the bits lie in the sector. -/
theorem place_lim {a bit en q k : Nat} (hq : (placeR (a + bit / 8)).1 = q) :
    (a + (bit + k) / 8 < en ∧ (placeR (a + (bit + k) / 8)).1 = q ↔ (8 * a + bit - 8 * base q) + k < 8 * (min en (base q + roof q) - base q)) ∧
    ((placeR (a + (bit + k) / 8)).1 = q → (placeR (a + (bit + k) / 8)).2 = ((8 * a + bit - 8 * base q) + k) / 8) ∧ (bit + k) % 8 = ((8 * a + bit - 8 * base q) + k) % 8 := by
  obtain ⟨h1, h2, -⟩ := place_low hq
  refine ⟨⟨fun ⟨h3, h4⟩ => ?_, fun h3 => ⟨by omega, place_is (by omega) (by omega)⟩⟩, fun h4 => ?_, by omega⟩
  · obtain ⟨h5, h6, -⟩ := place_low h4
    omega
  · obtain ⟨h5, h6, h7⟩ := place_low h4
    omega
/-- What a batch's content lies in. -/
def flatB (sec : List (List UInt8)) (n : Nat) : List UInt8 := (sec.getD 0 []).take 127 ++ ((sec.drop 1).take (n - 1)).flatten
theorem flat_len {l : List (List UInt8)} (h : ∀ x ∈ l, x.length = 128) : l.flatten.length = 128 * l.length := by
  induction l with
  | nil => rfl
  | cons x l ih =>
    rw [List.flatten_cons, List.length_append, List.length_cons, ih (fun y hy => h y (List.mem_cons_of_mem _ hy)), h x List.mem_cons_self]
    omega
theorem flat_flip {sec : List (List UInt8)} (h128 : ∀ x ∈ sec, x.length = 128) {n q lim F bits : Nat} (hn : n ≤ sec.length) (hq : q < n) (hlim : lim ≤ 8 * roof q) :
    flatB (sec.set q (Crc.flipE lim (sec.getD q []) F bits 32)) n = Crc.flipE (8 * base q + lim) (flatB sec n) (8 * base q + F) bits 32 := by
  have hql : q < sec.length := by omega
  obtain ⟨S, hS⟩ : ∃ S, sec.getD q [] = S := ⟨_, rfl⟩
  have hS2 : sec[q] = S := by rw [← hS, List.getD_eq_getElem?_getD, List.getElem?_eq_getElem hql]; rfl
  have hSl : S.length = 128 := by rw [← hS2]; exact h128 _ (List.getElem_mem _)
  rw [hS]
  unfold flatB
  cases q with
  | zero =>
    rw [hS, List.drop_set, if_pos (by omega), List.getD_eq_getElem?_getD, List.getElem?_set_self hql]
    have e1 : (Crc.flipE lim S F bits 32).take 127 = Crc.flipE lim (S.take 127) F bits 32 := by
      have h1 := Crc.flipE_right (S.take 127) (S.drop 127) (n := lim) (by rw [List.length_take]; unfold roof at hlim; simp at hlim; omega) F bits 32
      rw [List.take_append_drop] at h1
      rw [h1]
      exact List.take_left' (by rw [Crc.flipE_length, List.length_take]; omega)
    rw [Option.getD_some, e1, ← Crc.flipE_right _ _ (by rw [List.length_take]; unfold roof at hlim; simp at hlim; omega)]
    simp [base]
  | succ j =>
    rw [List.drop_set, if_neg (by omega), show j + 1 - 1 = j by omega, List.take_set, List.getD_eq_getElem?_getD, List.getElem?_set_ne (by omega), ← List.getD_eq_getElem?_getD]
    obtain ⟨T, hT⟩ : ∃ T, (sec.drop 1).take (n - 1) = T := ⟨_, rfl⟩
    have hTl : T.length = n - 1 := by rw [← hT, List.length_take, List.length_drop]; omega
    have hj : j < T.length := by omega
    have hTS : T[j] = S := by
      rw [← hS2]
      simp only [← hT, List.getElem_take, List.getElem_drop]
      congr 1
      omega
    have hT128 : ∀ x ∈ T, x.length = 128 := fun x hx => h128 x (by rw [← hT] at hx; exact List.mem_of_mem_drop (List.mem_of_mem_take hx))
    have hH : ((sec.getD 0 []).take 127).length = 127 := by
      rw [List.length_take, List.getD_eq_getElem?_getD, List.getElem?_eq_getElem (by omega), Option.getD_some, h128 _ (List.getElem_mem _)]
      rfl
    rw [hT]
    have e1 : T.flatten = (T.take j).flatten ++ (S ++ (T.drop (j + 1)).flatten) := by
      conv => lhs; rw [← List.take_append_drop j T, List.drop_eq_getElem_cons hj, hTS]
      rw [List.flatten_append, List.flatten_cons]
    have e2 : (T.set j (Crc.flipE lim S F bits 32)).flatten = (T.take j).flatten ++ (Crc.flipE lim S F bits 32 ++ (T.drop (j + 1)).flatten) := by
      rw [List.set_eq_take_append_cons_drop, if_pos hj, List.flatten_append, List.flatten_cons]
    have e3 : ((sec.getD 0 []).take 127 ++ (T.take j).flatten).length = base (j + 1) := by
      rw [List.length_append, hH, flat_len (fun x hx => hT128 x (List.mem_of_mem_take hx)), List.length_take, base, if_neg (by omega)]
      omega
    rw [e1, e2, ← List.append_assoc, ← List.append_assoc ((sec.getD 0 []).take 127), ← e3, Crc.flipE_left, Crc.flipE_right _ _ (by rw [hSl]; unfold roof at hlim; simp at hlim; omega)]
/-- The batch at the start, by its bytes. -/
theorem batch_flat {sec : List (List UInt8)} {e n m : Nat} {t c y z : List UInt8} (hn : n < 2 ^ 63) (hm : needs ((Wire.encU n).length + n + 4) = m) (hg : (sec.getD 0 []).take 127 = Wire.encU n ++ t) (hb : flatB sec m = Wire.encU n ++ (c ++ (y ++ z))) (hc : c.length = n) (hy : y.length = 4) (he : m ≤ e) :
    batch sec 0 e = if y ≠ sum4 (Wire.sumOf c) then (0, [], 40) else got m (parts c) := by
  have hru : Wire.readU (Wire.encU n ++ t) 0 = (n, ((Wire.encU n).length : Int), 0) := by
    have := readU_enc (n := n) (by omega) [] t
    rw [List.nil_append, List.length_nil, Nat.zero_add] at this
    exact this
  have hbd := needs_bd ((Wire.encU n).length + n + 4)
  have hpp := needs_pos ((Wire.encU n).length + n + 4)
  rw [hm] at hbd hpp
  unfold batch
  simp only [hg, hru, Int.toNat_natCast, hm]
  rw [if_neg (by
    rintro (h | h)
    · exact h rfl
    · omega), if_neg (by omega)]
  unfold flatB at hb
  rw [hg] at hb
  rw [Nat.zero_add, hb]
  have e1 : ((Wire.encU n ++ (c ++ (y ++ z))).drop (Wire.encU n).length).take n = c := by rw [List.drop_left, ← hc, List.take_left]
  have e2 : ((Wire.encU n ++ (c ++ (y ++ z))).drop ((Wire.encU n).length + n)).take 4 = y := by
    rw [← List.drop_drop, List.drop_left, ← hc, List.drop_left, ← hy, List.take_left]
  rw [e1, e2]
/-- Where the batch's bytes lie, as it was written. -/
theorem flat_written {D : List (List UInt8)} {rs : List (List UInt8)} {n : Nat} (hn : sizeL rs = n) (hl : n ≤ D.length) :
    flatB (setAll D (sched 0 n 64 (stream rs))) n = stream rs ++ List.replicate (127 + 128 * (n - 1) - (stream rs).length) 0 := by
  have hn1 := sizeL_pos rs
  have hnb := needs_bd (stream rs).length
  have hn' : needs (stream rs).length = n := hn
  rw [hn'] at hnb
  rw [hn] at hn1
  have h1 := sched_head (sec := D) (p := 0) (n := n) (e := 64) (s := stream rs) (by omega)
  have h2 : ((setAll D (sched 0 n 64 (stream rs))).drop 1).take (n - 1) = pcs (n - 1) ((stream rs).drop 127) := by
    apply List.ext_getElem?
    intro j
    rw [List.getElem?_take]
    by_cases hj : j < n - 1
    · rw [if_pos hj, List.getElem?_drop, ← Nat.zero_add 1, sched_rest (by omega) hj, List.getElem?_eq_getElem (by rw [pcs_len]; exact hj), pcs_get, List.drop_drop]
    · rw [if_neg hj, List.getElem?_eq_none (by rw [pcs_len]; omega)]
  unfold flatB
  rw [h2, List.getD_eq_getElem?_getD, h1, Option.getD_some, pcs_flat _ _ (by rw [List.length_drop]; omega), headS_take, List.length_take, List.length_drop]
  generalize stream rs = s at *
  rcases Nat.lt_or_ge s.length 127 with h1 | h1
  · rw [List.take_of_length_le (by omega), List.drop_of_length_le (by omega), List.nil_append, List.append_assoc, List.replicate_append_replicate]
    exact congrArg (fun n => _ ++ List.replicate n 0) (by omega)
  · rw [Nat.min_eq_left h1, Nat.sub_self, List.replicate_zero, List.append_nil, ← List.append_assoc, List.take_append_drop]
    exact congrArg (fun n => _ ++ List.replicate n 0) (by omega)
/-- Bits inverted within the content or within the checksum are seen. -/
theorem damage_plain {D : List (List UInt8)} {rs : List (List UInt8)} {n a bit en q lim F bits : Nat} (hn : sizeL rs = n) (hl : n ≤ D.length) (h64 : n ≤ 64) (hD : ∀ x ∈ setAll D (sched 0 n 64 (stream rs)), x.length = 128)
    (hC : (content rs).length ≤ 1200000000000) (ha : (Wire.encU (content rs).length).length = a) (hbit : bit < 8 * ((content rs).length + 4)) (hen : en = if bit < 8 * (content rs).length then a + (content rs).length else a + (content rs).length + 4)
    (hq : (placeR (a + bit / 8)).1 = q) (hF : F = 8 * a + bit - 8 * base q) (hlim : lim = 8 * (min en (base q + roof q) - base q)) (hmask : Crc.maskTo lim F bits 32 ≠ 0) :
    q < n ∧ batch ((setAll D (sched 0 n 64 (stream rs))).set q (Crc.flipE lim ((setAll D (sched 0 n 64 (stream rs))).getD q []) F bits 32)) 0 64 = (0, [], 40) := by
  have hw := flat_written (D := D) hn hl
  have hss := stream_size rs
  have hs : stream rs = Wire.encU (content rs).length ++ content rs ++ sum4 (Wire.sumOf (content rs)) := rfl
  have hsd := sched_head (sec := D) (p := 0) (n := n) (e := 64) (s := stream rs) (by have := sizeL_pos rs; omega)
  have hXl : (setAll D (sched 0 n 64 (stream rs))).length = D.length := setAll_len _ _
  obtain ⟨X, hX⟩ : ∃ X, setAll D (sched 0 n 64 (stream rs)) = X := ⟨_, rfl⟩
  rw [hX] at hw hD hsd hXl ⊢
  have hn' : needs (stream rs).length = n := hn
  have hnb := needs_bd (stream rs).length
  have hn1 := needs_pos (stream rs).length
  rw [hn'] at hnb hn1
  obtain ⟨hp1, hp2, -⟩ := place_low hq
  obtain ⟨E, hE⟩ : ∃ E, min en (base q + roof q) = E := ⟨_, rfl⟩
  have hE1 : E ≤ en := by rw [← hE]; exact Nat.min_le_left _ _
  have hE2 : E ≤ base q + roof q := by rw [← hE]; exact Nat.min_le_right _ _
  have hE3 : E = en ∨ E = base q + roof q := by rw [← hE, Nat.min_def]; split <;> simp
  rw [hE] at hlim
  generalize hc : content rs = c at *
  have ha10 := Wire.encU_len10 (n := c.length) (by omega)
  rw [ha] at hss ha10
  have hq2 : q < n := by
    have : a + bit / 8 < (stream rs).length := by omega
    unfold base at hp1
    split at hp1 <;> omega
  refine ⟨hq2, ?_⟩
  have hen2 : a + bit / 8 < en := by rw [hen]; split <;> omega
  have hlr : lim ≤ 8 * roof q := by omega
  have hf := flat_flip hD (bits := bits) (F := F) (by omega) hq2 hlr
  rw [hw, hs, show 8 * base q + F = 8 * a + bit by omega, show 8 * base q + lim = 8 * a + (8 * E - 8 * a) by omega, List.append_assoc, List.append_assoc, ← ha, Crc.flipE_left] at hf
  rw [ha] at hf
  generalize hz : List.replicate (127 + 128 * (n - 1) - (Wire.encU c.length ++ c ++ sum4 (Wire.sumOf c)).length) (0 : UInt8) = z at hf
  have h4 : (sum4 (Wire.sumOf c)).length = 4 := rfl
  have hmk : Crc.maskTo (8 * E - 8 * a) bit bits 32 ≠ 0 := by
    rw [← Crc.maskTo_shift (8 * a), show 8 * a + (8 * E - 8 * a) = 8 * base q + lim by omega, show 8 * a + bit = 8 * base q + F by omega, Crc.maskTo_shift]
    exact hmask
  have hL1 : bit ≤ 8 * E - 8 * a := by omega
  generalize hL : 8 * E - 8 * a = L at *
  have hg : ∃ t, ((X.set q (Crc.flipE lim (X.getD q []) F bits 32)).getD 0 []).take 127 = Wire.encU c.length ++ t := by
    refine ⟨((flatB (X.set q (Crc.flipE lim (X.getD q []) F bits 32)) n).take 127).drop a, ?_⟩
    have e1 : ((X.set q (Crc.flipE lim (X.getD q []) F bits 32)).getD 0 []).take 127 = (flatB (X.set q (Crc.flipE lim (X.getD q []) F bits 32)) n).take 127 := by
      unfold flatB
      have : (((X.set q (Crc.flipE lim (X.getD q []) F bits 32)).getD 0 []).take 127).length = 127 := by
        rw [List.length_take, List.getD_eq_getElem?_getD, List.getElem?_eq_getElem (by rw [List.length_set]; omega), Option.getD_some, List.getElem_set]
        have h0 := hD _ (List.getElem_mem (show 0 < X.length by omega))
        split
        · rw [Crc.flipE_length, List.getD_eq_getElem?_getD, List.getElem?_eq_getElem (by omega), Option.getD_some, hD _ (List.getElem_mem _)]
          rfl
        · rw [h0]
          rfl
      exact (List.take_left' this).symm
    rw [e1, hf, List.take_append, List.take_of_length_le (by rw [ha]; omega), ← ha, List.drop_left]
  obtain ⟨t, hg⟩ := hg
  by_cases hcase : bit < 8 * c.length
  · rw [if_pos hcase] at hen
    have hL8 : L ≤ 8 * c.length := by omega
    rw [Crc.flipE_right _ _ hL8] at hf
    rw [batch_flat (n := c.length) (by omega) (by rw [ha, ← hss]; exact hn') hg hf (Crc.flipE_length _ _ _ _ _) h4 h64, if_pos]
    intro h
    exact hmk ((Crc.ext_flipE 0#32 hL1 hL8).1 (sum4_inj h).symm)
  · rw [if_neg hcase] at hen
    have hL8 : L - 8 * c.length ≤ 8 * (sum4 (Wire.sumOf c)).length := by omega
    have hL2 : bit - 8 * c.length ≤ L - 8 * c.length := by omega
    rw [show L = 8 * c.length + (L - 8 * c.length) by omega, show bit = 8 * c.length + (bit - 8 * c.length) by omega, Crc.flipE_left, Crc.flipE_right _ _ hL8] at hf
    rw [show L = 8 * c.length + (L - 8 * c.length) by omega, show bit = 8 * c.length + (bit - 8 * c.length) by omega, Crc.maskTo_shift] at hmk
    rw [batch_flat (n := c.length) (by omega) (by rw [ha, ← hss]; exact hn') hg hf rfl (Crc.flipE_length _ _ _ _ _) h64, if_pos]
    exact Crc.flipE_ne hL2 hL8 hmk
end Wl
theorem odd_bit (n j : Nat) : ((n : Int) / 2 ^ j).tmod 2 = 1 ↔ n.testBit j = true := by
  have e : (n : Int) / 2 ^ j = ((n / 2 ^ j : Nat) : Int) := by rw [Int.natCast_ediv, Int.natCast_pow]; rfl
  rw [e, Nat.testBit_eq_decide_div_mod_eq, decide_eq_true_eq]
  generalize n / 2 ^ j = m
  rw [Int.tmod_eq_emod_of_nonneg (by omega)]
  omega
theorem xor8 (x y : UInt8) : bits .xor .u8 (x.toNat : Int) (y.toNat : Int) = ((x ^^^ y).toNat : Int) := by
  rw [UInt8.toNat_xor]
  exact u8_xor_nat _ _ (by have := x.toNat_lt; omega) (by have := y.toNat_lt; omega)
theorem flip8 (y : UInt8) (m : Nat) : bits .xor .u8 (y.toNat : Int) (2 ^ m % 256) = ((y ^^^ UInt8.ofNat (2 ^ m)).toNat : Int) := by
  have e : ((2 : Int) ^ m % 256) = (((UInt8.ofNat (2 ^ m)).toNat : Nat) : Int) := by
    rw [UInt8.toNat_ofNat', Int.natCast_emod, Int.natCast_pow]; rfl
  rw [e, xor8]
end Go.Proofs.Ytnfgapdpnihicaa
