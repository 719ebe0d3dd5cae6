/- The encodings of the chapter wire, as plain functions on lists of bytes, and their laws. -/
import Derived.Test.YtfpkibfofainaaaChecked
import Derived.Test.YtfpkibfofainaaaZGA
import Derived.Laws.BytesString
import Derived.Recover
import Derived.BigQuiet
import Derived.Deep.QuietTactic
import Derived.Deep.CutRange
import Derived.Lib.Zigzag
namespace Go.Proofs.Ytfpkibfofainaaa.Wire

/-- An unsigned integer's encoding: seven digits a byte, the lowest first. -/
def encU (n : Nat) : List UInt8 := if n < 128 then [UInt8.ofNat n] else UInt8.ofNat (128 + n % 128) :: encU (n / 128)
termination_by n
decreasing_by omega
theorem encU_small {n : Nat} (h : n < 128) : encU n = [UInt8.ofNat n] := by unfold encU; rw [if_pos h]
theorem encU_big {n : Nat} (h : 128 ≤ n) : encU n = UInt8.ofNat (128 + n % 128) :: encU (n / 128) := by
  rw [encU, if_neg (by omega)]

/-- Reading: at most f bytes more, i have been read, acc is what they gave. -/
def decU : Nat → Nat → Nat → List UInt8 → Except Int (Nat × Nat)
  | 0, _, _, _ => .error 3
  | _ + 1, _, _, [] => .error 41
  | f + 1, i, acc, c :: t => if c.toNat < 128 then (if (i = 9 ∧ 1 < c.toNat) ∨ (0 < i ∧ c.toNat = 0) then .error 3 else .ok (acc + c.toNat % 128 * 2 ^ (7 * i), i + 1)) else decU f (i + 1) (acc + c.toNat % 128 * 2 ^ (7 * i)) t
def dec (l : List UInt8) : Except Int (Nat × Nat) := decU 10 0 0 l

theorem byte_lo {n : Nat} (h : n < 256) : (UInt8.ofNat n).toNat = n := by rw [UInt8.toNat_ofNat']; omega
theorem pow7 (i : Nat) : 2 ^ (7 * (i + 1)) = 128 * 2 ^ (7 * i) := by rw [Nat.mul_add, Nat.pow_add, Nat.mul_comm]
theorem decU_enc : ∀ (f i acc n : Nat) (t : List UInt8), f + i = 10 → n * 2 ^ (7 * i) < 2 ^ 64 → (0 < i → 0 < n) → 0 < f → decU f i acc (encU n ++ t) = .ok (acc + n * 2 ^ (7 * i), i + (encU n).length) := by
  intro f
  induction f with
  | zero => intro i acc n t _ _ _ h; exact absurd h (Nat.lt_irrefl _)
  | succ f ih =>
    intro i acc n t hf hn h0 _
    by_cases h : n < 128
    · have e : encU n = [UInt8.ofNat n] := encU_small h
      have hb : (UInt8.ofNat n).toNat = n := byte_lo (by omega)
      rw [e, List.singleton_append]
      unfold decU
      rw [hb, if_pos h, if_neg, Nat.mod_eq_of_lt h]
      · rfl
      · rintro (⟨h9, h1⟩ | ⟨hi, hz⟩)
        · subst h9
          have : 2 * 2 ^ 63 ≤ n * 2 ^ (7 * 9) := Nat.mul_le_mul_right _ h1
          omega
        · have := h0 hi; omega
    · have e : encU n = UInt8.ofNat (128 + n % 128) :: encU (n / 128) := encU_big (by omega)
      have hb : (UInt8.ofNat (128 + n % 128)).toNat = 128 + n % 128 := byte_lo (by omega)
      have hi9 : i < 9 := by
        rcases Nat.lt_or_ge i 9 with h' | h'
        · exact h'
        · exfalso
          have : i = 9 := by omega
          subst this
          have : 128 * 2 ^ 63 ≤ n * 2 ^ (7 * 9) := Nat.mul_le_mul_right _ (by omega)
          omega
      have hq : n / 128 * 2 ^ (7 * (i + 1)) ≤ n * 2 ^ (7 * i) := by
        rw [pow7, ← Nat.mul_assoc]
        exact Nat.mul_le_mul_right _ (by omega)
      rw [e, List.cons_append]
      unfold decU
      rw [hb, if_neg (by omega), ih (i + 1) _ (n / 128) t (by omega) (by omega) (fun _ => by omega) (by omega)]
      have hm : (128 + n % 128) % 128 = n % 128 := by omega
      rw [hm, pow7]
      congr 2
      · rw [Nat.add_assoc, ← Nat.mul_assoc, ← Nat.add_mul]
        congr 2
        omega
      · simp only [List.length_cons]; omega
theorem dec_enc (n : Nat) (hn : n < 2 ^ 64) (t : List UInt8) : dec (encU n ++ t) = .ok (n, (encU n).length) := by
  have := decU_enc 10 0 0 n t rfl (by simpa using hn) (fun h => absurd h (Nat.lt_irrefl _)) (by omega)
  simpa [dec] using this
theorem encU_pos (n : Nat) : 0 < (encU n).length := by
  by_cases h : n < 128
  · rw [encU_small h]; simp
  · rw [encU_big (by omega)]; simp
theorem encU_len : ∀ (k n : Nat), n < 2 ^ (7 * (k + 1)) → (encU n).length ≤ k + 1 := by
  intro k
  induction k with
  | zero => intro n h; rw [encU_small (by simpa using h)]; simp
  | succ k ih =>
    intro n h
    by_cases h' : n < 128
    · rw [encU_small h']; simp
    · rw [encU_big (by omega), List.length_cons]
      have := ih (n / 128) (by rw [pow7] at h; omega)
      omega
theorem encU_len10 {n : Nat} (h : n < 2 ^ 64) : (encU n).length ≤ 10 := encU_len 9 n (Nat.lt_of_lt_of_le h (Nat.pow_le_pow_right (by decide) (by decide)))

/-- What is read is an encoding. -/
theorem decU_ok : ∀ (f i acc : Nat) (l : List UInt8) (n k : Nat), f + i = 10 → decU f i acc l = .ok (n, k) → ∃ m, n = acc + m * 2 ^ (7 * i) ∧ (0 < i → 0 < m) ∧ m * 2 ^ (7 * i) < 2 ^ 64 ∧ i < k ∧ k ≤ i + l.length ∧ l.take (k - i) = encU m := by
  intro f
  induction f with
  | zero => intro i acc l n k _ h; simp [decU] at h
  | succ f ih =>
    intro i acc l n k hf h
    cases l with
    | nil => simp [decU] at h
    | cons c t =>
      unfold decU at h
      have hc := c.toNat_lt
      by_cases h128 : c.toNat < 128
      · rw [if_pos h128] at h
        by_cases hbad : (i = 9 ∧ 1 < c.toNat) ∨ (0 < i ∧ c.toNat = 0)
        · rw [if_pos hbad] at h; cases h
        · rw [if_neg hbad] at h
          cases h
          refine ⟨c.toNat, by rw [Nat.mod_eq_of_lt h128], fun hi => by omega, ?_, by omega, by simp, ?_⟩
          · by_cases h9 : i = 9
            · subst h9
              have : c.toNat * 2 ^ (7 * 9) ≤ 1 * 2 ^ (7 * 9) := Nat.mul_le_mul_right _ (by omega)
              omega
            · have h1 : 2 ^ (7 * i) ≤ 2 ^ 56 := Nat.pow_le_pow_right (by decide) (by omega)
              have h2 : c.toNat * 2 ^ (7 * i) ≤ 127 * 2 ^ 56 := Nat.mul_le_mul (by omega) h1
              omega
          · rw [show i + 1 - i = 1 by omega, encU_small h128]
            simp
      · rw [if_neg h128] at h
        obtain ⟨m, h1, h2, h3, h4, h5, h6⟩ := ih (i + 1) _ t n k (by omega) h
        have hm := h2 (by omega)
        refine ⟨c.toNat % 128 + 128 * m, ?_, fun _ => by omega, ?_, by omega, by simp only [List.length_cons]; omega, ?_⟩
        · rw [h1, pow7, Nat.add_assoc, Nat.add_mul, ← Nat.mul_assoc, Nat.mul_comm m 128]
        · have hi9 : i < 9 := by
            rcases Nat.lt_or_ge i 9 with h' | h'
            · exact h'
            · exfalso
              have h10 : 2 ^ 70 ≤ m * 2 ^ (7 * (i + 1)) := by
                calc 2 ^ 70 ≤ 2 ^ (7 * (i + 1)) := Nat.pow_le_pow_right (by decide) (by omega)
                  _ = 1 * 2 ^ (7 * (i + 1)) := (Nat.one_mul _).symm
                  _ ≤ m * 2 ^ (7 * (i + 1)) := Nat.mul_le_mul_right _ hm
              omega
          have e64 : 2 ^ 64 = 2 ^ (64 - 7 * (i + 1)) * 2 ^ (7 * (i + 1)) := by rw [← Nat.pow_add]; congr 1; omega
          have hmlt : m < 2 ^ (64 - 7 * (i + 1)) := by
            rw [e64] at h3
            exact Nat.lt_of_mul_lt_mul_right h3
          have : c.toNat % 128 + 128 * m < 128 * 2 ^ (64 - 7 * (i + 1)) := by omega
          calc (c.toNat % 128 + 128 * m) * 2 ^ (7 * i) < 128 * 2 ^ (64 - 7 * (i + 1)) * 2 ^ (7 * i) := Nat.mul_lt_mul_of_pos_right this (Nat.two_pow_pos _)
            _ = 2 ^ 64 := by rw [e64, pow7, Nat.mul_comm 128, Nat.mul_assoc]
        · rw [show k - i = (k - (i + 1)) + 1 by omega, List.take_succ_cons, h6, encU_big (n := c.toNat % 128 + 128 * m) (by omega)]
          congr 1
          · apply UInt8.toNat_inj.1
            rw [byte_lo (by omega)]
            omega
          · congr 1; omega
theorem dec_ok {l : List UInt8} {n k : Nat} (h : dec l = .ok (n, k)) : n < 2 ^ 64 ∧ 0 < k ∧ k ≤ l.length ∧ l.take k = encU n := by
  obtain ⟨m, h1, -, h3, h4, h5, h6⟩ := decU_ok 10 0 0 l n k rfl h
  simp only [Nat.zero_add, Nat.mul_zero, Nat.pow_zero, Nat.mul_one, Nat.sub_zero] at h1 h3 h5 h6
  subst h1
  exact ⟨h3, h4, h5, h6⟩
theorem dec_k {l : List UInt8} {n k : Nat} (h : dec l = .ok (n, k)) : k = (encU n).length := by
  obtain ⟨_, _, h1, h2⟩ := dec_ok h
  rw [← h2, List.length_take]; omega
/-- A proper beginning. -/
theorem decU_short : ∀ (f i acc n j : Nat), f + i = 10 → n * 2 ^ (7 * i) < 2 ^ 64 → 0 < f → j < (encU n).length → decU f i acc ((encU n).take j) = .error 41 := by
  intro f
  induction f with
  | zero => intro i acc n j _ _ h; exact absurd h (Nat.lt_irrefl _)
  | succ f ih =>
    intro i acc n j hf hn _ hj
    cases j with
    | zero => simp [decU]
    | succ j =>
      by_cases h : n < 128
      · rw [encU_small h] at hj; simp at hj
      · have e : encU n = UInt8.ofNat (128 + n % 128) :: encU (n / 128) := encU_big (by omega)
        have hb : (UInt8.ofNat (128 + n % 128)).toNat = 128 + n % 128 := byte_lo (by omega)
        have hi9 : i < 9 := by
          rcases Nat.lt_or_ge i 9 with h' | h'
          · exact h'
          · exfalso
            have : i = 9 := by omega
            subst this
            have : 128 * 2 ^ 63 ≤ n * 2 ^ (7 * 9) := Nat.mul_le_mul_right _ (by omega)
            omega
        have hq : n / 128 * 2 ^ (7 * (i + 1)) ≤ n * 2 ^ (7 * i) := by
          rw [pow7, ← Nat.mul_assoc]
          exact Nat.mul_le_mul_right _ (by omega)
        rw [e, List.take_succ_cons]
        unfold decU
        rw [hb, if_neg (by omega)]
        rw [e, List.length_cons] at hj
        exact ih (i + 1) _ (n / 128) j (by omega) (by omega) (by omega) (by omega)
theorem dec_short {n j : Nat} (hn : n < 2 ^ 64) (hj : j < (encU n).length) : dec ((encU n).take j) = .error 41 := decU_short 10 0 0 n j rfl (by simpa using hn) (by omega) hj
theorem encU_inj_take {n m : Nat} (hn : n < 2 ^ 64) (hm : m < 2 ^ 64) {t u : List UInt8} (h : encU n ++ t = encU m ++ u) : n = m := by
  have h1 := dec_enc n hn t
  rw [h, dec_enc m hm u] at h1
  cases h1; rfl

/-! ### Integers, strings, frames -/
def zig (n : Int) : Nat := if 0 ≤ n then 2 * n.toNat else 2 * (-(n + 1)).toNat + 1
def zag (k : Nat) : Int := if k % 2 = 1 then -((k / 2 : Nat) : Int) - 1 else ((k / 2 : Nat) : Int)
theorem zag_zig (n : Int) : zag (zig n) = n := by unfold zag zig; split <;> split <;> omega
theorem zig_zag (k : Nat) : zig (zag k) = k := by unfold zag zig; split <;> split <;> omega
theorem zig_lt {n : Int} (h1 : -9223372036854775808 ≤ n) (h2 : n ≤ 9223372036854775807) : zig n < 2 ^ 64 := by unfold zig; split <;> omega
def encI (n : Int) : List UInt8 := encU (zig n)
def encT (s : List UInt8) : List UInt8 := encU s.length ++ s
/-- A result of a reading: what is read, how many bytes it took; or a code. -/
def decT (l : List UInt8) : Except Int (List UInt8 × Nat) := match dec l with
  | .error c => .error c
  | .ok (n, k) => if l.length - k < n then .error 41 else .ok ((l.drop k).take n, k + n)
theorem decT_enc (s t : List UInt8) (hs : s.length < 2 ^ 64) : decT (encT s ++ t) = .ok (s, (encT s).length) := by
  unfold decT encT
  rw [List.append_assoc, dec_enc _ hs]
  simp only [List.length_append]
  rw [if_neg (by omega)]
  simp
theorem decT_ok {l s : List UInt8} {k : Nat} (h : decT l = .ok (s, k)) : s.length < 2 ^ 64 ∧ 0 < k ∧ k ≤ l.length ∧ l.take k = encT s := by
  unfold decT at h
  split at h
  · cases h
  · rename_i n j hd
    obtain ⟨h1, h2, h3, h4⟩ := dec_ok hd
    split at h
    · cases h
    · rename_i hle
      cases h
      have hn : ((l.drop j).take n).length = n := by rw [List.length_take, List.length_drop]; omega
      refine ⟨by omega, by omega, by omega, ?_⟩
      unfold encT
      rw [hn, ← h4, List.take_add]
theorem decT_short {s : List UInt8} {j : Nat} (hs : s.length < 2 ^ 64) (hj : j < (encT s).length) : decT ((encT s).take j) = .error 41 := by
  unfold encT at hj ⊢
  by_cases h : j < (encU s.length).length
  · rw [List.take_append_of_le_length (by omega)]
    unfold decT
    rw [dec_short hs h]
  · rw [List.take_append, List.take_of_length_le (by omega)]
    unfold decT
    rw [dec_enc _ hs]
    simp only
    rw [if_pos]
    rw [List.length_append] at hj ⊢
    rw [List.length_take]
    omega
end Go.Proofs.Ytfpkibfofainaaa.Wire
/- The walks over package wire: AppendUint, AppendInt, AppendText. -/
namespace Go.Proofs.Ytfpkibfofainaaa
open Go.RowKit

theorem byte_info : (Try.prog.info? 5).map (fun i => (i.zero, i.size, i.bytes)) = some (some (.int .u8 0), 1, 1) := by kernel_rfl
/-- Bytes onto which the call appends: its own, or a slice without room. -/
def AppB (E B : Nat) (w : World) (v : Value) (l : List UInt8) : Prop := OwnBytes E B w v l ∨ ∃ base, v = .slice base l.length l.length ∧ IsBytes w v l
theorem AppB.below {E B C : Nat} {w w' : World} {v : Value} {l : List UInt8} (h : AppB E B w v l) (hb : Below C w w') (hC : C = w.heap.size) : AppB E B w' v l := by
  rcases h with h | ⟨base, e, h⟩
  · left
    obtain ⟨h1, h2⟩ := h
    refine ⟨h1, ?_⟩
    rcases h2 with h2 | ⟨g, cap, cur, a, b, c, d⟩
    · exact .inl h2
    · exact .inr ⟨g, cap, cur, a, b, by rw [hb.block g (by rw [hC]; exact (Array.getElem?_eq_some_iff.1 c).1)]; exact c, d⟩
  · exact .inr ⟨base, e, h.below hb hC⟩
theorem wpList_append_appb {P : Program} {w : World} {ops : Array Oper} {rest : List Oper} {o : Oper} {a : Act} {Q : Exit → Act → World → Prop} (hw : Region.wanted o (yielded ops a.tmps) = true) (s x : Operand) (t t2 : TypeId)
    (ho : o.op = .call { callee := .builtin .append, args := #[s, x], argTypes := #[t, t2] })
    (base : Nat) (e : TypeId) (ht : P.underlying t = some (.slice e)) (hinfo : (P.info? e).map (fun i => (i.zero, i.size, i.bytes)) = some (some (.int .u8 0), 1, 1))
    (v : Value) (l : List UInt8) (hs : a.eval s = v) (hown : AppB e base w v l) (u : Value) (m : List UInt8) (hm : m ≠ []) (hx : a.eval x = u) (hsrc : Src P 1 w t2 u m.length (m.map u8v))
    (hbytes : l.length + m.length ≤ 140737488355328) (hbase : base ≤ w.heap.size) (B0 : World) (hB0 : Below base B0 w)
    (h : ∀ v' w', OwnBytes e base w' v' (l ++ m) → Below base B0 w' → wpList P ops Q rest (a.put o.dst v') w') : wpList P ops Q (o :: rest) a w := by
  rcases hown with hown | ⟨bs, rfl, hrow⟩
  · refine wpList_append_bytes hw s x t t2 ho base e ht hinfo v l hs hown u m hx hsrc hbytes hbase ?_
    intro v' w' h1 h2
    exact h v' w' h1 (Below.grown hB0 h2 hbase (fun k hk => (World.ownsRow.lt hown k hk).1))
  · have hml : 0 < m.length := List.length_pos_iff.2 hm
    refine wpList_append_grow hw s x t t2 ho e (.int .u8 0) 1 1 ht hinfo rfl bs l.length l.length (l.map u8v) hs hrow u m.length (m.map u8v) hx hsrc (by omega) (by omega) (by simp only [maxLen]; omega) ?_
    intro v' w' h1 h2 _
    refine h v' w' ?_ (Below.grown hB0 h2 hbase (fun k hk => by cases hk))
    unfold OwnBytes
    rw [List.length_append, List.map_append]
    obtain ⟨k1, k2⟩ := h1
    refine ⟨k1, ?_⟩
    rcases k2 with k2 | ⟨g, cap, cur, a, b, r⟩
    · exact .inl k2
    · exact .inr ⟨g, cap, cur, a, Nat.le_trans hbase b, r⟩

theorem or128 (n : Nat) : bits .or .u8 (((n : Int)) % 256) 128 = (((UInt8.ofNat (128 + n % 128)).toNat : Nat) : Int) := by
  have e : (n : Int) % 256 = ((n % 256 : Nat) : Int) := by omega
  have h : ∀ x : Fin 256, x.val ||| 128 = 128 + x.val % 128 := by decide +kernel
  have h1 := h ⟨n % 256, by omega⟩
  simp only at h1
  rw [e, show (128 : Int) = ((128 : Nat) : Int) from rfl, u8_or_nat _ _ (by omega) (by omega), h1, Wire.byte_lo (by omega)]
  congr 1
  omega

set_option maxHeartbeats 1000000 in
set_option maxRecDepth 10000 in
theorem appendUint_any (w : World) (v : Value) (l : List UInt8) (n : Nat) (hn : n < 2 ^ 64) (hv : IsBytes w v l) (hl : l.length ≤ 140737488355300) :
    Calls Try.prog 18 #[v, .int .u64 n] w fun e w' => ∃ v', e = .returned v' ∧ OwnBytes 5 w.heap.size w' v' (l ++ Wire.encU n) ∧ Below w.heap.size w w' := by
  obtain ⟨base, cap, rfl, hlen, hcap, hnil, -⟩ := hv.out
  have hcut : IsBytes w (.slice base l.length l.length) l := by
    obtain ⟨_, _, e, a, b, c, d, f⟩ := hv
    cases e
    exact ⟨_, _, rfl, a, Nat.le_refl _, by omega, fun h => by have := d h; omega, f⟩
  have hlc : (l.length : Int) ≤ (cap : Int) := by omega
  have HC := Lib.hid hcut
  clear hcut hv
  go_enter Try.func18, Try.ntmps18
  go_wp2_with fail
  go_loopw [1, 4] (fun nv cv wr => ∃ (m : Nat) (done : List UInt8), nv = .int .u64 m ∧ m < 2 ^ 64 ∧ Wire.encU n = done ++ Wire.encU m ∧ AppB 5 w.heap.size wr cv (l ++ done) ∧ Below w.heap.size w wr) (fun nv _ _ => (intOf nv).toNat)
  case atStart => exact ⟨n, [], rfl, hn, rfl, .inr ⟨base, by rw [List.append_nil], by rw [List.append_nil]; exact HC.out⟩, Below.refl _ _⟩
  case round =>
    obtain ⟨m, done, rfl, hm, he, ho, hb⟩ := hrel
    have HE := Lib.hid he
    clear he
    have hdl : done.length ≤ 10 := by have := Wire.encU_len10 hn; rw [HE.out, List.length_append] at this; omega
    by_cases h128 : 128 ≤ m
    · have i1 : (128 : Int) ≤ (m : Int) := by omega
      have hor := or128 m
      obtain ⟨xb, hxb⟩ : ∃ xb, UInt8.ofNat (128 + m % 128) = xb := ⟨_, rfl⟩
      rw [hxb] at hor
      have hx : IsBytes (wr.alloc (.cells #[.int .u8 (xb.toNat : Int)] 5)) (.slice (some ⟨wr.heap.size, 0, none⟩) 1 1) [xb] := IsBytes.new wr 5 (0, 0) [xb] (by simp [maxLen])
      have hb1 := hb.alloc hb.size (.cells #[.int .u8 (xb.toNat : Int)] 5)
      have ho1 := ho.below (show Below wr.heap.size wr (wr.alloc (.cells #[.int .u8 (xb.toNat : Int)] 5)) from (Below.refl _ _).alloc (Nat.le_refl _) _) rfl
      have HOR := Lib.hid hor
      have HXB := Lib.hid hxb
      clear hor hxb
      go_wp2_with (at_builtin; go_loud (rw [HOR.out]; refine wpList_append_appb rfl (.tmp 15) (.tmp 19) 22 22 rfl w.heap.size 5 Try.underlying22 byte_info _ _ rfl ho1 _ [xb] (by simp) rfl (hx.src Try.underlying22) (by simp; omega) hb1.size w hb1 ?_; intro v3 w3 ho3 hb3))
      go_roundw
      case rel => exact ⟨m / 128, done ++ [xb], by go_num, by omega, by rw [HE.out, Wire.encU_big h128, HXB.out]; simp, .inl (by rw [← List.append_assoc]; exact ho3), hb3⟩
      case measure => simp [intOf]; omega
    · have i1 : ¬ (128 : Int) ≤ (m : Int) := by omega
      obtain ⟨xb, hxb⟩ : ∃ xb, UInt8.ofNat m = xb := ⟨_, rfl⟩
      have hxt : (m : Int) = (xb.toNat : Int) := by rw [← hxb, Wire.byte_lo (by omega)]
      have hx : IsBytes (wr.alloc (.cells #[.int .u8 (xb.toNat : Int)] 5)) (.slice (some ⟨wr.heap.size, 0, none⟩) 1 1) [xb] := IsBytes.new wr 5 (0, 0) [xb] (by simp [maxLen])
      have hb1 := hb.alloc hb.size (.cells #[.int .u8 (xb.toNat : Int)] 5)
      have ho1 := ho.below (show Below wr.heap.size wr (wr.alloc (.cells #[.int .u8 (xb.toNat : Int)] 5)) from (Below.refl _ _).alloc (Nat.le_refl _) _) rfl
      have HXT := Lib.hid hxt
      have HXB := Lib.hid hxb
      clear hxt hxb
      go_wp2_with (at_builtin; go_loud (rw [HXT.out]; refine wpList_append_appb rfl (.tmp 21) (.tmp 24) 22 22 rfl w.heap.size 5 Try.underlying22 byte_info _ _ rfl ho1 _ [xb] (by simp) rfl (hx.src Try.underlying22) (by simp; omega) hb1.size w hb1 ?_; intro v3 w3 ho3 hb3))
      go_ret
      exact ⟨_, rfl, by rw [HE.out, Wire.encU_small (by omega), HXB.out, ← List.append_assoc]; exact ho3, hb3⟩


set_option maxHeartbeats 1000000 in
theorem appendText_any (w : World) (v : Value) (l : List UInt8) (s : ByteArray) (hv : IsBytes w v l) (hl : l.length + s.size ≤ 140737488355300) :
    Calls Try.prog 38 #[v, .string s] w fun e w' => ∃ v', e = .returned v' ∧ OwnBytes 5 w.heap.size w' v' (l ++ Wire.encT s.data.toList) ∧ Below w.heap.size w w' := by
  have hss : s.data.toList.length = s.size := by simp
  have hs64 : (s.size : Int) < 18446744073709551616 := by omega
  have hs0 : (0 : Int) ≤ (s.size : Int) := by omega
  go_enter Try.func38, Try.ntmps38
  go_wp2_with fail
  refine (appendUint_any w v l s.size (by omega) hv (by omega)).mono ?_
  rintro e w1 ⟨v1, rfl, ho1, hb1⟩
  have hlen := Wire.encU_len10 (n := s.size) (by omega)
  go_wp2_with (at_builtin; go_loud (refine wpList_append_bytes rfl (.tmp 9) (.tmp 10) 22 9 rfl w.heap.size 5 Try.underlying22 byte_info _ _ rfl ho1 _ s.data.toList rfl (hss ▸ Src.str Try.underlying9) (by rw [hss, List.length_append]; omega) hb1.size ?_; intro v3 w3 ho3 hg3))
  go_ret
  exact ⟨_, rfl, by unfold Wire.encT; rw [hss, ← List.append_assoc]; exact ho3, Below.grown hb1 hg3 hb1.size (fun k hk => (World.ownsRow.lt ho1 k hk).1)⟩

theorem xor_ones (x : Nat) (h : x < 18446744073709551616) : x ^^^ 18446744073709551615 = 18446744073709551615 - x := by
  have e := BitVec.xor_allOnes (x := BitVec.ofNat 64 x)
  have e2 := congrArg BitVec.toNat e
  rw [BitVec.toNat_xor, BitVec.toNat_not, BitVec.toNat_allOnes, BitVec.toNat_ofNat, Nat.mod_eq_of_lt h] at e2
  exact e2
theorem zig_bits (n : Int) (h1 : -9223372036854775808 ≤ n) (h2 : n ≤ 9223372036854775807) : bits BinOp.xor IntKind.u64 (IntKind.u64.wrap (IntKind.u64.wrap n * 2)) (IntKind.u64.wrap (n / 9223372036854775808)) = (Wire.zig n : Int) := by
  have hw : ∀ z : Int, IntKind.u64.wrap z = z % 18446744073709551616 := fun z => rfl
  rw [hw, hw, hw]
  unfold Wire.zig
  by_cases h : 0 ≤ n
  · rw [if_pos h]
    have e1 : n % 18446744073709551616 * 2 % 18446744073709551616 = ((2 * n.toNat : Nat) : Int) := by omega
    have e2 : n / 9223372036854775808 % 18446744073709551616 = ((0 : Nat) : Int) := by omega
    rw [e1, e2, u64_xor_nat _ _ (by omega) (by omega), Nat.xor_zero]
  · rw [if_neg h]
    have e1 : n % 18446744073709551616 * 2 % 18446744073709551616 = ((18446744073709551616 - 2 * (-n).toNat : Nat) : Int) := by omega
    have e2 : n / 9223372036854775808 % 18446744073709551616 = ((18446744073709551615 : Nat) : Int) := by omega
    rw [e1, e2, u64_xor_nat _ _ (by omega) (by omega), xor_ones _ (by omega)]
    omega
set_option maxHeartbeats 1000000 in
theorem appendInt_any (w : World) (v : Value) (l : List UInt8) (n : Int) (h1 : -9223372036854775808 ≤ n) (h2 : n ≤ 9223372036854775807) (hv : IsBytes w v l) (hl : l.length ≤ 140737488355300) :
    Calls Try.prog 37 #[v, .int .i64 n] w fun e w' => ∃ v', e = .returned v' ∧ OwnBytes 5 w.heap.size w' v' (l ++ Wire.encI n) ∧ Below w.heap.size w w' := by
  go_enter Try.func37, Try.ntmps37
  go_wp2_with fail
  rw [zig_bits n h1 h2]
  refine (appendUint_any w v l (Wire.zig n) (Wire.zig_lt h1 h2) hv hl).mono ?_
  rintro e w1 ⟨v1, rfl, ho1, hb1⟩
  go_wp2
  go_ret
  exact ⟨_, rfl, ho1, hb1⟩
end Go.Proofs.Ytfpkibfofainaaa
/- Bytes as a string. Over whatever program. -/
namespace Go.Proofs.Ytfpkibfofainaaa
open Go.RowKit

theorem push_all : ∀ (l : List UInt8) (s : ByteArray), (l.map fun b => ((b.toNat : Nat) : Int)).foldl (fun r n => r.push (UInt8.ofNat n.toNat)) s = ⟨s.data ++ l.toArray⟩
  | [], s => by simp
  | b :: l, s => by
    simp only [List.map_cons, List.foldl_cons]
    rw [push_all l]
    have e : UInt8.ofNat ((b.toNat : Int)).toNat = b := by simp
    rw [e]
    show ByteArray.mk ((s.data.push b) ++ l.toArray) = _
    simp
/-- string(b). -/
theorem run_str {P : Program} (w : World) (src dst e : TypeId) (hs : P.underlying src = some (.slice e)) (he : P.underlying e = some (.int .u8)) (hd : P.underlying dst = some .string) (v : Value) (l : List UInt8) (hv : IsBytes w v l) :
    (convert src dst v).run P w = .ok (.string ⟨l.toArray⟩) w := by
  obtain ⟨base, cap, rfl, h1, h2, h3, hc⟩ := hv.out
  rw [run_convert_bytes_string w src dst e base l.length cap hs he hd]
  cases base with
  | none =>
    have : l = [] := List.eq_nil_of_length_eq_zero (by have := h3 rfl; omega)
    subst this
    rfl
  | some a =>
    have hl : (loadCells a l.length).run P w = .ok ((l.map fun b => ((b.toNat : Nat) : Int)).map (Value.int .u8)).toArray w := by
      have := run_loadCells_list (P := P) (w := w) a ((l.map fun b => ((b.toNat : Nat) : Int)).map (Value.int .u8)) (fun j u hu => by
        rw [List.map_map, List.getElem?_map] at hu
        cases hq : l[j]? with
        | none => rw [hq] at hu; cases hu
        | some x =>
          rw [hq] at hu
          cases hu
          obtain ⟨hj, hx⟩ := List.getElem?_eq_some_iff.1 hq
          obtain ⟨b, off, e, hcell⟩ := hc j hj
          cases e
          rw [Addr.add_lit, hcell, hx]
          rfl)
      simpa using this
    rw [run_bytesToString w a l.length cap _ hl, push_all]
    show Result.ok (Value.string ⟨(#[] : Array UInt8) ++ l.toArray⟩) w = _
    simp
end Go.Proofs.Ytfpkibfofainaaa
/- The walks over package wire's reader. -/
set_option linter.unusedVariables false
namespace Go.Proofs.Ytfpkibfofainaaa
open Go.RowKit

/-- A panic with an error code. -/
@[reducible] def errPanic (c : Int) : PanicEntry := { v := .iface 31 (.int .i64 c), recovered := false }
theorem assert_errno (W : World) (xT : TypeId) (v : Value) : (Instr.typeAssert (.iface 31 v) xT 31 true).run Try.prog W = .ok (.tuple #[v, .bool true]) W := by kernel_rfl
theorem wpS_of_wp' {P : Program} {c : Code} {Q : Exit → Act → List Frame → World → Prop} {a : Act} {cs : List Frame} {w : World} (h : ∀ Q' : Exit → Act → World → Prop, (∀ e a' w', Q e a' cs w' → Q' e a' w') → c.wp P Q' a w) : c.wpS P Q a cs w := wpS_of_wp (h _ fun _ _ _ h => h)
set_option maxHeartbeats 1000000 in
theorem caught_panicking (p q : Nat) (x y : Int) (c : Int) (older : List PanicEntry) (w : World) (hp : w.cell? ⟨p, 0, none⟩ = some (.int .i64 x)) (hpf : w.frozen? ⟨p, 0, none⟩ = false) (hq : w.cell? ⟨q, 0, none⟩ = some (.int .i64 y)) (hqf : w.frozen? ⟨q, 0, none⟩ = false) (hpq : q ≠ p) :
    CallsD Try.prog 49 #[.pointer (some ⟨p, 0, none⟩), .pointer (some ⟨q, 0, none⟩)] (.panicking (errPanic c :: older)) w fun e u' w' =>
      e = .returned (.tuple #[]) ∧ u' = .panicking ({ v := .iface 31 (.int .i64 c), recovered := true } :: older) ∧ w' = (w.setCell ⟨p, 0, none⟩ (.int .i64 0)).setCell ⟨q, 0, none⟩ (.int .i64 c) := by
  refine callsD_of_wpS Try.func49 rfl fun c₀ cs hu => ?_
  apply wpS_seq
  apply wpS_region
  simp [wpOpsS, go_sem, recoverD, hu, Try.ntmps49, Exit.thenS]
  refine wpS_of_wp' fun Q' hQ => ?_
  have HQ := Lib.hid hQ
  clear hQ
  simp only [Array.replicate_succ, Array.replicate_zero, List.push_toArray, List.append_toArray, List.nil_append, List.cons_append, List.setIfInBounds_toArray, List.set_cons_succ, List.set_cons_zero]
  have has := assert_errno
  go_wp2_with fail
  refine HQ.out _ _ _ ?_
  simp [bodyPostS, results, Try.results49]
theorem caught_idle (p q : Nat) (w : World) :
    CallsD Try.prog 49 #[.pointer (some ⟨p, 0, none⟩), .pointer (some ⟨q, 0, none⟩)] .returning w fun e u' w' => e = .returned (.tuple #[]) ∧ u' = .returning ∧ w' = w := by
  refine callsD_of_wpS Try.func49 rfl fun c₀ cs hu => ?_
  apply wpS_seq
  apply wpS_region
  simp [wpOpsS, go_sem, recoverD, hu, Try.ntmps49, Exit.thenS]
  refine wpS_of_wp' fun Q' hQ => ?_
  have HQ := Lib.hid hQ
  clear hQ
  simp only [Array.replicate_succ, Array.replicate_zero, List.push_toArray, List.append_toArray, List.nil_append, List.cons_append, List.setIfInBounds_toArray, List.set_cons_succ, List.set_cons_zero]
  go_wp2_with fail
  refine HQ.out _ _ _ ?_
  clear HQ
  cases c₀
  simp_all [bodyPostS, results, Try.results49]

/-- A reader's block: its bytes, and how far it has come. -/
@[reducible] def rdO (v : Value) (i : Nat) : Obj := .cells #[v, .int .i64 i] 93 (0, 0)
theorem reader_info : (Try.prog.info? 93).map (·.size) = some 2 := by kernel_rfl
set_option maxHeartbeats 1000000 in
theorem open_ok (w : World) (bs : Option Addr) (n q : Nat) (i : Nat) (hi : i ≤ n) (hq : q ≤ 9223372036854775807) (hn : n ≤ q) :
    Calls Try.prog 50 #[.slice bs n q, .int .i64 i] w fun e w' => e = .returned (.pointer (some ⟨w.heap.size, 0, none⟩)) ∧ w' = w.alloc (rdO (.slice bs n q) i) := by
  have i1 : ¬ (i : Int) < 0 := by omega
  have i2 : ¬ (n : Int) < (i : Int) := by omega
  go_enter Try.func50, Try.ntmps50
  go_wp2
  go_ret
  exact ⟨rfl, rfl⟩
set_option maxHeartbeats 1000000 in
theorem open_bad (w : World) (bs : Option Addr) (n q : Nat) (i : Int) (hi : i < 0 ∨ (n : Int) < i) :
    Calls Try.prog 50 #[.slice bs n q, .int .i64 i] w fun e w' => e = .panicked [errPanic 1] ∧ w' = w := by
  by_cases i1 : i < 0
  · go_enter Try.func50, Try.ntmps50
    go_wp2
    exact ⟨rfl, rfl, rfl⟩
  · have i2 : (n : Int) < i := by omega
    go_enter Try.func50, Try.ntmps50
    go_wp2
    exact ⟨rfl, rfl, rfl⟩

/-- What the reader's steps do: its own block alone, which then says how far it has come. -/
structure RdW (W : World) (g : Nat) (v : Value) (i : Nat) (w' : World) : Prop where
  grown : W.grownBy w' (some g)
  blk : w'.heap[g]? = some (rdO v i)
theorem RdW.start {W : World} {g : Nat} {v : Value} {i : Nat} (h : W.heap[g]? = some (rdO v i)) : RdW W g v i W := ⟨⟨rfl, rfl, rfl, Nat.le_refl _, fun _ _ _ => rfl⟩, h⟩
theorem RdW.trans {W w1 w2 : World} {g : Nat} {v : Value} {i j : Nat} (h : RdW W g v i w1) (k : RdW w1 g v j w2) : RdW W g v j w2 :=
  ⟨⟨k.grown.os.trans h.grown.os, k.grown.tape.trans h.grown.tape, k.grown.output.trans h.grown.output, Nat.le_trans h.grown.size k.grown.size, fun x hx hne => (k.grown.block x (Nat.lt_of_lt_of_le hx h.grown.size) hne).trans (h.grown.block x hx hne)⟩, k.blk⟩
theorem RdW.bytes {w W w' : World} {g : Nat} {v u : Value} {i : Nat} {l : List UInt8} (h : RdW W g v i w') (hu : IsBytes w u l) (hg : w.heap.size ≤ g) (hs : w.heap.size ≤ W.heap.size) (hk : ∀ k, k < w.heap.size → W.heap[k]? = w.heap[k]?) : IsBytes w' u l :=
  hu.sub (Sub.of_heap fun k hk' => (h.grown.block k (Nat.lt_of_lt_of_le hk' hs) (fun e => by cases e; omega)).trans (hk k hk'))
theorem RdW.set {W w' : World} {g : Nat} {v : Value} {i j : Nat} (h : RdW W g v i w') (m : Nat) : RdW W g v j ((w'.drewN m).setCell ⟨g, 1, none⟩ (.int .i64 j)) := by
  have hs := heap_setCell_same (w'.drewN m) g 1 #[v, .int .i64 i] 93 (.int .i64 j) h.blk
  refine ⟨⟨h.grown.os, h.grown.tape, h.grown.output, ?_, fun x hx hne => ?_⟩, hs⟩
  · have := h.grown.size
    simpa [World.setCell] using this
  · exact (heap_setCell_other _ _ _ _ (fun e => hne (by rw [e]))).trans (h.grown.block x hx hne)
theorem rd_cells {W : World} {g i : Nat} {v : Value} (h : W.heap[g]? = some (rdO v i)) : W.cell? ⟨g, 0, none⟩ = some v ∧ W.cell? ⟨g, 1, none⟩ = some (.int .i64 i) ∧ W.frozen? ⟨g, 1, none⟩ = false := by
  refine ⟨?_, ?_, frozen_of_row _ _ _ _ _ h⟩ <;> rw [cell_of_row _ _ _ _ _ _ h] <;> rfl

set_option maxHeartbeats 1000000 in
theorem take_ok (W : World) (g : Nat) (bs : Option Addr) (n q i k : Nat) (hb : W.heap[g]? = some (rdO (.slice bs n q) i)) (hq : q ≤ 9223372036854775807) (hn : n ≤ q) (hk : i + k ≤ n) :
    Calls Try.prog 66 #[.pointer (some ⟨g, 0, none⟩), .int .u64 k] W fun e w' => e = .returned (.slice (if i + k = i then bs else bs.map (·.add i)) k k) ∧ RdW W g (.slice bs n q) (i + k) w' := by
  obtain ⟨c0, c1, cf⟩ := rd_cells hb
  have HB := Lib.hid hb
  clear hb
  by_cases hk0 : k = 0
  · subst hk0
    rw [Nat.add_zero, if_pos rfl]
    have i1 : ¬ ((n : Int) - (i : Int)) < 0 := by omega
    go_enter Try.func66, Try.ntmps66
    go_wp2_with fail
    go_quiet (fail)
    go_wp2_with fail
    go_quiet (fail)
    go_wp2_with fail
    go_ret
    exact ⟨rfl, (RdW.start HB.out).set _⟩
  · have i1 : ¬ ((n : Int) - (i : Int)) < (k : Int) := by omega
    have i2 : ¬ i + k = i := by omega
    rw [if_neg i2]
    have e1 : (i : Int) + (k : Int) = ((i + k : Nat) : Int) := by omega
    have E1 := Lib.hid e1
    clear e1
    go_enter Try.func66, Try.ntmps66
    go_wp2_with fail
    go_quiet (fail)
    go_wp2_with fail
    go_quiet (fail)
    go_wp2_with fail
    all_goals
      rw [E1.out]
      go_ret
      refine ⟨?_, (RdW.start HB.out).set _⟩
      first
        | rfl
        | (show Ending.returned (Value.slice _ (i + k - i) (i + k - i)) = _; rw [Nat.add_sub_cancel_left])
set_option maxHeartbeats 1000000 in
theorem take_bad (W : World) (g : Nat) (bs : Option Addr) (n q i k : Nat) (hb : W.heap[g]? = some (rdO (.slice bs n q) i)) (hq : q ≤ 9223372036854775807) (hn : n ≤ q) (hi : i ≤ n) (hk : n < i + k) :
    Calls Try.prog 66 #[.pointer (some ⟨g, 0, none⟩), .int .u64 k] W fun e w' => e = .panicked [errPanic 41] ∧ RdW W g (.slice bs n q) i w' := by
  obtain ⟨c0, c1, cf⟩ := rd_cells hb
  have HB := Lib.hid hb
  clear hb
  have i1 : ((n : Int) - (i : Int)) < (k : Int) := by omega
  go_enter Try.func66, Try.ntmps66
  go_wp2_with fail
  go_quiet (fail)
  go_wp2_with fail
  exact ⟨rfl, rfl, ⟨⟨rfl, rfl, rfl, Nat.le_refl _, fun _ _ _ => rfl⟩, HB.out⟩⟩

theorem and127 (c : UInt8) : bits .and .u8 (c.toNat : Int) 127 = ((c.toNat % 128 : Nat) : Int) := by
  have h : ∀ x : Fin 256, x.val &&& 127 = x.val % 128 := by decide +kernel
  rw [show (127 : Int) = ((127 : Nat) : Int) from rfl, u8_and_nat _ _ (by have := c.toNat_lt; omega) (by omega), h ⟨c.toNat, by have := c.toNat_lt; omega⟩]
theorem or_shift {acc x i : Nat} (ha : acc < 2 ^ (7 * i)) (hx : acc + x * 2 ^ (7 * i) < 18446744073709551616) : bits .or .u64 (acc : Int) ((x * 2 ^ (7 * i) : Nat) : Int) = ((acc + x * 2 ^ (7 * i) : Nat) : Int) := by
  rw [u64_or_nat _ _ (by omega) (by omega)]
  congr 1
  rw [Nat.or_comm, Nat.mul_comm, ← Nat.two_pow_add_eq_or_of_lt ha, Nat.add_comm]

theorem num_bits {acc i d : Nat} {z : Int} (hz : z = (d : Int)) (ha : acc < 2 ^ (7 * i)) (hi : i ≤ 9) (hd : d < 128) (h9 : i = 9 → d ≤ 1) :
    bits BinOp.or IntKind.u64 (acc : Int) (IntKind.u64.wrap (IntKind.u64.wrap z * 2 ^ (7 * i))) = ((acc + d * 2 ^ (7 * i) : Nat) : Int) := by
  have hw : ∀ z : Int, IntKind.u64.wrap z = z % 18446744073709551616 := fun z => rfl
  have hlt : acc + d * 2 ^ (7 * i) < 18446744073709551616 := by
    by_cases e : i = 9
    · subst e
      have := Nat.mul_le_mul_right (2 ^ (7 * 9)) (h9 rfl)
      omega
    · have h1 : 2 ^ (7 * i) ≤ 2 ^ 56 := Nat.pow_le_pow_right (by decide) (by omega)
      have h2 : d * 2 ^ (7 * i) ≤ 127 * 2 ^ 56 := Nat.mul_le_mul (by omega) h1
      omega
  rw [hw, hw, hz]
  have e1 : (d : Int) % 18446744073709551616 = (d : Int) := by omega
  rw [e1]
  have e2 : (d : Int) * 2 ^ (7 * i) = ((d * 2 ^ (7 * i) : Nat) : Int) := by simp
  rw [e2]
  have e3 : ((d * 2 ^ (7 * i) : Nat) : Int) % 18446744073709551616 = ((d * 2 ^ (7 * i) : Nat) : Int) := by omega
  rw [e3]
  exact or_shift ha hlt
theorem acc_lt {acc i d : Nat} (ha : acc < 2 ^ (7 * i)) (hd : d < 128) : acc + d * 2 ^ (7 * i) < 2 ^ (7 * (i + 1)) := by
  rw [Wire.pow7]
  have : d * 2 ^ (7 * i) ≤ 127 * 2 ^ (7 * i) := Nat.mul_le_mul_right _ (by omega)
  omega
set_option maxHeartbeats 1000000 in
set_option maxRecDepth 10000 in
theorem number_ok (W : World) (g : Nat) (bs : Option Addr) (n q i0 : Nat) (l : List UInt8) (hb : W.heap[g]? = some (rdO (.slice bs n q) i0)) (hv : IsBytes W (.slice bs n q) l) (hoff : ∀ i wr, RdW W g (.slice bs n q) i wr → IsBytes wr (.slice bs n q) l) (hi : i0 ≤ l.length)
    (m k : Nat) (hd : Wire.dec (l.drop i0) = .ok (m, k)) :
    Calls Try.prog 51 #[.pointer (some ⟨g, 0, none⟩)] W fun e w' => e = .returned (.int .u64 m) ∧ RdW W g (.slice bs n q) (i0 + k) w' := by
  obtain ⟨_, _, e, hlen, hcap, -, -⟩ := hv.out
  cases e
  unfold maxLen at hcap
  go_enter Try.func51, Try.ntmps51
  go_wp2
  go_loopw [2, 3] (fun nv iv wr => ∃ i acc : Nat, i ≤ 9 ∧ nv = .int .u64 acc ∧ iv = .int .i64 i ∧ acc < 2 ^ (7 * i) ∧ i0 + i ≤ l.length ∧ Wire.decU (10 - i) i acc (l.drop (i0 + i)) = .ok (m, k) ∧ RdW W g (.slice bs l.length q) (i0 + i) wr) (fun _ iv _ => 10 - (intOf iv).toNat)
  case atStart => exact ⟨0, 0, by omega, rfl, rfl, by simp, by omega, hd, RdW.start hb⟩
  case round =>
    obtain ⟨i, acc, hi9, rfl, rfl, hacc, hil, hdec, hrd⟩ := hrel
    have i1 : (i : Int) < 10 := by omega
    have hd2 := hdec
    rw [show 10 - i = (9 - i) + 1 by omega] at hd2
    by_cases hend : i0 + i = l.length
    · rw [List.drop_of_length_le (by omega)] at hd2
      simp [Wire.decU] at hd2
    have hil2 : i0 + i < l.length := by omega
    rw [List.drop_eq_getElem_cons hil2] at hd2
    unfold Wire.decU at hd2
    have HD := Lib.hid hd2
    have HR := Lib.hid hrd
    clear hd2 hdec hrd
    go_wp2_with fail
    refine (take_ok _ g bs l.length q (i0 + i) 1 HR.out.blk (by omega) hlen (by omega)).mono ?_
    rintro e w1 ⟨rfl, hr1⟩
    replace hr1 := HR.out.trans hr1
    obtain ⟨_, _, e, -, -, -, hcell⟩ := (hoff _ _ hr1).out
    cases e
    obtain ⟨b, off, rfl, hc⟩ := hcell (i0 + i) hil2
    clear hcell
    obtain ⟨c, hcc⟩ : ∃ c, l[i0 + i] = c := ⟨_, rfl⟩
    rw [hcc] at hc
    have HCC := Lib.hid hcc
    clear hcc
    have hne1 : ¬ i0 + i + 1 = i0 + i := by omega
    rw [if_neg hne1]
    simp only [Option.map_some, Addr.add_lit]
    have ha := and127 c
    have hc256 := c.toNat_lt
    obtain ⟨d, hdd⟩ : ∃ d, c.toNat % 128 = d := ⟨_, rfl⟩
    rw [hdd] at ha
    have hd128 : d < 128 := by omega
    have HA := Lib.hid ha
    clear ha
    have hHD := HD.out
    rw [HCC.out, hdd] at hHD
    go_upto_region 6 with fail
    by_cases h128 : c.toNat < 128
    · rw [if_pos h128] at hHD
      have hdc : d = c.toNat := by omega
      by_cases hbad : (i = 9 ∧ 1 < c.toNat) ∨ (0 < i ∧ c.toNat = 0)
      · rw [if_pos hbad] at hHD; cases hHD
      · rw [if_neg hbad] at hHD
        have hm : m = acc + d * 2 ^ (7 * i) ∧ k = i + 1 := by cases hHD; exact ⟨rfl, rfl⟩
        clear hHD
        obtain ⟨rfl, rfl⟩ := hm
        rw [num_bits HA.out hacc hi9 hd128 (fun h => by omega)]
        have hR2 : RdW W g (Value.slice (some ⟨b, off, none⟩) l.length q) (i0 + (i + 1)) w1 := by rw [← Nat.add_assoc]; exact hr1
        have HR2 := Lib.hid hR2
        clear hR2 hr1 hc
        have j1 : (c.toNat : Int) < 128 := by omega
        by_cases e9 : i = 9
        · subst e9
          have j2 : ¬ 1 < (c.toNat : Int) := by omega
          have j3 : ((c.toNat : Int) == 0) = false := by simp; omega
          clear hbad h128 HA HD HCC hdd hdc
          go_wp2
          go_ret
          exact ⟨rfl, HR2.out⟩
        · have j2 : ((i : Int) == 9) = false := by simp; omega
          by_cases e0 : i = 0
          · subst e0
            clear hbad h128 HA HD HCC hdd hdc
            go_wp2
            go_ret
            exact ⟨rfl, HR2.out⟩
          · have j3 : (0 : Int) < (i : Int) := by omega
            have j4 : ((c.toNat : Int) == 0) = false := by simp; omega
            clear hbad h128 HA HD HCC hdd hdc
            go_wp2
            go_ret
            exact ⟨rfl, HR2.out⟩
    · rw [if_neg h128] at hHD
      have hi8 : i ≤ 8 := by
        rcases Nat.lt_or_ge i 9 with h | h
        · omega
        · exfalso
          rw [show 9 - i = 0 by omega] at hHD
          simp [Wire.decU] at hHD
      rw [num_bits HA.out hacc hi9 hd128 (fun h => by omega)]
      have j1 : ¬ (c.toNat : Int) < 128 := by omega
      have HH := Lib.hid hHD
      clear h128 hHD HA HD HCC hdd hc
      go_wp2
      go_roundw
      case rel => exact ⟨i + 1, acc + d * 2 ^ (7 * i), by omega, rfl, by go_num, acc_lt hacc hd128, by omega, by rw [show 10 - (i + 1) = 9 - i by omega, ← Nat.add_assoc]; exact HH.out, by rw [← Nat.add_assoc]; exact hr1⟩
      case measure => simp [intOf]; omega

set_option maxHeartbeats 1000000 in
set_option maxRecDepth 10000 in
theorem number_err (W : World) (g : Nat) (bs : Option Addr) (n q i0 : Nat) (l : List UInt8) (hb : W.heap[g]? = some (rdO (.slice bs n q) i0)) (hv : IsBytes W (.slice bs n q) l) (hoff : ∀ i wr, RdW W g (.slice bs n q) i wr → IsBytes wr (.slice bs n q) l) (hi : i0 ≤ l.length)
    (code : Int) (hd : Wire.dec (l.drop i0) = .error code) :
    Calls Try.prog 51 #[.pointer (some ⟨g, 0, none⟩)] W fun e w' => e = .panicked [errPanic code] ∧ ∃ j, RdW W g (.slice bs n q) j w' := by
  obtain ⟨_, _, e, hlen, hcap, -, -⟩ := hv.out
  cases e
  unfold maxLen at hcap
  go_enter Try.func51, Try.ntmps51
  go_wp2
  go_loopw [2, 3] (fun nv iv wr => ∃ (i : Nat) (z : Int), i ≤ 10 ∧ nv = .int .u64 z ∧ iv = .int .i64 i ∧ (i ≤ 9 → ∃ acc : Nat, z = acc ∧ acc < 2 ^ (7 * i) ∧ Wire.decU (10 - i) i acc (l.drop (i0 + i)) = .error code) ∧ (i = 10 → code = 3) ∧ i0 + i ≤ l.length ∧ RdW W g (.slice bs l.length q) (i0 + i) wr) (fun _ iv _ => 10 - (intOf iv).toNat)
  case atStart => exact ⟨0, 0, by omega, rfl, rfl, fun _ => ⟨0, rfl, by simp, hd⟩, fun h => by omega, by omega, RdW.start hb⟩
  case round =>
    obtain ⟨i, z, hi10, rfl, rfl, hst, h3, hil, hrd⟩ := hrel
    by_cases e10 : i = 10
    · subst e10
      obtain rfl := h3 rfl
      clear hst h3
      go_wp2
      exact ⟨rfl, rfl, _, hrd⟩
    obtain ⟨acc, rfl, hacc, hdec⟩ := hst (by omega)
    have hi9 : i ≤ 9 := by omega
    clear hst h3
    have i1 : (i : Int) < 10 := by omega
    have hd2 := hdec
    rw [show 10 - i = (9 - i) + 1 by omega] at hd2
    by_cases hend : i0 + i = l.length
    · rw [List.drop_of_length_le (by omega)] at hd2
      have hcode : code = 41 := by simpa [Wire.decU] using hd2.symm
      subst hcode
      clear hd2 hdec
      have HR := Lib.hid hrd
      clear hrd e10
      go_wp2_with fail
      refine (take_bad _ g bs l.length q (i0 + i) 1 HR.out.blk (by omega) hlen (by omega) (by omega)).mono ?_
      rintro e w1 ⟨rfl, hr1⟩
      go_wp2
      exact ⟨rfl, rfl, _, HR.out.trans hr1⟩
    have hil2 : i0 + i < l.length := by omega
    rw [List.drop_eq_getElem_cons hil2] at hd2
    unfold Wire.decU at hd2
    have HD := Lib.hid hd2
    have HR := Lib.hid hrd
    clear hd2 hdec hrd
    go_wp2_with fail
    refine (take_ok _ g bs l.length q (i0 + i) 1 HR.out.blk (by omega) hlen (by omega)).mono ?_
    rintro e w1 ⟨rfl, hr1⟩
    replace hr1 := HR.out.trans hr1
    obtain ⟨_, _, e, -, -, -, hcell⟩ := (hoff _ _ hr1).out
    cases e
    obtain ⟨b, off, rfl, hc⟩ := hcell (i0 + i) hil2
    clear hcell
    obtain ⟨c, hcc⟩ : ∃ c, l[i0 + i] = c := ⟨_, rfl⟩
    rw [hcc] at hc
    have HCC := Lib.hid hcc
    clear hcc
    have hne1 : ¬ i0 + i + 1 = i0 + i := by omega
    rw [if_neg hne1]
    simp only [Option.map_some, Addr.add_lit]
    have ha := and127 c
    have hc256 := c.toNat_lt
    obtain ⟨d, hdd⟩ : ∃ d, c.toNat % 128 = d := ⟨_, rfl⟩
    rw [hdd] at ha
    have hd128 : d < 128 := by omega
    have HA := Lib.hid ha
    clear ha
    have hHD := HD.out
    rw [HCC.out, hdd] at hHD
    have hR2 : RdW W g (Value.slice (some ⟨b, off, none⟩) l.length q) (i0 + (i + 1)) w1 := by rw [← Nat.add_assoc]; exact hr1
    have HR2 := Lib.hid hR2
    clear hR2 hr1
    go_upto_region 6 with fail
    clear hc
    by_cases h128 : c.toNat < 128
    · rw [if_pos h128] at hHD
      have j1 : (c.toNat : Int) < 128 := by omega
      by_cases hbad : (i = 9 ∧ 1 < c.toNat) ∨ (0 < i ∧ c.toNat = 0)
      · rw [if_pos hbad] at hHD
        have hcode : code = 3 := by cases hHD; rfl
        subst hcode
        generalize bits BinOp.or IntKind.u64 _ _ = z2
        by_cases e9 : i = 9
        · subst e9
          by_cases e1 : 1 < c.toNat
          · have j2 : 1 < (c.toNat : Int) := by omega
            clear hbad h128 HA HD HCC hdd hHD
            go_wp2
            exact ⟨rfl, rfl, _, HR2.out⟩
          · have j2 : ¬ 1 < (c.toNat : Int) := by omega
            have j3 : ((c.toNat : Int) == 0) = true := by simp; omega
            clear hbad h128 HA HD HCC hdd hHD e1
            go_wp2
            exact ⟨rfl, rfl, _, HR2.out⟩
        · have j2 : ((i : Int) == 9) = false := by simp; omega
          have j3 : (0 : Int) < (i : Int) := by omega
          have j4 : ((c.toNat : Int) == 0) = true := by simp; omega
          clear hbad h128 HA HD HCC hdd hHD
          go_wp2
          exact ⟨rfl, rfl, _, HR2.out⟩
      · rw [if_neg hbad] at hHD; cases hHD
    · rw [if_neg h128] at hHD
      have j1 : ¬ (c.toNat : Int) < 128 := by omega
      by_cases e9 : i = 9
      · have hcode : code = 3 := by
          rw [show 9 - i = 0 by omega] at hHD
          simpa [Wire.decU] using hHD.symm
        subst hcode
        generalize bits BinOp.or IntKind.u64 _ _ = z2
        clear h128 HA HD HCC hdd hHD
        go_wp2
        go_roundw
        case rel => exact ⟨i + 1, _, by omega, rfl, by go_num, fun h => by omega, fun _ => by trivial, by omega, HR2.out⟩
        case measure => simp [intOf]; omega
      · rw [num_bits HA.out hacc hi9 hd128 (fun h => by omega)]
        have HH := Lib.hid hHD
        clear h128 hHD HA HD HCC hdd
        go_wp2
        go_roundw
        case rel => exact ⟨i + 1, _, by omega, rfl, by go_num, fun _ => ⟨_, rfl, acc_lt hacc hd128, by rw [show 10 - (i + 1) = 9 - i by omega, ← Nat.add_assoc]; exact HH.out⟩, fun h => by omega, by omega, HR2.out⟩
        case measure => simp [intOf]; omega
end Go.Proofs.Ytfpkibfofainaaa
/- The walks over package wire: ReadUint, ReadInt, ReadText. -/
namespace Go.Proofs.Ytfpkibfofainaaa
open Go.RowKit

/-- What is read at an offset: the number, where it goes on, the code. -/
def Wire.readU (l : List UInt8) (i : Int) : Nat × Int × Int :=
  if i < 0 ∨ (l.length : Int) < i then (0, 0, 1) else match dec (l.drop i.toNat) with
    | .error c => (0, 0, c)
    | .ok (n, k) => (n, i + k, 0)

theorem readU_lt (l : List UInt8) (i : Int) : (Wire.readU l i).1 < 2 ^ 64 := by
  unfold Wire.readU
  split
  · exact (by decide : (0 : Nat) < 2 ^ 64)
  · split
    · exact (by decide : (0 : Nat) < 2 ^ 64)
    · rename_i n k h
      exact (Wire.dec_ok h).1
theorem zag_bits {n : Nat} (h : n < 2 ^ 64) : bits BinOp.xor IntKind.i64 (wrap64 ((n : Int) / 2)) (wrap64 (-wrap64 (bits BinOp.and IntKind.u64 (n : Int) 1))) = Wire.zag n := by
  rw [Lib.u64_and1 _ (by omega) (by omega)]
  have e1 : wrap64 ((n : Int) / 2) = ((n / 2 : Nat) : Int) := by unfold wrap64; omega
  rw [e1]
  unfold Wire.zag
  by_cases ho : n % 2 = 1
  · rw [if_pos ho]
    have e2 : wrap64 (-wrap64 ((n : Int) % 2)) = -1 := by unfold wrap64; omega
    rw [e2]
    have := Lib.i64_not (n / 2) (by omega)
    have hc : bits BinOp.xor IntKind.i64 ((n / 2 : Nat) : Int) (-1) = bits BinOp.xor IntKind.i64 (-1) ((n / 2 : Nat) : Int) := by
      show IntKind.i64.wrap ((BitVec.ofInt 64 ((n / 2 : Nat) : Int) ^^^ BitVec.ofInt 64 (-1)).toNat : Int) = IntKind.i64.wrap ((BitVec.ofInt 64 (-1) ^^^ BitVec.ofInt 64 ((n / 2 : Nat) : Int)).toNat : Int)
      rw [BitVec.xor_comm]
    rw [hc, this]
  · rw [if_neg ho]
    have e2 : wrap64 (-wrap64 ((n : Int) % 2)) = 0 := by unfold wrap64; omega
    rw [e2]
    show IntKind.i64.wrap ((BitVec.ofInt 64 ((n / 2 : Nat) : Int) ^^^ BitVec.ofInt 64 0).toNat : Int) = _
    have h2 : (BitVec.ofInt 64 ((n / 2 : Nat) : Int)).toNat = n / 2 := by
      rw [BitVec.ofInt_natCast, BitVec.toNat_ofNat]; exact Nat.mod_eq_of_lt (by omega)
    have h3 : (BitVec.ofInt 64 0).toNat = 0 := by decide
    rw [BitVec.toNat_xor, h2, h3, Nat.xor_zero, IntKind.wrap_i64]
    omega
def Wire.readI (l : List UInt8) (i : Int) : Int × Int × Int := match readU l i with
  | (n, x, c) => if c = 0 then (zag n, x, 0) else (0, 0, c)
@[reducible] def intO (x : Int) : Obj := .cells #[.int .i64 x] 3 (0, 0)
@[reducible] def errO (x : Int) : Obj := .cells #[.int .i64 x] 31 (0, 0)
@[reducible] def caughtD (p q : Nat) : Deferred := { target := .fn (.func 49) #[], args := #[.pointer (some ⟨p, 0, none⟩), .pointer (some ⟨q, 0, none⟩)] }
theorem one_cell {W : World} {g : Nat} {v : Value} {t : TypeId} (h : W.heap[g]? = some (.cells #[v] t (0, 0))) : W.cell? ⟨g, 0, none⟩ = some v ∧ W.frozen? ⟨g, 0, none⟩ = false := ⟨by rw [cell_of_row _ _ _ _ _ _ h]; rfl, frozen_of_row _ _ _ _ _ h⟩
section
variable {fn : Func} {R : Ending → World → Prop} {tmps : Array Value} {v4 : Value} {p q : Nat} {W : World}
/-- The results, read behind the deferred call. -/
theorem door_results (hres : fn.results = #[.tmp 4, .cell 5 3, .cell 6 31]) {x y : Int} (h4 : tmps.getD 4 undef = v4) (h5 : tmps.getD 5 undef = .pointer (some ⟨p, 0, none⟩)) (h6 : tmps.getD 6 undef = .pointer (some ⟨q, 0, none⟩))
    (hp : W.cell? ⟨p, 0, none⟩ = some (.int .i64 x)) (hq : W.cell? ⟨q, 0, none⟩ = some (.int .i64 y)) : (results fn tmps).run Try.prog W = .ok (.tuple #[v4, .int .i64 x, .int .i64 y]) W := by
  have h4' : tmps[4]?.getD undef = v4 := by simpa using h4
  have h5' : tmps[5]?.getD undef = .pointer (some ⟨p, 0, none⟩) := by simpa using h5
  have h6' : tmps[6]?.getD undef = .pointer (some ⟨q, 0, none⟩) := by simpa using h6
  simp [results, hres, h4', h5', h6', go_sem, hp, hq]
theorem door_err (hres : fn.results = #[.tmp 4, .cell 5 3, .cell 6 31]) {x y c : Int} (h4 : tmps.getD 4 undef = v4) (h5 : tmps.getD 5 undef = .pointer (some ⟨p, 0, none⟩)) (h6 : tmps.getD 6 undef = .pointer (some ⟨q, 0, none⟩))
    (hp : W.heap[p]? = some (intO x)) (hq : W.heap[q]? = some (errO y)) (hpq : q ≠ p)
    (hR : R (.returned (.tuple #[v4, .int .i64 0, .int .i64 c])) ((W.setCell ⟨p, 0, none⟩ (.int .i64 0)).setCell ⟨q, 0, none⟩ (.int .i64 c))) : bodyPostD Try.prog fn R (.panic [errPanic c]) ⟨tmps, [caughtD p q]⟩ W := by
  obtain ⟨p1, p2⟩ := one_cell hp
  obtain ⟨q1, q2⟩ := one_cell hq
  refine leaves_cons (f := 49) (args := #[.pointer (some ⟨p, 0, none⟩), .pointer (some ⟨q, 0, none⟩)]) (by simp) (by simp [go_sem]) ?_
  refine (caught_panicking p q x y c [] W p1 p2 q1 q2 hpq).mono ?_
  rintro e u' w'' ⟨rfl, rfl, rfl⟩
  have k1 := heap_setCell_same W p 0 _ _ (.int .i64 0) hp
  have k2 := heap_setCell_same (W.setCell ⟨p, 0, none⟩ (.int .i64 0)) q 0 _ _ (.int .i64 c) ((heap_setCell_other W ⟨p, 0, none⟩ q _ hpq).trans hq)
  have k3 := (heap_setCell_other (W.setCell ⟨p, 0, none⟩ (.int .i64 0)) ⟨q, 0, none⟩ p (.int .i64 c) (Ne.symm hpq)).trans k1
  exact ⟨_, door_results hres h4 h5 h6 (one_cell (v := .int .i64 0) k3).1 (one_cell (v := .int .i64 c) k2).1, hR⟩
theorem door_ok (hres : fn.results = #[.tmp 4, .cell 5 3, .cell 6 31]) {x y : Int} (h4 : tmps.getD 4 undef = v4) (h5 : tmps.getD 5 undef = .pointer (some ⟨p, 0, none⟩)) (h6 : tmps.getD 6 undef = .pointer (some ⟨q, 0, none⟩))
    (hp : W.heap[p]? = some (intO x)) (hq : W.heap[q]? = some (errO y)) (hR : R (.returned (.tuple #[v4, .int .i64 x, .int .i64 y])) W) : bodyPostD Try.prog fn R .ret ⟨tmps, [caughtD p q]⟩ W := by
  refine leaves_cons (f := 49) (args := #[.pointer (some ⟨p, 0, none⟩), .pointer (some ⟨q, 0, none⟩)]) (by simp) (by simp [go_sem]) ?_
  refine (caught_idle p q W).mono ?_
  rintro e u' w'' ⟨rfl, rfl, rfl⟩
  exact ⟨_, door_results hres h4 h5 h6 (one_cell hp).1 (one_cell hq).1, hR⟩
end
set_option maxHeartbeats 1000000 in
theorem readUint_any (w : World) (v : Value) (l : List UInt8) (i : Int) (hv : IsBytes w v l) :
    Calls Try.prog 19 #[v, .int .i64 i] w fun e w' => e = .returned (.tuple #[.int .u64 (Wire.readU l i).1, .int .i64 (Wire.readU l i).2.1, .int .i64 (Wire.readU l i).2.2]) ∧ Below w.heap.size w w' := by
  obtain ⟨bs, q, rfl, hlen, hcap, hnil, -⟩ := hv.out
  unfold maxLen at hcap
  by_cases hbad : i < 0 ∨ (l.length : Int) < i
  · have hr : Wire.readU l i = (0, 0, 1) := by unfold Wire.readU; rw [if_pos hbad]
    rw [hr]
    go_enter_defers Try.func19, Try.ntmps19
    go_wp2_with fail
    refine (open_bad _ bs l.length q i hbad).mono ?_
    rintro e w1 ⟨rfl, rfl⟩
    go_wp2_with fail
    refine door_err rfl rfl rfl rfl (x := 0) (y := 0) ?_ ?_ (by omega) ⟨rfl, ?_⟩
    · exact heap_alloc2_old _ _ _
    · exact heap_alloc2_new _ _ _
    · exact (((Below.refl _ _).alloc (Nat.le_refl _) _).alloc (by simp) _).setCell (Nat.le_refl _) _ |>.setCell (by simp) _
  · obtain ⟨j, rfl⟩ := Int.eq_ofNat_of_zero_le (show 0 ≤ i by omega)
    have hj : j ≤ l.length := by omega
    have hb0 : Below w.heap.size w ((w.alloc (intO 0)).alloc (errO 0)) := (((Below.refl _ _).alloc (Nat.le_refl _) _).alloc (by simp) _)
    have hp0 : ((w.alloc (intO 0)).alloc (errO 0)).heap[w.heap.size]? = some (intO 0) := heap_alloc2_old _ _ _
    have hq0 : ((w.alloc (intO 0)).alloc (errO 0)).heap[w.heap.size + 1]? = some (errO 0) := by have := heap_alloc2_new w (intO 0) (errO 0); simpa using this
    have hs0 : ((w.alloc (intO 0)).alloc (errO 0)).heap.size = w.heap.size + 2 := by simp
    have HH := Lib.hid (And.intro hb0 (And.intro hp0 (And.intro hq0 hs0)))
    clear hb0 hp0 hq0 hs0
    go_enter_defers Try.func19, Try.ntmps19
    go_wp2_with fail
    generalize (w.alloc _).alloc _ = W0 at HH ⊢
    refine (open_ok W0 bs l.length q j hj hcap hlen).mono ?_
    rintro e w1 ⟨rfl, rfl⟩
    go_upto_region 3 with fail
    have hg0 : (W0.alloc (rdO (.slice bs l.length q) j)).heap[W0.heap.size]? = some (rdO (.slice bs l.length q) j) := heap_alloc_new _ _
    have hoff : ∀ i wr, RdW (W0.alloc (rdO (.slice bs l.length q) j)) W0.heap.size (.slice bs l.length q) i wr → IsBytes wr (.slice bs l.length q) l := fun i wr h => h.bytes hv (by have := HH.out.1.size; omega) (by have := HH.out.1.size; simp; omega) (fun k hk => by rw [Below.heap_alloc _ _ _ (Nat.lt_of_lt_of_le hk HH.out.1.size)]; exact HH.out.1.block k hk)
    have hp1 : (W0.alloc (rdO (.slice bs l.length q) j)).heap[w.heap.size]? = some (intO 0) := (Below.heap_alloc _ _ _ (by have := HH.out.2.2.2; omega)).trans HH.out.2.1
    have hq1 : (W0.alloc (rdO (.slice bs l.length q) j)).heap[w.heap.size + 1]? = some (errO 0) := (Below.heap_alloc _ _ _ (by have := HH.out.2.2.2; omega)).trans HH.out.2.2.1
    have hb1 : Below w.heap.size w (W0.alloc (rdO (.slice bs l.length q) j)) := HH.out.1.alloc HH.out.1.size _
    have hgs : W0.heap.size = w.heap.size + 2 := HH.out.2.2.2
    generalize hg : W0.heap.size = g at hg0 hoff hgs ⊢
    have hgl : g < (W0.alloc (rdO (.slice bs l.length q) j)).heap.size := by simp; omega
    generalize W0.alloc _ = W1 at hg0 hoff hp1 hq1 hb1 hgl ⊢
    clear hg HH
    have HF := Lib.hid (And.intro hp1 (And.intro hq1 (And.intro hb1 (And.intro hgs hgl))))
    clear hp1 hq1 hb1 hgs hgl
    cases hd : Wire.dec (l.drop j) with
    | error code =>
      have hr : Wire.readU l j = (0, 0, code) := by unfold Wire.readU; rw [if_neg hbad, Int.toNat_natCast, hd]
      have HRD := Lib.hid hr
      clear hr
      go_wp2_with fail
      refine (number_err W1 g bs l.length q j l hg0 (hoff _ _ (RdW.start hg0)) hoff hj code hd).mono ?_
      rintro e w2 ⟨rfl, j2, hr2⟩
      go_wp2_with fail
      have hgs := HF.out.2.2.2.1
      have hgl := HF.out.2.2.2.2
      refine door_err rfl rfl rfl rfl (x := 0) (y := 0) ((hr2.grown.block _ (by omega) (fun e => by cases e; omega)).trans HF.out.1) ((hr2.grown.block _ (by omega) (fun e => by cases e; omega)).trans HF.out.2.1) (by omega) ?_
      rw [HRD.out]
      exact ⟨rfl, ((Below.grown HF.out.2.2.1 hr2.grown HF.out.2.2.1.size (fun k hk => by cases hk; omega)).setCell (Nat.le_refl _) _).setCell (by simp) _⟩
    | ok nk =>
      obtain ⟨n, k⟩ := nk
      have hr : Wire.readU l j = (n, (j : Int) + k, 0) := by unfold Wire.readU; rw [if_neg hbad, Int.toNat_natCast, hd]
      have HRD := Lib.hid hr
      clear hr
      go_wp2_with fail
      refine (number_ok W1 g bs l.length q j l hg0 (hoff _ _ (RdW.start hg0)) hoff hj n k hd).mono ?_
      rintro e w2 ⟨rfl, hr2⟩
      go_upto_region 4 with fail
      have hgs := HF.out.2.2.2.1
      have hgl := HF.out.2.2.2.2
      obtain ⟨-, c1, -⟩ := rd_cells hr2.blk
      have hp2 := (hr2.grown.block w.heap.size (by omega) (fun e => by cases e; omega)).trans HF.out.1
      have hq2 := (hr2.grown.block (w.heap.size + 1) (by omega) (fun e => by cases e; omega)).trans HF.out.2.1
      obtain ⟨p1, p2⟩ := one_cell hp2
      obtain ⟨q1, q2⟩ := one_cell hq2
      have n1 : g ≠ w.heap.size := by omega
      have n2 : g ≠ w.heap.size + 1 := by omega
      have hb2 := Below.grown HF.out.2.2.1 hr2.grown HF.out.2.2.1.size (fun k hk => by cases hk; omega)
      have HQ := Lib.hid (And.intro hp2 (And.intro hq2 hb2))
      clear hp2 hq2 hb2 hgl hgs
      go_region
      go_wp2_with fail
      refine door_ok rfl rfl rfl rfl (x := (j : Int) + k) (y := 0) ?_ ?_ ?_
      · exact (heap_setCell_other _ ⟨w.heap.size + 1, 0, none⟩ _ _ (by simp)).trans (heap_setCell_same w2 w.heap.size 0 _ _ _ HQ.out.1)
      · exact heap_setCell_same _ (w.heap.size + 1) 0 _ _ _ ((heap_setCell_other _ ⟨w.heap.size, 0, none⟩ _ _ (by simp)).trans HQ.out.2.1)
      · rw [HRD.out]
        exact ⟨rfl, ((HQ.out.2.2.setCell (Nat.le_refl _) _).setCell (by simp) _).drew⟩
set_option maxHeartbeats 1000000 in
theorem readInt_any (w : World) (v : Value) (l : List UInt8) (i : Int) (hv : IsBytes w v l) :
    Calls Try.prog 44 #[v, .int .i64 i] w fun e w' => e = .returned (.tuple #[.int .i64 (Wire.readI l i).1, .int .i64 (Wire.readI l i).2.1, .int .i64 (Wire.readI l i).2.2]) ∧ Below w.heap.size w w' := by
  obtain ⟨n, x, c, hr⟩ : ∃ n x c, Wire.readU l i = (n, x, c) := ⟨_, _, _, rfl⟩
  have hi : Wire.readI l i = if c = 0 then (Wire.zag n, x, 0) else (0, 0, c) := by unfold Wire.readI; rw [hr]
  have h1 := readUint_any w v l i hv
  rw [hr] at h1
  rw [hi]
  by_cases hc : c = 0
  · subst hc
    rw [if_pos rfl]
    go_enter Try.func44, Try.ntmps44
    go_wp2_with fail
    refine h1.mono ?_
    rintro e w1 ⟨rfl, hb⟩
    clear h1
    have hz := zag_bits (n := n) (by have := readU_lt l i; rw [hr] at this; exact this)
    have HZ := Lib.hid hz
    clear hz
    go_wp2_with fail
    rw [HZ.out]
    go_ret3
    exact ⟨rfl, hb⟩
  · rw [if_neg hc]
    have hc1 : (c != 0) = true := by simpa using hc
    go_enter Try.func44, Try.ntmps44
    go_wp2_with fail
    refine h1.mono ?_
    rintro e w1 ⟨rfl, hb⟩
    clear h1
    go_wp2_with fail
    go_ret3
    exact ⟨rfl, hb⟩
end Go.Proofs.Ytfpkibfofainaaa
/- The walk over package wire: ReadText. -/
namespace Go.Proofs.Ytfpkibfofainaaa
open Go.RowKit

def Wire.readT (l : List UInt8) (i : Int) : List UInt8 × Int × Int :=
  if i < 0 ∨ (l.length : Int) < i then ([], 0, 1) else match decT (l.drop i.toNat) with
    | .error c => ([], 0, c)
    | .ok (s, k) => (s, i + k, 0)
set_option maxHeartbeats 1000000 in
theorem readText_any (w : World) (v : Value) (l : List UInt8) (i : Int) (hv : IsBytes w v l) :
    Calls Try.prog 42 #[v, .int .i64 i] w fun e w' => e = .returned (.tuple #[.string ⟨(Wire.readT l i).1.toArray⟩, .int .i64 (Wire.readT l i).2.1, .int .i64 (Wire.readT l i).2.2]) ∧ Below w.heap.size w w' := by
  obtain ⟨bs, q, rfl, hlen, hcap, hnil, -⟩ := hv.out
  unfold maxLen at hcap
  by_cases hbad : i < 0 ∨ (l.length : Int) < i
  · have hr : Wire.readT l i = ([], 0, 1) := by unfold Wire.readT; rw [if_pos hbad]
    rw [hr]
    go_enter_defers Try.func42, Try.ntmps42
    go_wp2_with fail
    refine (open_bad _ bs l.length q i hbad).mono ?_
    rintro e w1 ⟨rfl, rfl⟩
    go_wp2_with fail
    refine door_err rfl rfl rfl rfl (x := 0) (y := 0) ?_ ?_ (by omega) ⟨rfl, ?_⟩
    · exact heap_alloc2_old _ _ _
    · exact heap_alloc2_new _ _ _
    · exact (((Below.refl _ _).alloc (Nat.le_refl _) _).alloc (by simp) _).setCell (Nat.le_refl _) _ |>.setCell (by simp) _
  · obtain ⟨j, rfl⟩ := Int.eq_ofNat_of_zero_le (show 0 ≤ i by omega)
    have hj : j ≤ l.length := by omega
    have hb0 : Below w.heap.size w ((w.alloc (intO 0)).alloc (errO 0)) := (((Below.refl _ _).alloc (Nat.le_refl _) _).alloc (by simp) _)
    have hp0 : ((w.alloc (intO 0)).alloc (errO 0)).heap[w.heap.size]? = some (intO 0) := heap_alloc2_old _ _ _
    have hq0 : ((w.alloc (intO 0)).alloc (errO 0)).heap[w.heap.size + 1]? = some (errO 0) := by have := heap_alloc2_new w (intO 0) (errO 0); simpa using this
    have hs0 : ((w.alloc (intO 0)).alloc (errO 0)).heap.size = w.heap.size + 2 := by simp
    have HH := Lib.hid (And.intro hb0 (And.intro hp0 (And.intro hq0 hs0)))
    clear hb0 hp0 hq0 hs0
    go_enter_defers Try.func42, Try.ntmps42
    go_wp2_with fail
    generalize (w.alloc _).alloc _ = W0 at HH ⊢
    refine (open_ok W0 bs l.length q j hj hcap hlen).mono ?_
    rintro e w1 ⟨rfl, rfl⟩
    go_upto_region 3 with fail
    have hg0 : (W0.alloc (rdO (.slice bs l.length q) j)).heap[W0.heap.size]? = some (rdO (.slice bs l.length q) j) := heap_alloc_new _ _
    have hoff : ∀ i wr, RdW (W0.alloc (rdO (.slice bs l.length q) j)) W0.heap.size (.slice bs l.length q) i wr → IsBytes wr (.slice bs l.length q) l := fun i wr h => h.bytes hv (by have := HH.out.1.size; omega) (by have := HH.out.1.size; simp; omega) (fun k hk => by rw [Below.heap_alloc _ _ _ (Nat.lt_of_lt_of_le hk HH.out.1.size)]; exact HH.out.1.block k hk)
    have hp1 : (W0.alloc (rdO (.slice bs l.length q) j)).heap[w.heap.size]? = some (intO 0) := (Below.heap_alloc _ _ _ (by have := HH.out.2.2.2; omega)).trans HH.out.2.1
    have hq1 : (W0.alloc (rdO (.slice bs l.length q) j)).heap[w.heap.size + 1]? = some (errO 0) := (Below.heap_alloc _ _ _ (by have := HH.out.2.2.2; omega)).trans HH.out.2.2.1
    have hb1 : Below w.heap.size w (W0.alloc (rdO (.slice bs l.length q) j)) := HH.out.1.alloc HH.out.1.size _
    have hgs : W0.heap.size = w.heap.size + 2 := HH.out.2.2.2
    generalize hg : W0.heap.size = g at hg0 hoff hgs ⊢
    have hgl : g < (W0.alloc (rdO (.slice bs l.length q) j)).heap.size := by simp; omega
    generalize W0.alloc _ = W1 at hg0 hoff hp1 hq1 hb1 hgl ⊢
    clear hg HH
    have HF := Lib.hid (And.intro hp1 (And.intro hq1 (And.intro hb1 (And.intro hgs hgl))))
    clear hp1 hq1 hb1 hgs hgl
    cases hd : Wire.dec (l.drop j) with
    | error code =>
      have hr : Wire.readT l j = ([], 0, code) := by unfold Wire.readT Wire.decT; rw [if_neg hbad, Int.toNat_natCast, hd]
      have HRD := Lib.hid hr
      clear hr
      go_wp2_with fail
      refine (number_err W1 g bs l.length q j l hg0 (hoff _ _ (RdW.start hg0)) hoff hj code hd).mono ?_
      rintro e w2 ⟨rfl, j2, hr2⟩
      go_wp2_with fail
      have hgs := HF.out.2.2.2.1
      have hgl := HF.out.2.2.2.2
      refine door_err rfl rfl rfl rfl (x := 0) (y := 0) ((hr2.grown.block _ (by omega) (fun e => by cases e; omega)).trans HF.out.1) ((hr2.grown.block _ (by omega) (fun e => by cases e; omega)).trans HF.out.2.1) (by omega) ?_
      rw [HRD.out]
      exact ⟨rfl, ((Below.grown HF.out.2.2.1 hr2.grown HF.out.2.2.1.size (fun k hk => by cases hk; omega)).setCell (Nat.le_refl _) _).setCell (by simp) _⟩
    | ok nk =>
      obtain ⟨n, k⟩ := nk
      obtain ⟨hn64, hk0, hkl, -⟩ := Wire.dec_ok hd
      rw [List.length_drop] at hkl
      go_wp2_with fail
      refine (number_ok W1 g bs l.length q j l hg0 (hoff _ _ (RdW.start hg0)) hoff hj n k hd).mono ?_
      rintro e w2 ⟨rfl, hr2⟩
      by_cases hsh : l.length < j + k + n
      · have hr : Wire.readT l j = ([], 0, 41) := by
          unfold Wire.readT Wire.decT
          rw [if_neg hbad, Int.toNat_natCast, hd]
          simp only
          rw [if_pos (by rw [List.length_drop]; omega)]
        have HRD := Lib.hid hr
        clear hr
        go_wp2_with fail
        refine (take_bad w2 g bs l.length q (j + k) n hr2.blk hcap hlen (by omega) hsh).mono ?_
        rintro e w3 ⟨rfl, hr3⟩
        replace hr3 := hr2.trans hr3
        go_wp2_with fail
        have hgs := HF.out.2.2.2.1
        have hgl := HF.out.2.2.2.2
        refine door_err rfl rfl rfl rfl (x := 0) (y := 0) ((hr3.grown.block _ (by omega) (fun e => by cases e; omega)).trans HF.out.1) ((hr3.grown.block _ (by omega) (fun e => by cases e; omega)).trans HF.out.2.1) (by omega) ?_
        rw [HRD.out]
        exact ⟨rfl, ((Below.grown HF.out.2.2.1 hr3.grown HF.out.2.2.1.size (fun k hk => by cases hk; omega)).setCell (Nat.le_refl _) _).setCell (by simp) _⟩
      · have hr : Wire.readT l j = ((l.drop (j + k)).take n, ((j + k + n : Nat) : Int), 0) := by
          unfold Wire.readT Wire.decT
          rw [if_neg hbad, Int.toNat_natCast, hd]
          simp only
          rw [if_neg (by rw [List.length_drop]; omega)]
          simp only [List.drop_drop]
          congr 2
          omega
        have HRD := Lib.hid hr
        clear hr
        go_wp2_with fail
        refine (take_ok w2 g bs l.length q (j + k) n hr2.blk hcap hlen (by omega)).mono ?_
        rintro e w3 ⟨rfl, hr3⟩
        replace hr3 := hr2.trans hr3
        obtain ⟨pv, hpv⟩ : ∃ pv, Value.slice (if j + k + n = j + k then bs else bs.map (·.add (j + k))) n n = pv := ⟨_, rfl⟩
        have hpb : IsBytes w3 pv ((l.drop (j + k)).take n) := by
          have := (hoff _ _ hr3).part (j + k) (j + k + n) (j + k + n) (by omega) (by omega) (Nat.le_refl _) (by omega)
          rw [Nat.add_sub_cancel_left, hpv] at this
          rw [List.take_drop]
          exact this
        rw [hpv]
        clear hpv
        have hst := fun W (h : IsBytes W pv ((l.drop (j + k)).take n)) => run_str (P := Try.prog) W 22 9 5 Try.underlying22 Try.underlying5 Try.underlying9 pv _ h
        have hcv : (convert 22 9 pv).run Try.prog w3.drew = .ok (.string ⟨((l.drop (j + k)).take n).toArray⟩) w3.drew := hst _ hpb
        generalize (l.drop (j + k)).take n = part at hcv HRD
        clear hst hpb
        go_upto_region 4 with fail
        have hgs := HF.out.2.2.2.1
        have hgl := HF.out.2.2.2.2
        obtain ⟨-, c1, -⟩ := rd_cells hr3.blk
        have hp2 := (hr3.grown.block w.heap.size (by omega) (fun e => by cases e; omega)).trans HF.out.1
        have hq2 := (hr3.grown.block (w.heap.size + 1) (by omega) (fun e => by cases e; omega)).trans HF.out.2.1
        obtain ⟨p1, p2⟩ := one_cell hp2
        obtain ⟨q1, q2⟩ := one_cell hq2
        have n1 : g ≠ w.heap.size := by omega
        have n2 : g ≠ w.heap.size + 1 := by omega
        have hb2 := Below.grown HF.out.2.2.1 hr3.grown HF.out.2.2.1.size (fun k hk => by cases hk; omega)
        have HQ := Lib.hid (And.intro hp2 (And.intro hq2 hb2))
        clear hp2 hq2 hb2 hgl hgs
        generalize hx : j + k + n = x at *
        clear hx hsh
        go_region
        go_wp2_with fail
        refine door_ok rfl rfl rfl rfl (x := (x : Int)) (y := 0) ?_ ?_ ?_
        · exact (heap_setCell_other _ ⟨w.heap.size + 1, 0, none⟩ _ _ (by simp)).trans (heap_setCell_same w3 w.heap.size 0 _ _ _ HQ.out.1)
        · exact heap_setCell_same _ (w.heap.size + 1) 0 _ _ _ ((heap_setCell_other _ ⟨w.heap.size, 0, none⟩ _ _ (by simp)).trans HQ.out.2.1)
        · rw [HRD.out]
          exact ⟨rfl, ((HQ.out.2.2.setCell (Nat.le_refl _) _).setCell (by simp) _).drew⟩
end Go.Proofs.Ytfpkibfofainaaa
/- WireOneEncoding: the plain law, and the walk. -/
set_option linter.unusedVariables false
namespace Go.Proofs.Ytfpkibfofainaaa
open Go.RowKit

theorem decU_err : ∀ (f i acc : Nat) (l : List UInt8) (c : Int), Wire.decU f i acc l = .error c → c ≠ 0
  | 0, i, acc, l, c, h => by unfold Wire.decU at h; cases h; decide
  | f + 1, i, acc, [], c, h => by unfold Wire.decU at h; cases h; decide
  | f + 1, i, acc, x :: l, c, h => by
    unfold Wire.decU at h
    split at h
    · split at h
      · cases h; decide
      · cases h
    · exact decU_err f _ _ l c h
theorem dec_err {l : List UInt8} {c : Int} (h : Wire.dec l = .error c) : c ≠ 0 := decU_err _ _ _ _ _ h
theorem readU_cases (l : List UInt8) (i : Int) : (∃ c, c ≠ 0 ∧ Wire.readU l i = (0, 0, c)) ∨ ∃ j m n : Nat, i = (j : Int) ∧ j < m ∧ m ≤ l.length ∧ Wire.readU l i = (n, (m : Int), 0) ∧ n < 2 ^ 64 ∧ (l.take m).drop j = Wire.encU n := by
  unfold Wire.readU
  by_cases h : i < 0 ∨ (l.length : Int) < i
  · exact .inl ⟨1, by decide, by rw [if_pos h]⟩
  · rw [if_neg h]
    cases hd : Wire.dec (l.drop i.toNat) with
    | error c => exact .inl ⟨c, dec_err hd, rfl⟩
    | ok nk =>
      obtain ⟨n, k⟩ := nk
      obtain ⟨h1, h2, h3, h4⟩ := Wire.dec_ok hd
      rw [List.length_drop] at h3
      refine .inr ⟨i.toNat, i.toNat + k, n, by omega, by omega, by omega, ?_, h1, ?_⟩
      · simp only
        congr 2
        omega
      · rw [← h4, List.drop_take, Nat.add_sub_cancel_left]
theorem readT_cases (l : List UInt8) (i : Int) : (∃ c, c ≠ 0 ∧ Wire.readT l i = ([], 0, c)) ∨ ∃ (j m : Nat) (s : List UInt8), i = (j : Int) ∧ j < m ∧ m ≤ l.length ∧ Wire.readT l i = (s, (m : Int), 0) ∧ s.length ≤ l.length ∧ (l.take m).drop j = Wire.encT s := by
  unfold Wire.readT
  by_cases h : i < 0 ∨ (l.length : Int) < i
  · exact .inl ⟨1, by decide, by rw [if_pos h]⟩
  · rw [if_neg h]
    cases hd : Wire.decT (l.drop i.toNat) with
    | error c =>
      refine .inl ⟨c, ?_, rfl⟩
      unfold Wire.decT at hd
      split at hd
      · rename_i c' hc'
        cases hd
        exact dec_err hc'
      · split at hd
        · cases hd; decide
        · cases hd
    | ok sk =>
      obtain ⟨s, k⟩ := sk
      obtain ⟨h1, h2, h3, h4⟩ := Wire.decT_ok hd
      have h5 : s.length ≤ k := by
        have := congrArg List.length h4
        unfold Wire.encT at this
        rw [List.length_take, List.length_append] at this
        omega
      rw [List.length_drop] at h3
      refine .inr ⟨i.toNat, i.toNat + k, s, by omega, by omega, by omega, ?_, by omega, ?_⟩
      · simp only
        congr 2
        omega
      · rw [← h4, List.drop_take, Nat.add_sub_cancel_left]

theorem str_of {W : World} {v : Value} {l : List UInt8} (h : IsBytes W v l) : (convert 22 9 v).run Try.prog W = .ok (.string ⟨l.toArray⟩) W :=
  run_str (P := Try.prog) W 22 9 5 Try.underlying22 Try.underlying5 Try.underlying9 v _ h
end Go.Proofs.Ytfpkibfofainaaa
