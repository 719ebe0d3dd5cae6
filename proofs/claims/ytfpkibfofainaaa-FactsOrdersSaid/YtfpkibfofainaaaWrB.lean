/- The walks over package wire: AppendUint, AppendInt, AppendText. -/
import Derived.Test.YtfpkibfofainaaaChecked
import Derived.Test.YtfpkibfofainaaaApp
import Derived.Test.YtfpkibfofainaaaLists
import Derived.Test.YtfpkibfofainaaaWire
namespace Go.Proofs.Ytfpkibfofainaaa
open Go.RowKit

theorem byte_info : (Try.prog.info? 5).map (fun i => (i.zero, i.size, i.bytes)) = some (some (.int .u8 0), 1, 1) := by kernel_rfl
/-- Bytes onto which the call appends: its own, or a slice without room. -/
def AppB (E B : Nat) (w : World) (v : Value) (l : List UInt8) : Prop := OwnBytes E B w v l ∨ ∃ base, v = .slice base l.length l.length ∧ IsBytes w v l
theorem AppB.below {E B C : Nat} {w w' : World} {v : Value} {l : List UInt8} (h : AppB E B w v l) (hb : Below C w w') (hC : C = w.heap.size) : AppB E B w' v l := by
  rcases h with h | ⟨base, e, h⟩
  · left
    obtain ⟨h1, h2⟩ := h
    refine ⟨h1, ?_⟩
    rcases h2 with h2 | ⟨g, cap, cur, a, b, c, d⟩
    · exact .inl h2
    · exact .inr ⟨g, cap, cur, a, b, by rw [hb.block g (by rw [hC]; exact (Array.getElem?_eq_some_iff.1 c).1)]; exact c, d⟩
  · exact .inr ⟨base, e, h.below hb hC⟩
theorem wpList_append_appb {P : Program} {w : World} {ops : Array Oper} {rest : List Oper} {o : Oper} {a : Act} {Q : Exit → Act → World → Prop} (hw : Region.wanted o (yielded ops a.tmps) = true) (s x : Operand) (t t2 : TypeId)
    (ho : o.op = .call { callee := .builtin .append, args := #[s, x], argTypes := #[t, t2] })
    (base : Nat) (e : TypeId) (ht : P.underlying t = some (.slice e)) (hinfo : (P.info? e).map (fun i => (i.zero, i.size, i.bytes)) = some (some (.int .u8 0), 1, 1))
    (v : Value) (l : List UInt8) (hs : a.eval s = v) (hown : AppB e base w v l) (u : Value) (m : List UInt8) (hm : m ≠ []) (hx : a.eval x = u) (hsrc : Src P 1 w t2 u m.length (m.map u8v))
    (hbytes : l.length + m.length ≤ 140737488355328) (hbase : base ≤ w.heap.size) (B0 : World) (hB0 : Below base B0 w)
    (h : ∀ v' w', OwnBytes e base w' v' (l ++ m) → Below base B0 w' → wpList P ops Q rest (a.put o.dst v') w') : wpList P ops Q (o :: rest) a w := by
  rcases hown with hown | ⟨bs, rfl, hrow⟩
  · refine wpList_append_bytes hw s x t t2 ho base e ht hinfo v l hs hown u m hx hsrc hbytes hbase ?_
    intro v' w' h1 h2
    exact h v' w' h1 (Below.grown hB0 h2 hbase (fun k hk => (World.ownsRow.lt hown k hk).1))
  · have hml : 0 < m.length := List.length_pos_iff.2 hm
    refine wpList_append_grow hw s x t t2 ho e (.int .u8 0) 1 1 ht hinfo rfl bs l.length l.length (l.map u8v) hs hrow u m.length (m.map u8v) hx hsrc (by omega) (by omega) (by simp only [maxLen]; omega) ?_
    intro v' w' h1 h2 _
    refine h v' w' ?_ (Below.grown hB0 h2 hbase (fun k hk => by cases hk))
    unfold OwnBytes
    rw [List.length_append, List.map_append]
    obtain ⟨k1, k2⟩ := h1
    refine ⟨k1, ?_⟩
    rcases k2 with k2 | ⟨g, cap, cur, a, b, r⟩
    · exact .inl k2
    · exact .inr ⟨g, cap, cur, a, Nat.le_trans hbase b, r⟩

theorem or128 (n : Nat) : bits .or .u8 (((n : Int)) % 256) 128 = (((UInt8.ofNat (128 + n % 128)).toNat : Nat) : Int) := by
  have e : (n : Int) % 256 = ((n % 256 : Nat) : Int) := by omega
  have h : ∀ x : Fin 256, x.val ||| 128 = 128 + x.val % 128 := by decide +kernel
  have h1 := h ⟨n % 256, by omega⟩
  simp only at h1
  rw [e, show (128 : Int) = ((128 : Nat) : Int) from rfl, u8_or_nat _ _ (by omega) (by omega), h1, Wire.byte_lo (by omega)]
  congr 1
  omega

set_option maxHeartbeats 1000000 in
set_option maxRecDepth 10000 in
theorem appendUint_any (w : World) (v : Value) (l : List UInt8) (n : Nat) (hn : n < 2 ^ 64) (hv : IsBytes w v l) (hl : l.length ≤ 140737488355300) :
    Calls Try.prog 18 #[v, .int .u64 n] w fun e w' => ∃ v', e = .returned v' ∧ OwnBytes 5 w.heap.size w' v' (l ++ Wire.encU n) ∧ Below w.heap.size w w' := by
  obtain ⟨base, cap, rfl, hlen, hcap, hnil, -⟩ := hv.out
  have hcut : IsBytes w (.slice base l.length l.length) l := by
    obtain ⟨_, _, e, a, b, c, d, f⟩ := hv
    cases e
    exact ⟨_, _, rfl, a, Nat.le_refl _, by omega, fun h => by have := d h; omega, f⟩
  have hlc : (l.length : Int) ≤ (cap : Int) := by omega
  have HC := Lib.hid hcut
  clear hcut hv
  go_enter Try.func18, Try.ntmps18
  go_wp2_with fail
  go_loopw [1, 4] (fun nv cv wr => ∃ (m : Nat) (done : List UInt8), nv = .int .u64 m ∧ m < 2 ^ 64 ∧ Wire.encU n = done ++ Wire.encU m ∧ AppB 5 w.heap.size wr cv (l ++ done) ∧ Below w.heap.size w wr) (fun nv _ _ => (intOf nv).toNat)
  case atStart => exact ⟨n, [], rfl, hn, rfl, .inr ⟨base, by rw [List.append_nil], by rw [List.append_nil]; exact HC.out⟩, Below.refl _ _⟩
  case round =>
    obtain ⟨m, done, rfl, hm, he, ho, hb⟩ := hrel
    have HE := Lib.hid he
    clear he
    have hdl : done.length ≤ 10 := by have := Wire.encU_len10 hn; rw [HE.out, List.length_append] at this; omega
    by_cases h128 : 128 ≤ m
    · have i1 : (128 : Int) ≤ (m : Int) := by omega
      have hor := or128 m
      obtain ⟨xb, hxb⟩ : ∃ xb, UInt8.ofNat (128 + m % 128) = xb := ⟨_, rfl⟩
      rw [hxb] at hor
      have hx : IsBytes (wr.alloc (.cells #[.int .u8 (xb.toNat : Int)] 5)) (.slice (some ⟨wr.heap.size, 0, none⟩) 1 1) [xb] := IsBytes.new wr 5 (0, 0) [xb] (by simp [maxLen])
      have hb1 := hb.alloc hb.size (.cells #[.int .u8 (xb.toNat : Int)] 5)
      have ho1 := ho.below (show Below wr.heap.size wr (wr.alloc (.cells #[.int .u8 (xb.toNat : Int)] 5)) from (Below.refl _ _).alloc (Nat.le_refl _) _) rfl
      have HOR := Lib.hid hor
      have HXB := Lib.hid hxb
      clear hor hxb
      go_wp2_with (at_builtin; go_loud (rw [HOR.out]; refine wpList_append_appb rfl (.tmp 15) (.tmp 19) 22 22 rfl w.heap.size 5 Try.underlying22 byte_info _ _ rfl ho1 _ [xb] (by simp) rfl (hx.src Try.underlying22) (by simp; omega) hb1.size w hb1 ?_; intro v3 w3 ho3 hb3))
      go_roundw
      case rel => exact ⟨m / 128, done ++ [xb], by go_num, by omega, by rw [HE.out, Wire.encU_big h128, HXB.out]; simp, .inl (by rw [← List.append_assoc]; exact ho3), hb3⟩
      case measure => simp [intOf]; omega
    · have i1 : ¬ (128 : Int) ≤ (m : Int) := by omega
      obtain ⟨xb, hxb⟩ : ∃ xb, UInt8.ofNat m = xb := ⟨_, rfl⟩
      have hxt : (m : Int) = (xb.toNat : Int) := by rw [← hxb, Wire.byte_lo (by omega)]
      have hx : IsBytes (wr.alloc (.cells #[.int .u8 (xb.toNat : Int)] 5)) (.slice (some ⟨wr.heap.size, 0, none⟩) 1 1) [xb] := IsBytes.new wr 5 (0, 0) [xb] (by simp [maxLen])
      have hb1 := hb.alloc hb.size (.cells #[.int .u8 (xb.toNat : Int)] 5)
      have ho1 := ho.below (show Below wr.heap.size wr (wr.alloc (.cells #[.int .u8 (xb.toNat : Int)] 5)) from (Below.refl _ _).alloc (Nat.le_refl _) _) rfl
      have HXT := Lib.hid hxt
      have HXB := Lib.hid hxb
      clear hxt hxb
      go_wp2_with (at_builtin; go_loud (rw [HXT.out]; refine wpList_append_appb rfl (.tmp 21) (.tmp 24) 22 22 rfl w.heap.size 5 Try.underlying22 byte_info _ _ rfl ho1 _ [xb] (by simp) rfl (hx.src Try.underlying22) (by simp; omega) hb1.size w hb1 ?_; intro v3 w3 ho3 hb3))
      go_ret
      exact ⟨_, rfl, by rw [HE.out, Wire.encU_small (by omega), HXB.out, ← List.append_assoc]; exact ho3, hb3⟩


set_option maxHeartbeats 1000000 in
theorem appendText_any (w : World) (v : Value) (l : List UInt8) (s : ByteArray) (hv : IsBytes w v l) (hl : l.length + s.size ≤ 140737488355300) :
    Calls Try.prog 38 #[v, .string s] w fun e w' => ∃ v', e = .returned v' ∧ OwnBytes 5 w.heap.size w' v' (l ++ Wire.encT s.data.toList) ∧ Below w.heap.size w w' := by
  have hss : s.data.toList.length = s.size := by simp
  have hs64 : (s.size : Int) < 18446744073709551616 := by omega
  have hs0 : (0 : Int) ≤ (s.size : Int) := by omega
  go_enter Try.func38, Try.ntmps38
  go_wp2_with fail
  refine (appendUint_any w v l s.size (by omega) hv (by omega)).mono ?_
  rintro e w1 ⟨v1, rfl, ho1, hb1⟩
  have hlen := Wire.encU_len10 (n := s.size) (by omega)
  go_wp2_with (at_builtin; go_loud (refine wpList_append_bytes rfl (.tmp 9) (.tmp 10) 22 9 rfl w.heap.size 5 Try.underlying22 byte_info _ _ rfl ho1 _ s.data.toList rfl (hss ▸ Src.str Try.underlying9) (by rw [hss, List.length_append]; omega) hb1.size ?_; intro v3 w3 ho3 hg3))
  go_ret
  exact ⟨_, rfl, by unfold Wire.encT; rw [hss, ← List.append_assoc]; exact ho3, Below.grown hb1 hg3 hb1.size (fun k hk => (World.ownsRow.lt ho1 k hk).1)⟩

theorem xor_ones (x : Nat) (h : x < 18446744073709551616) : x ^^^ 18446744073709551615 = 18446744073709551615 - x := by
  have e := BitVec.xor_allOnes (x := BitVec.ofNat 64 x)
  have e2 := congrArg BitVec.toNat e
  rw [BitVec.toNat_xor, BitVec.toNat_not, BitVec.toNat_allOnes, BitVec.toNat_ofNat, Nat.mod_eq_of_lt h] at e2
  exact e2
theorem zig_bits (n : Int) (h1 : -9223372036854775808 ≤ n) (h2 : n ≤ 9223372036854775807) : bits BinOp.xor IntKind.u64 (IntKind.u64.wrap (IntKind.u64.wrap n * 2)) (IntKind.u64.wrap (n / 9223372036854775808)) = (Wire.zig n : Int) := by
  have hw : ∀ z : Int, IntKind.u64.wrap z = z % 18446744073709551616 := fun z => rfl
  rw [hw, hw, hw]
  unfold Wire.zig
  by_cases h : 0 ≤ n
  · rw [if_pos h]
    have e1 : n % 18446744073709551616 * 2 % 18446744073709551616 = ((2 * n.toNat : Nat) : Int) := by omega
    have e2 : n / 9223372036854775808 % 18446744073709551616 = ((0 : Nat) : Int) := by omega
    rw [e1, e2, u64_xor_nat _ _ (by omega) (by omega), Nat.xor_zero]
  · rw [if_neg h]
    have e1 : n % 18446744073709551616 * 2 % 18446744073709551616 = ((18446744073709551616 - 2 * (-n).toNat : Nat) : Int) := by omega
    have e2 : n / 9223372036854775808 % 18446744073709551616 = ((18446744073709551615 : Nat) : Int) := by omega
    rw [e1, e2, u64_xor_nat _ _ (by omega) (by omega), xor_ones _ (by omega)]
    omega
set_option maxHeartbeats 1000000 in
theorem appendInt_any (w : World) (v : Value) (l : List UInt8) (n : Int) (h1 : -9223372036854775808 ≤ n) (h2 : n ≤ 9223372036854775807) (hv : IsBytes w v l) (hl : l.length ≤ 140737488355300) :
    Calls Try.prog 37 #[v, .int .i64 n] w fun e w' => ∃ v', e = .returned v' ∧ OwnBytes 5 w.heap.size w' v' (l ++ Wire.encI n) ∧ Below w.heap.size w w' := by
  go_enter Try.func37, Try.ntmps37
  go_wp2_with fail
  rw [zig_bits n h1 h2]
  refine (appendUint_any w v l (Wire.zig n) (Wire.zig_lt h1 h2) hv hl).mono ?_
  rintro e w1 ⟨v1, rfl, ho1, hb1⟩
  go_wp2
  go_ret
  exact ⟨_, rfl, ho1, hb1⟩
end Go.Proofs.Ytfpkibfofainaaa
