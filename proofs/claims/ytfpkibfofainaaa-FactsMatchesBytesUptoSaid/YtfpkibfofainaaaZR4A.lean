/- The specification of package wire: what appends. -/
import Derived.Test.YtfpkibfofainaaaZGC
import Derived.Test.YtfpkibfofainaaaZValA
set_option linter.unusedVariables false
set_option linter.unusedSimpArgs false
namespace Go.Proofs.Ytfpkibfofainaaa
open Go.RowKit

/-- A conversion whose outcome is known. -/
theorem wpList_conv {P : Program} {ops : Array Oper} {rest : List Oper} {o : Oper} {a : Act} {w : World} {Q : Exit → Act → World → Prop} (hgd : o.guard = none) (src dst : TypeId) (x : Operand) (ho : o.op = .convert src dst x)
    (v u : Value) (hx : a.eval x = v) (hrun : (convert src dst v).run P w = .ok u w)
    (h : wpList P ops Q rest (a.put o.dst u) w) : wpList P ops Q (o :: rest) a w := by
  refine wpList_plain hgd fun K hK => ?_
  unfold Oper.wp execOp
  simp only [ho, hx, Sem.run_bind, hrun, Result.andThen_ok, Sem.run_pure]
  exact hK _ _ h
theorem bytesStr {W : World} {v : Value} {l : List UInt8} (h : IsBytes W v l) : (convert 22 9 v).run Try.prog W = .ok (.string ⟨l.toArray⟩) W :=
  run_str (P := Try.prog) W 22 9 5 Try.underlying22 Try.underlying5 Try.underlying9 v _ h
theorem str_eq {a b : List UInt8} : ((⟨a.toArray⟩ : ByteArray) = ⟨b.toArray⟩) ↔ a = b := by
  constructor
  · intro h
    have := congrArg (fun x : ByteArray => x.data.toList) h
    simpa using this
  · rintro rfl; rfl

theorem str_beq (a b : List UInt8) : ((⟨a.toArray⟩ : ByteArray).toList == (⟨b.toArray⟩ : ByteArray).toList) = decide (a = b) := by
  rw [ByteArray.toList_eq, ByteArray.toList_eq]
  show (a.toArray.toList == b.toArray.toList) = _
  simp only [List.toList_toArray]
  rw [Bool.eq_iff_iff, beq_iff_eq, decide_eq_true_eq]

theorem refJoin_any (w : World) (u v : Value) (a b : List UInt8) (hu : IsBytes w u a) (hv : IsBytes w v b) (hl : a.length + b.length ≤ 140737488355328) :
    Calls Try.prog 64 #[u, v] w fun e w' => ∃ v', e = .returned v' ∧ OwnBytes 5 w.heap.size w' v' (a ++ b) ∧ Below w.heap.size w w' := by
  have ho0 := OwnBytes.nil 5 w.heap.size w
  go_enter Try.func64, Try.ntmps64
  go_wp2_with (first
    | (at_builtin; refine wpList_append_bytes rfl (.tmp 6) (.tmp 7) 22 22 rfl w.heap.size 5 Try.underlying22 byte_info _ [] rfl ho0 _ a rfl (hu.src Try.underlying22) (by simp only [List.length_nil]; omega) (Nat.le_refl _) ?_; intro v3 w3 ho3 hg3; have hb3 := Below.grown (Below.refl w.heap.size w) hg3 (Nat.le_refl _) (fun k hk => (World.ownsRow.lt ho0 k hk).1); rw [List.nil_append] at ho3)
    | (at_builtin; refine wpList_append_bytes rfl (.tmp 9) (.tmp 10) 22 22 rfl w.heap.size 5 Try.underlying22 byte_info _ a rfl ho3 _ b rfl ((hv.below hb3 rfl).src Try.underlying22) hl hb3.size ?_; intro v4 w4 ho4 hg4; have hb4 := Below.grown hb3 hg4 hb3.size (fun k hk => (World.ownsRow.lt ho3 k hk).1)))
  go_ret
  exact ⟨_, rfl, ho4, hb4⟩

theorem add128 (n : Nat) : (n : Int) % 128 + 128 = (((UInt8.ofNat (128 + n % 128)).toNat : Nat) : Int) := by
  rw [Wire.byte_lo (by omega)]
  omega

set_option maxHeartbeats 1000000 in
set_option maxRecDepth 10000 in
theorem refUint_any (w : World) (n : Nat) (hn : n < 2 ^ 64) :
    Calls Try.prog 91 #[.int .u64 n] w fun e w' => ∃ v', e = .returned v' ∧ OwnBytes 5 w.heap.size w' v' (Wire.encU n) ∧ Below w.heap.size w w' := by
  go_enter Try.func91, Try.ntmps91
  go_wp2_with fail
  go_loopw [0, 3] (fun nv cv wr => ∃ (m : Nat) (done : List UInt8), nv = .int .u64 m ∧ m < 2 ^ 64 ∧ Wire.encU n = done ++ Wire.encU m ∧ OwnBytes 5 w.heap.size wr cv done ∧ Below w.heap.size w wr) (fun nv _ _ => (intOf nv).toNat)
  case atStart => exact ⟨n, [], rfl, hn, rfl, OwnBytes.nil _ _ _, Below.refl _ _⟩
  case round =>
    obtain ⟨m, done, rfl, hm, he, ho, hb⟩ := hrel
    have HE := Lib.hid he
    clear he
    have hdl : done.length ≤ 10 := by have := Wire.encU_len10 hn; rw [HE.out, List.length_append] at this; omega
    by_cases h128 : 128 ≤ m
    · have i1 : (128 : Int) ≤ (m : Int) := by omega
      have hor := add128 m
      obtain ⟨xb, hxb⟩ : ∃ xb, UInt8.ofNat (128 + m % 128) = xb := ⟨_, rfl⟩
      rw [hxb] at hor
      have hx : IsBytes (wr.alloc (.cells #[.int .u8 (xb.toNat : Int)] 5)) (.slice (some ⟨wr.heap.size, 0, none⟩) 1 1) [xb] := IsBytes.new wr 5 (0, 0) [xb] (by simp [maxLen])
      have hb1 := hb.alloc hb.size (.cells #[.int .u8 (xb.toNat : Int)] 5)
      have ho1 := ho.later (show Below wr.heap.size wr (wr.alloc (.cells #[.int .u8 (xb.toNat : Int)] 5)) from (Below.refl _ _).alloc (Nat.le_refl _) _)
      have HOR := Lib.hid hor
      have HXB := Lib.hid hxb
      clear hor hxb
      go_wp2_with (at_builtin; go_loud (rw [HOR.out]; refine wpList_append_bytes rfl (.tmp 6) (.tmp 11) 22 22 rfl w.heap.size 5 Try.underlying22 byte_info _ _ rfl ho1 _ [xb] rfl (hx.src Try.underlying22) (by simp only [List.length_singleton]; omega) hb1.size ?_; intro v3 w3 ho3 hg3))
      go_roundw
      case rel => exact ⟨m / 128, done ++ [xb], by go_num, by omega, by rw [HE.out, Wire.encU_big h128, HXB.out]; simp, ho3, Below.grown hb1 hg3 hb1.size (fun k hk => (World.ownsRow.lt ho1 k hk).1)⟩
      case measure => simp [intOf]; omega
    · have i1 : ¬ (128 : Int) ≤ (m : Int) := by omega
      obtain ⟨xb, hxb⟩ : ∃ xb, UInt8.ofNat m = xb := ⟨_, rfl⟩
      have hxt : (m : Int) = (xb.toNat : Int) := by rw [← hxb, Wire.byte_lo (by omega)]
      have hx : IsBytes (wr.alloc (.cells #[.int .u8 (xb.toNat : Int)] 5)) (.slice (some ⟨wr.heap.size, 0, none⟩) 1 1) [xb] := IsBytes.new wr 5 (0, 0) [xb] (by simp [maxLen])
      have hb1 := hb.alloc hb.size (.cells #[.int .u8 (xb.toNat : Int)] 5)
      have ho1 := ho.later (show Below wr.heap.size wr (wr.alloc (.cells #[.int .u8 (xb.toNat : Int)] 5)) from (Below.refl _ _).alloc (Nat.le_refl _) _)
      have HXT := Lib.hid hxt
      have HXB := Lib.hid hxb
      clear hxt hxb
      go_wp2_with (at_builtin; go_loud (rw [HXT.out]; refine wpList_append_bytes rfl (.tmp 15) (.tmp 18) 22 22 rfl w.heap.size 5 Try.underlying22 byte_info _ _ rfl ho1 _ [xb] rfl (hx.src Try.underlying22) (by simp only [List.length_singleton]; omega) hb1.size ?_; intro v3 w3 ho3 hg3))
      go_ret
      exact ⟨_, rfl, by rw [HE.out, Wire.encU_small (by omega), HXB.out]; exact ho3, Below.grown hb1 hg3 hb1.size (fun k hk => (World.ownsRow.lt ho1 k hk).1)⟩

set_option maxHeartbeats 1000000 in
theorem refInt_any (w : World) (n : Int) (h1 : -9223372036854775808 ≤ n) (h2 : n ≤ 9223372036854775807) :
    Calls Try.prog 92 #[.int .i64 n] w fun e w' => ∃ v', e = .returned v' ∧ OwnBytes 5 w.heap.size w' v' (Wire.encI n) ∧ Below w.heap.size w w' := by
  go_enter Try.func92, Try.ntmps92
  by_cases h : 0 ≤ n
  · go_wp2_with fail
    have e : 2 * n = (Wire.zig n : Int) := by
      unfold Wire.zig; rw [if_pos h]; omega
    rw [e]
    refine (refUint_any w (Wire.zig n) (Wire.zig_lt h1 h2)).mono ?_
    rintro e w1 ⟨v1, rfl, ho1, hb1⟩
    go_wp2
    go_ret
    exact ⟨_, rfl, ho1, hb1⟩
  · go_wp2_with fail
    have e : 2 * -(n + 1) + 1 = (Wire.zig n : Int) := by
      unfold Wire.zig; rw [if_neg (by omega)]; omega
    rw [e]
    refine (refUint_any w (Wire.zig n) (Wire.zig_lt h1 h2)).mono ?_
    rintro e w1 ⟨v1, rfl, ho1, hb1⟩
    go_wp2
    go_ret
    exact ⟨_, rfl, ho1, hb1⟩

set_option maxHeartbeats 1000000 in
theorem refText4_any (w : World) (s : ByteArray) (hl : s.size ≤ 140737488355300) :
    Calls Try.prog 79 #[.string s] w fun e w' => ∃ v', e = .returned v' ∧ OwnBytes 5 w.heap.size w' v' (Wire.encT s.data.toList) ∧ Below w.heap.size w w' := by
  have hss : s.data.toList.length = s.size := by simp
  have hs64 : (s.size : Int) < 18446744073709551616 := by omega
  have hs0 : (0 : Int) ≤ (s.size : Int) := by omega
  go_enter Try.func79, Try.ntmps79
  go_wp2_with fail
  refine (refUint_any w s.size (by omega)).mono ?_
  rintro e w1 ⟨v1, rfl, ho1, hb1⟩
  have hlen := Wire.encU_len10 (n := s.size) (by omega)
  go_wp2_with (at_builtin; go_loud (refine wpList_append_bytes rfl (.tmp 6) (.tmp 7) 22 9 rfl w.heap.size 5 Try.underlying22 byte_info _ _ rfl ho1 _ s.data.toList rfl (hss ▸ Src.str Try.underlying9) (by rw [hss]; omega) hb1.size ?_; intro v3 w3 ho3 hg3))
  go_ret
  exact ⟨_, rfl, by unfold Wire.encT; rw [hss]; exact ho3, Below.grown hb1 hg3 hb1.size (fun k hk => (World.ownsRow.lt ho1 k hk).1)⟩


theorem refAppendUint_any (w : World) (v : Value) (l : List UInt8) (n : Nat) (hv : IsBytes w v l) (hn : n < 2 ^ 64) (hl : l.length + (Wire.encU n).length ≤ 140737488355328) :
    Calls Try.prog 82 #[v, .int .u64 n] w fun e w' => ∃ v', e = .returned v' ∧ OwnBytes 5 w.heap.size w' v' (l ++ Wire.encU n) ∧ Below w.heap.size w w' := by
  go_enter Try.func82, Try.ntmps82
  go_wp2_with fail
  refine (refUint_any w n hn).mono ?_
  rintro e w1 ⟨v1, rfl, ho1, hb1⟩
  go_wp2_with fail
  refine (refJoin_any w1 _ _ l _ (hv.below hb1 rfl) ho1.is hl).mono ?_
  rintro e w2 ⟨v2, rfl, ho2, hb2⟩
  go_wp2_with fail
  go_ret
  exact ⟨_, rfl, ho2.lower hb1.size, hb1.trans (hb2.mono hb1.size)⟩
theorem refAppendInt_any (w : World) (v : Value) (l : List UInt8) (n : Int) (hv : IsBytes w v l) (h1 : -9223372036854775808 ≤ n) (h2 : n ≤ 9223372036854775807) (hl : l.length + (Wire.encI n).length ≤ 140737488355328) :
    Calls Try.prog 80 #[v, .int .i64 n] w fun e w' => ∃ v', e = .returned v' ∧ OwnBytes 5 w.heap.size w' v' (l ++ Wire.encI n) ∧ Below w.heap.size w w' := by
  go_enter Try.func80, Try.ntmps80
  go_wp2_with fail
  refine (refInt_any w n h1 h2).mono ?_
  rintro e w1 ⟨v1, rfl, ho1, hb1⟩
  go_wp2_with fail
  refine (refJoin_any w1 _ _ l _ (hv.below hb1 rfl) ho1.is hl).mono ?_
  rintro e w2 ⟨v2, rfl, ho2, hb2⟩
  go_wp2_with fail
  go_ret
  exact ⟨_, rfl, ho2.lower hb1.size, hb1.trans (hb2.mono hb1.size)⟩
theorem refAppendText_any (w : World) (v : Value) (l : List UInt8) (s : ByteArray) (hv : IsBytes w v l) (hs : s.size ≤ 140737488355300) (hl : l.length + (Wire.encT s.data.toList).length ≤ 140737488355328) :
    Calls Try.prog 81 #[v, .string s] w fun e w' => ∃ v', e = .returned v' ∧ OwnBytes 5 w.heap.size w' v' (l ++ Wire.encT s.data.toList) ∧ Below w.heap.size w w' := by
  go_enter Try.func81, Try.ntmps81
  go_wp2_with fail
  refine (refText4_any w s hs).mono ?_
  rintro e w1 ⟨v1, rfl, ho1, hb1⟩
  go_wp2_with fail
  refine (refJoin_any w1 _ _ l _ (hv.below hb1 rfl) ho1.is hl).mono ?_
  rintro e w2 ⟨v2, rfl, ho2, hb2⟩
  go_wp2_with fail
  go_ret
  exact ⟨_, rfl, ho2.lower hb1.size, hb1.trans (hb2.mono hb1.size)⟩
end Go.Proofs.Ytfpkibfofainaaa
