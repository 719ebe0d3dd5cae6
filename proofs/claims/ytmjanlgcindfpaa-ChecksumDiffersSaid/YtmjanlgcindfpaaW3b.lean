/- The walk of the law that checksums are linear. -/
import Derived.Test.YtmjanlgcindfpaaW3
import Derived.Test.YtmjanlgcindfpaaLin
import Derived.Lib.QuietBelow
import Derived.BigQuiet
namespace Go.Proofs.Ytmjanlgcindfpaa
open Go.RowKit

theorem min4 (a b c : Nat) : ∃ n : Nat, n ≤ a ∧ n ≤ b ∧ n ≤ c ∧ n ≤ 500 ∧ ∀ (P : Program) (w : World) (ts : Array TypeId) (t : TypeId), (Builtin.min_ ts t #[.int .i64 a, .int .i64 b, .int .i64 c, .int .i64 500]).run P w = .ok (.int .i64 n) w := by
  refine ⟨min (min (min a b) c) 500, by omega, by omega, by omega, by omega, fun P w ts t => ?_⟩
  simp [Builtin.min_, Builtin.min2]
  omega

theorem xor8 (x y : UInt8) : bits .xor .u8 (x.toNat : Int) (y.toNat : Int) = ((x ^^^ y).toNat : Int) := by
  rw [UInt8.toNat_xor]
  exact u8_xor_nat _ _ (by have := x.toNat_lt; omega) (by have := y.toNat_lt; omega)
theorem set_fill (X : List UInt8) (n k : Nat) (hX : X.length = n) (hk : k < n) (x : UInt8) (hx : X[k]? = some x) : (X.take k ++ List.replicate (n - k) 0).set k x = X.take (k + 1) ++ List.replicate (n - (k + 1)) 0 := by
  apply List.ext_getElem?
  intro i
  have hl : (X.take k).length = k := by rw [List.length_take]; omega
  have hl2 : (X.take (k + 1)).length = k + 1 := by rw [List.length_take]; omega
  rw [List.getElem?_set]
  by_cases e : k = i
  · subst e
    rw [if_pos rfl, if_pos (by rw [List.length_append, hl, List.length_replicate]; omega), List.getElem?_append_left (by omega), List.getElem?_take, if_pos (by omega), hx]
  · rw [if_neg e]
    by_cases hi : i < k
    · rw [List.getElem?_append_left (by omega), List.getElem?_append_left (by omega), List.getElem?_take, List.getElem?_take, if_pos hi, if_pos (by omega)]
    · rw [List.getElem?_append_right (by omega), List.getElem?_append_right (by omega), hl, hl2, List.getElem?_replicate, List.getElem?_replicate]
      by_cases h2 : i < n
      · rw [if_pos (by omega), if_pos (by omega)]
      · rw [if_neg (by omega), if_neg (by omega)]

set_option maxHeartbeats 400000 in
theorem linear_walk (w : World) (v : Value) (l : List UInt8) (hv : IsBytes w v l) (v2 : Value) (l2 : List UInt8) (hv2 : IsBytes w v2 l2) (v3 : Value) (l3 : List UInt8) (hv3 : IsBytes w v3 l3) :
    Calls Try.prog 7 #[v, v2, v3] w fun e w' => e = .returned (.bool true) ∧ Below w.heap.size w w' := by
  obtain ⟨base, cap, rfl, hlen, hcap, hnil, hcell⟩ := hv.out
  obtain ⟨base2, cap2, rfl, hlen2, hcap2, hnil2, hcell2⟩ := hv2.out
  obtain ⟨base3, cap3, rfl, hlen3, hcap3, hnil3, hcell3⟩ := hv3.out
  unfold maxLen at hcap hcap2 hcap3
  have HC1 := Lib.hid hcell
  have HC2 := Lib.hid hcell2
  have HC3 := Lib.hid hcell3
  have HV1 := Lib.hid hv
  have HV2 := Lib.hid hv2
  have HV3 := Lib.hid hv3
  clear hcell hcell2 hcell3 hnil hnil2 hnil3 hv hv2 hv3
  obtain ⟨n, hn1, hn2, hn3, hn5, hmin⟩ := min4 l.length l2.length l3.length
  have hmin := hmin Try.prog
  go_enter Try.func7, Try.ntmps7
  have hb0 : Below w.heap.size w w := Below.refl _ _
  go_wp2_with (at_make; refine wpList_make_bytes rfl (.tmp 17) (.tmp 17) 23 rfl w.heap.size 5 Try.underlying23 byte_info n rfl rfl (by omega) (Nat.le_refl _) ?_; intro w1 ho1 hg1)
  clear hmin
  have hb1 := Below.grown hb0 hg1 hb0.size (fun k hk => by cases hk)
  clear hg1 hb0
  have hX : (Crc.xorl (Crc.xorl (l.take n) (l2.take n)) (l3.take n)).length = n := by
    rw [Crc.xorl_length _ _ (by rw [Crc.xorl_length _ _ (by simp; omega)]; simp; omega), Crc.xorl_length _ _ (by simp; omega)]; simp; omega
  generalize hXe : Crc.xorl (Crc.xorl (l.take n) (l2.take n)) (l3.take n) = X at *
  have HX := Lib.hid hXe
  clear hXe
  go_loopw [9] (fun c wr => ∃ k : Nat, k ≤ n ∧ c = .int .i64 k ∧ OwnBytes 5 w.heap.size wr (.slice (some ⟨w.heap.size, 0, none⟩) n n) (X.take k ++ List.replicate (n - k) 0) ∧ Below w.heap.size w wr) (fun c _ => n - (intOf c).toNat)
  case atStart => exact ⟨0, by omega, rfl, by simpa using ho1, hb1⟩
  case round =>
    obtain ⟨k, hk, rfl, hok, hbk⟩ := hrel
    by_cases hlt : k < n
    · obtain ⟨b, off, rfl, hx1⟩ := HC1.out k (by omega)
      obtain ⟨b2, off2, rfl, hx2⟩ := HC2.out k (by omega)
      obtain ⟨b3, off3, rfl, hx3⟩ := HC3.out k (by omega)
      have hy1 : wr.cell? ⟨b, off + k, none⟩ = _ := (hbk.cell (block_lt_of_cell hx1)).trans hx1
      have hy2 : wr.cell? ⟨b2, off2 + k, none⟩ = _ := (hbk.cell (block_lt_of_cell hx2)).trans hx2
      have hy3 : wr.cell? ⟨b3, off3 + k, none⟩ = _ := (hbk.cell (block_lt_of_cell hx3)).trans hx3
      have hst := hok.cellAt k (by simp; omega)
      have hfr := hok.frozenAt k
      have HO := Lib.hid hok
      clear hok hx1 hx2 hx3
      go_wp2
      go_region
      go_wp2
      go_roundw
      case rel =>
        refine ⟨k + 1, by omega, by go_num, ?_, ?_⟩
        · rw [xor8, xor8, ← set_fill X n k hX hlt (l[k] ^^^ l2[k] ^^^ l3[k]) (by have := Crc.xor3_get l l2 l3 n k hn1 hn2 hn3 hlt; rwa [HX.out] at this)]
          exact HO.out.stored k _
        · exact (hbk.setCell (Nat.le_refl _) _).drew
      case measure => simp [intOf]; omega
    · obtain rfl : n = k := by omega
      rw [Nat.sub_self, List.replicate_zero, List.append_nil, ← hX, List.take_length, hX] at hok
      have c0 : ∀ d os, Calls Try.prog 11 #[] (Sort.grow (redrawn wr d) os) fun e w'' => e = .returned (.bool true) ∧ ∃ p : Regrown, w'' = Sort.grow (redrawn wr p.d) p.os := fun d os => Calls.regrown_of (example_any _)
      have c1 : ∀ d os, Calls Try.prog 12 #[.slice (some ⟨w.heap.size, 0, none⟩) n n] (Sort.grow (redrawn wr d) os) fun e w'' => e = .returned (.int .u32 ((Crc.ext 0#32 X).toNat : Int)) ∧ ∃ p : Regrown, w'' = Sort.grow (redrawn wr p.d) p.os :=
        fun d os => Calls.regrown_of (sum32_any _ X _ (hok.is.below (below_regrown wr d os) rfl))
      have c2 : ∀ d os, Calls Try.prog 12 #[.slice base n cap] (Sort.grow (redrawn wr d) os) fun e w'' => e = .returned (.int .u32 ((Crc.ext 0#32 (l.take n)).toNat : Int)) ∧ ∃ p : Regrown, w'' = Sort.grow (redrawn wr p.d) p.os :=
        fun d os => Calls.regrown_of (sum32_any _ (l.take n) _ (((IsBytes.take HV1.out n hn1).below hbk rfl).below (below_regrown wr d os) rfl))
      have c3 : ∀ d os, Calls Try.prog 12 #[.slice base2 n cap2] (Sort.grow (redrawn wr d) os) fun e w'' => e = .returned (.int .u32 ((Crc.ext 0#32 (l2.take n)).toNat : Int)) ∧ ∃ p : Regrown, w'' = Sort.grow (redrawn wr p.d) p.os :=
        fun d os => Calls.regrown_of (sum32_any _ (l2.take n) _ (((IsBytes.take HV2.out n hn2).below hbk rfl).below (below_regrown wr d os) rfl))
      have c4 : ∀ d os, Calls Try.prog 12 #[.slice base3 n cap3] (Sort.grow (redrawn wr d) os) fun e w'' => e = .returned (.int .u32 ((Crc.ext 0#32 (l3.take n)).toNat : Int)) ∧ ∃ p : Regrown, w'' = Sort.grow (redrawn wr p.d) p.os :=
        fun d os => Calls.regrown_of (sum32_any _ (l3.take n) _ (((IsBytes.take HV3.out n hn3).below hbk rfl).below (below_regrown wr d os) rfl))
      go_wp2
      refine wp_region_quiet_below (by kernel_rfl) (by kernel_rfl) ?_
      repeat (go_big_quiet_step (first | exact c0 _ _ | exact c1 _ _ | exact c2 _ _ | exact c3 _ _ | exact c4 _ _))
      refine wpQuiet_nil ?_
      intro _ hw'
      obtain ⟨pq, rfl⟩ := hw'
      go_wp2
      go_ret
      refine ⟨congrArg (fun b => Ending.returned (.bool b)) (?_ : (((Crc.ext 0#32 X).toNat : Int) == bits .xor .u32 (bits .xor .u32 ((Crc.ext 0#32 (l.take n)).toNat : Int) ((Crc.ext 0#32 (l2.take n)).toNat : Int)) ((Crc.ext 0#32 (l3.take n)).toNat : Int)) = true), hbk.trans ((below_regrown wr pq.d pq.os).mono hbk.size)⟩
      rw [xor32, xor32, ← Crc.ext_xor3 _ _ _ (by simp; omega) (by simp; omega), HX.out]
      exact beq_self_eq_true _

end Go.Proofs.Ytmjanlgcindfpaa
