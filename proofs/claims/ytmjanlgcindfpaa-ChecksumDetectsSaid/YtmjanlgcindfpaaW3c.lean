/- The walk of the law that changes within 32 bits are detected. -/
import Derived.Test.YtmjanlgcindfpaaW3b
namespace Go.Proofs.Ytmjanlgcindfpaa
open Go.RowKit

theorem odd_bit (n j : Nat) : ((n : Int) / 2 ^ j).tmod 2 = 1 ↔ n.testBit j = true := by
  have e : (n : Int) / 2 ^ j = ((n / 2 ^ j : Nat) : Int) := by rw [Int.natCast_ediv, Int.natCast_pow]; rfl
  rw [e, Nat.testBit_eq_decide_div_mod_eq, decide_eq_true_eq]
  generalize n / 2 ^ j = m
  rw [Int.tmod_eq_emod_of_nonneg (by omega)]
  omega
theorem flip8 (y : UInt8) (m : Nat) : bits .xor .u8 (y.toNat : Int) (2 ^ m % 256) = ((y ^^^ UInt8.ofNat (2 ^ m)).toNat : Int) := by
  have e : ((2 : Int) ^ m % 256) = (((UInt8.ofNat (2 ^ m)).toNat : Nat) : Int) := by
    rw [UInt8.toNat_ofNat', Int.natCast_emod, Int.natCast_pow]; rfl
  rw [e, xor8]

set_option maxHeartbeats 400000 in
theorem detects_walk (w : World) (v : Value) (l : List UInt8) (hv : IsBytes w v l) (at_ : Int) (hat : -9223372036854775808 ≤ at_ ∧ at_ ≤ 9223372036854775807) (s : BitVec 32) :
    Calls Try.prog 8 #[v, .int .i64 at_, .int .u32 (s.toNat : Int)] w fun e w' => e = .returned (.bool true) ∧ Below w.heap.size w w' := by
  have ho0 := OwnBytes.made 5 w w.heap.size (Nat.le_refl _)
  have hb0 : Below w.heap.size w (w.alloc (.cells #[] 5)) := (Below.refl _ _).alloc (Nat.le_refl _) _
  have hv0 := hv.below hb0 rfl
  clear hv
  go_enter Try.func8, Try.ntmps8
  go_wp2_with fail
  refine (few_any v l 500 _ hv0 (by decide)).mono ?_
  rintro e w0 ⟨x, rfl, hx, rfl⟩
  have hk : (l.take 500).length ≤ 500 := List.length_take_le _ _
  generalize l.take 500 = k at *
  clear hv0
  have hs2 := s.isLt
  by_cases hne : k = []
  · subst hne
    go_wp2_with (first | (at_builtin; refine wpList_append_bytes rfl (.tmp 13) (.tmp 15) 23 23 rfl w.heap.size 5 Try.underlying23 byte_info _ [] rfl ho0 _ [] rfl (hx.src Try.underlying23) (by simp) hb0.size ?_; intro v3 w1 ho1 hg1; have hb1 := Below.grown hb0 hg1 hb0.size (fun k hk => (World.ownsRow.lt ho0 k hk).1); obtain ⟨bs, cp, rfl, -⟩ := ho1.is.out; simp only [List.append_nil, List.length_nil] at *) | (go_at_call 11; refine (example_any _).mono ?_; rintro e w3 ⟨rfl, hb3⟩))
    go_ret
    exact ⟨rfl, hb1.trans (hb3.mono hb1.size)⟩
  · have hpos : 0 < k.length := List.length_pos_iff.2 hne
    by_cases hs0 : s = 0#32
    · subst hs0
      go_wp2_with (first | (at_builtin; refine wpList_append_bytes rfl (.tmp 13) (.tmp 15) 23 23 rfl w.heap.size 5 Try.underlying23 byte_info _ [] rfl ho0 _ k rfl (hx.src Try.underlying23) (by simp only [List.length_nil]; omega) hb0.size ?_; intro v3 w1 ho1 hg1; have hb1 := Below.grown hb0 hg1 hb0.size (fun k hk => (World.ownsRow.lt ho0 k hk).1); obtain ⟨g, cp, rfl, -⟩ := ho1.shape (by simpa using hne); simp only [List.nil_append] at *) | (go_at_call 11; refine (example_any _).mono ?_; rintro e w3 ⟨rfl, hb3⟩))
      go_ret
      exact ⟨rfl, hb1.trans (hb3.mono hb1.size)⟩
    · have hs1 : ((s.toNat : Int) == 0) = false := by
        rw [beq_eq_false_iff_ne]
        intro e
        exact hs0 (BitVec.eq_of_toNat_eq (by simpa using e))
      have hq1 : -(8 * (k.length : Int)) < at_.tmod (8 * (k.length : Int)) ∧ at_.tmod (8 * (k.length : Int)) < 8 * (k.length : Int) :=
        ⟨Int.lt_tmod_of_pos _ (by omega), Int.tmod_lt_of_pos _ (by omega)⟩
      generalize hqe : at_.tmod (8 * (k.length : Int)) = q at hq1
      go_wp2_with (first | (at_builtin; refine wpList_append_bytes rfl (.tmp 13) (.tmp 15) 23 23 rfl w.heap.size 5 Try.underlying23 byte_info _ [] rfl ho0 _ k rfl (hx.src Try.underlying23) (by simp only [List.length_nil]; omega) hb0.size ?_; intro v3 w1 ho1 hg1; have hb1 := Below.grown hb0 hg1 hb0.size (fun k hk => (World.ownsRow.lt ho0 k hk).1); obtain ⟨g, cp, rfl, hgB⟩ := ho1.shape (by simpa using hne); simp only [List.nil_append] at *) | (go_at_call 11; refine (example_any _).mono ?_; rintro e w3 ⟨rfl, hb3⟩))
      all_goals first
        | (obtain ⟨f, hf, hflt⟩ : ∃ f : Nat, q + 8 * (k.length : Int) = (f : Int) ∧ f < 8 * k.length := ⟨(q + 8 * (k.length : Int)).toNat, by omega, by omega⟩; rw [hf]; clear hf)
        | (obtain ⟨f, hf, hflt⟩ : ∃ f : Nat, q = (f : Int) ∧ f < 8 * k.length := ⟨q.toNat, by omega, by omega⟩; rw [hf]; clear hf)
      all_goals
        clear hqe hq1 hs0 ho0 hb0
        refine (sum32_any _ k _ ho1.is).mono ?_
        rintro e w2 ⟨rfl, hb2⟩
        have hb3 := hb1.trans (hb2.mono hb1.size)
        have ho2 : OwnBytes 5 w.heap.size w2 (.slice (some ⟨g, 0, none⟩) k.length cp) k := ho1.later hb2
        clear hb1 hb2 hg1
        generalize hce : (Crc.ext 0#32 k).toNat = ce
        have HCE := Lib.hid hce
        clear hce
        go_wp2_with fail
        go_loopw [10, 11] (fun ch c wr => ∃ (j : Nat) (b : Bool), j ≤ 32 ∧ c = .int .i64 j ∧ ch = .bool b ∧ b = decide (Crc.maskTo (8 * k.length) f s.toNat j ≠ 0) ∧ OwnBytes 5 w.heap.size wr (.slice (some ⟨g, 0, none⟩) k.length cp) (Crc.flipTo k f s.toNat j) ∧ Below w.heap.size w wr) (fun _ c _ => 32 - (intOf c).toNat)
        case atStart => exact ⟨0, false, by omega, rfl, rfl, by simp [Crc.maskTo], ho2, hb3⟩
        case round =>
          obtain ⟨j, b, hj, rfl, rfl, hb, hoj, hbj⟩ := hrel
          have HB := Lib.hid hb
          have HO := Lib.hid hoj
          clear hb hoj ho2 hb3 ho1
          by_cases hlt : j < 32
          · go_wp2_with fail
            · have hin : f + j < 8 * k.length := by omega
              have hidx : (f + j) / 8 < (Crc.flipTo k f s.toNat j).length := by rw [Crc.flipTo_length]; omega
              have hst : wr.cell? ⟨g, (f + j) / 8, none⟩ = some (.int .u8 (((Crc.flipTo k f s.toNat j).getD ((f + j) / 8) 0).toNat : Int)) := by
                rw [HO.out.cellAt _ hidx, List.getD_eq_getElem?_getD, List.getElem?_eq_getElem hidx]; rfl
              have hfr := HO.out.frozenAt ((f + j) / 8)
              generalize hy : (Crc.flipTo k f s.toNat j).getD ((f + j) / 8) 0 = y at hst
              have HY := Lib.hid hy
              have hy8 := y.toNat_lt
              clear hy hidx
              go_region
              go_wp2
              have hbit : s.toNat.testBit j = true ∧ f + j < 8 * k.length := ⟨(odd_bit _ _).1 ‹_›, hin⟩
              go_roundw
              case rel =>
                refine ⟨j + 1, true, by omega, by go_num, rfl, ?_, ?_, (hbj.setCell hgB _).drew⟩
                · exact (decide_eq_true (p := Crc.maskTo (8 * k.length) f s.toNat (j + 1) ≠ 0) (fun e => ((Crc.maskTo_zero _ _ _ _).1 e).2 hbit)).symm
                · rw [flip8, ← HY.out, Crc.flipTo, if_pos hbit]
                  exact HO.out.stored _ _
              case measure => simp [intOf]; omega
            · have hbit : ¬ (s.toNat.testBit j = true ∧ f + j < 8 * k.length) := fun h => by omega
              go_roundw
              case rel => exact ⟨j + 1, b, by omega, by go_num, rfl, by rw [Crc.maskTo, if_neg hbit]; exact HB.out, by rw [Crc.flipTo, if_neg hbit]; exact HO.out, hbj⟩
              case measure => simp [intOf]; omega
            · have hbit : ¬ (s.toNat.testBit j = true ∧ f + j < 8 * k.length) := fun h => absurd ((odd_bit _ _).2 h.1) ‹_›
              go_roundw
              case rel => exact ⟨j + 1, b, by omega, by go_num, rfl, by rw [Crc.maskTo, if_neg hbit]; exact HB.out, by rw [Crc.flipTo, if_neg hbit]; exact HO.out, hbj⟩
              case measure => simp [intOf]; omega
          · obtain rfl : j = 32 := by omega
            go_wp2_with fail
            refine (example_any _).mono ?_
            rintro e w3 ⟨rfl, hb4⟩
            have ho4 := HO.out.later hb4
            have hb5 := hbj.trans (hb4.mono hbj.size)
            clear hb4 HO hbj
            go_wp2_with fail
            refine (sum32_any _ _ _ ho4.is).mono ?_
            rintro e w4 ⟨rfl, hb6⟩
            go_wp2_with fail
            go_ret
            refine ⟨congrArg (fun b => Ending.returned (.bool b)) (?_ : ((((Crc.ext 0#32 (Crc.flipTo k f s.toNat 32)).toNat : Int) != (ce : Int)) == b) = true), hb5.trans (hb6.mono hb5.size)⟩
            rw [← HCE.out, HB.out]
            have h := Crc.ext_flip 0#32 k f s.toNat (by omega)
            by_cases hm : Crc.maskTo (8 * k.length) f s.toNat 32 = 0
            · rw [h.2 hm, hm]; simp
            · have hne : Crc.ext 0#32 (Crc.flipTo k f s.toNat 32) ≠ Crc.ext 0#32 k := fun e => hm (h.1 e)
              have : (((Crc.ext 0#32 (Crc.flipTo k f s.toNat 32)).toNat : Int) != ((Crc.ext 0#32 k).toNat : Int)) = true := by
                rw [bne_iff_ne]
                intro e
                exact hne (BitVec.eq_of_toNat_eq (by omega))
              rw [this, decide_eq_true hm]; rfl

end Go.Proofs.Ytmjanlgcindfpaa
