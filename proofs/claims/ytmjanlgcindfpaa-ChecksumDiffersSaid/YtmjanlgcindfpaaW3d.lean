/- The walk of the law that hashes of different seeds, groups and lengths are different. -/
import Derived.Test.YtmjanlgcindfpaaW3c
import Derived.Test.YtmjanlgcindfpaaMix
namespace Go.Proofs.Ytmjanlgcindfpaa
open Go.RowKit

theorem hash_ne (seed : BitVec 64) (v : Value) (l : List UInt8) (w : World) (hv : IsBytes w v l) (c : Nat) (hne : (Crc.hash seed l).toNat ≠ c) :
    Calls Try.prog 16 #[.int .u64 (seed.toNat : Int), v] w fun e w' => ∃ m : Int, e = .returned (.int .u64 m) ∧ (m == (c : Int)) = false ∧ w = w' :=
  (hash_any seed v l w hv).mono fun _ _ ⟨h1, h2⟩ => ⟨_, h1, by rw [beq_eq_false_iff_ne]; omega, h2⟩
theorem hash_nat (seed : BitVec 64) (v : Value) (l : List UInt8) (w : World) (hv : IsBytes w v l) :
    Calls Try.prog 16 #[.int .u64 (seed.toNat : Int), v] w fun e w' => ∃ m : Nat, e = .returned (.int .u64 (m : Int)) ∧ Hid (m = (Crc.hash seed l).toNat) ∧ w = w' :=
  (hash_any seed v l w hv).mono fun _ _ ⟨h1, h2⟩ => ⟨_, h1, rfl, h2⟩

theorem lit_0 (w : World) : IsBytes (w.alloc (.cells #[.int .u8 0] 5)) (.slice (some ⟨w.heap.size, 0, none⟩) 1 1) [0] := IsBytes.new w 5 (0, 0) [0] (by decide)
theorem OwnBytes.alloc {E B : Nat} {w : World} {v : Value} {l : List UInt8} (h : OwnBytes E B w v l) (o : Obj) : OwnBytes E B (w.alloc o) v l := World.ownsRow.alloc h o

theorem byte_val (n : BitVec 64) (j : Nat) : (n.toNat : Int) / 2 ^ (8 * j) % 256 = (((Crc.byteOf n j).toNat : Nat) : Int) := by
  unfold Crc.byteOf
  rw [UInt8.toNat_ofNat', Int.natCast_emod, Int.natCast_ediv, Int.natCast_pow]; rfl
theorem byte_ne (n : BitVec 64) (j : Nat) : ((n.toNat : Int) / 2 ^ (8 * j) % 256 != 0) = (false || Crc.byteOf n j != 0) := by
  rw [byte_val, Bool.false_or, Bool.eq_iff_iff, bne_iff_ne, bne_iff_ne, ne_eq, ne_eq, ← UInt8.toNat_inj]
  show ¬ _ ↔ ¬ _ = 0
  omega

set_option maxHeartbeats 1000000 in
theorem differs_walk (w : World) (seed : BitVec 64) (v : Value) (l : List UInt8) (hv : IsBytes w v l) (at_ : Int) (hat : -9223372036854775808 ≤ at_ ∧ at_ ≤ 9223372036854775807) (n : BitVec 64) :
    Calls Try.prog 9 #[.int .u64 (seed.toNat : Int), v, .int .i64 at_, .int .u64 (n.toNat : Int)] w fun e w' => e = .returned (.bool true) ∧ Below w.heap.size w w' := by
  go_enter Try.func9, Try.ntmps9
  go_wp2_with fail
  refine (few_any v l 400 _ hv (by decide)).mono ?_
  rintro e w0 ⟨x, rfl, hx, rfl⟩
  have hk : (l.take 400).length ≤ 400 := List.length_take_le _ _
  generalize l.take 400 = k at *
  obtain ⟨xb, xc, rfl, hxl, hxc, -⟩ := hx.out
  unfold maxLen at hxc
  go_wp2_with fail
  refine (hash_nat seed _ k _ hx).mono ?_
  rintro e w0 ⟨c, rfl, HC, rfl⟩
  go_wp2_with fail
  refine (example_any _).mono ?_
  rintro e w1 ⟨rfl, hb1⟩
  have hx1 := hx.below hb1 rfl
  clear hx
  have hlong : k.length % 8 ≠ 0 → (Crc.hash seed (k ++ [0])).toNat ≠ c := fun h8 e => Crc.hash_longer seed k h8 (BitVec.eq_of_toNat_eq (by rw [e, HC.out]))
  have ho0 := OwnBytes.made 5 w1 w1.heap.size (Nat.le_refl _)
  have hb2 : Below w1.heap.size w1 (w1.alloc (.cells #[] 5)) := (Below.refl _ _).alloc (Nat.le_refl _) _
  have hx2 := hx1.below hb2 rfl
  by_cases hn : n = 0#64
  · subst hn
    clear hlong
    by_cases h8 : k.length % 8 = 0
    · have h8' : ((k.length : Int) % 8 != 0) = false := by rw [bne_eq_false_iff_eq]; omega
      go_wp2_with fail
      all_goals (go_ret; exact ⟨rfl, hb1⟩)
    · have hlong : (Crc.hash seed (k ++ [0])).toNat ≠ c := fun e => Crc.hash_longer seed k h8 (BitVec.eq_of_toNat_eq (by rw [e, HC.out]))
      have h8' : ((k.length : Int) % 8 != 0) = true := by rw [bne_iff_ne]; omega
      have hlen0 : ((k.length : Int) == 0) = false := by rw [beq_eq_false_iff_ne]; omega
      go_wp2_with (first | (at_builtin; refine wpList_append_bytes rfl (.tmp 43) (.tmp 44) 23 23 rfl w1.heap.size 5 Try.underlying23 byte_info _ [] rfl ho0 _ k rfl (hx2.src Try.underlying23) (by simp only [List.length_nil]; omega) hb2.size ?_; intro v3 w3 ho3 hg3; have hb3 := Below.grown hb2 hg3 hb2.size (fun k hk => (World.ownsRow.lt ho0 k hk).1)) | (at_builtin; refine wpList_append_bytes rfl (.tmp 45) (.tmp 46) 23 23 rfl w1.heap.size 5 Try.underlying23 byte_info _ k rfl (ho3.alloc (.cells #[.int .u8 0] 5)) _ [0] rfl ((lit_0 w3).src Try.underlying23) (by simp only [List.length_singleton]; omega) (hb3.alloc hb3.size (.cells #[.int .u8 0] 5)).size ?_; intro v4 w4 ho4 hg4; have hb4 := Below.grown (hb3.alloc hb3.size (.cells #[.int .u8 0] 5)) hg4 (hb3.alloc hb3.size (.cells #[.int .u8 0] 5)).size (fun k hk => (World.ownsRow.lt (OwnBytes.alloc ho3 (.cells #[.int .u8 0] 5)) k hk).1)) | (go_at_call 16; refine (hash_ne seed _ (k ++ [0]) _ ho4.is c hlong).mono ?_; rintro e w5 ⟨m5, rfl, hm5, rfl⟩))
      all_goals (go_ret; exact ⟨rfl, hb1.trans (hb4.mono hb1.size)⟩)
  · have hn1 : ((n.toNat : Int) == 0) = false := by
      rw [beq_eq_false_iff_ne]
      intro e
      exact hn (BitVec.eq_of_toNat_eq (by simpa using e))
    have hn2 : ((n.toNat : Int) != 0) = true := by rw [bne, hn1]; rfl
    have hseed : (Crc.hash (seed ^^^ n) k).toNat ≠ c := fun e => hn (Crc.hash_seed seed n k (BitVec.eq_of_toNat_eq (by rw [e, HC.out])))
    go_wp2_with fail
    rw [xor64]
    refine (hash_ne (seed ^^^ n) _ k _ hx1 c hseed).mono ?_
    rintro e w2 ⟨m1, rfl, hm1, rfl⟩
    clear hseed
    have hq1 : 0 < k.length → -((k.length : Int)) < at_.tmod (k.length : Int) ∧ at_.tmod (k.length : Int) < (k.length : Int) :=
      fun h => ⟨Int.lt_tmod_of_pos _ (by omega), Int.tmod_lt_of_pos _ (by omega)⟩
    generalize hqe : at_.tmod (k.length : Int) = q at hq1
    by_cases hlen0 : k.length = 0
    · have hlen1 : ((k.length : Int) == 0) = true := by rw [beq_iff_eq]; omega
      have h8' : ((k.length : Int) % 8 != 0) = false := by rw [bne_eq_false_iff_eq]; omega
      clear hqe
      go_wp2_with fail
      go_ret
      exact ⟨rfl, hb1⟩
    · have hlen1 : ((k.length : Int) == 0) = false := by rw [beq_eq_false_iff_ne]; omega
      have hq2 := hq1 (by omega)
      clear hq1
      by_cases h8 : k.length % 8 = 0
      · have h8' : ((k.length : Int) % 8 != 0) = false := by rw [bne_eq_false_iff_eq]; omega
        have hbW := hb1
        have hxW := hx1
        clear hb1 hx1 hb2 ho0 hx2 hlong
        obtain ⟨W, rfl⟩ : ∃ W : World, W = w1 := ⟨_, rfl⟩
        have hbW2 := hbW.alloc hbW.size (.cells #[] 5)
        have hxW2 := hxW.below ((Below.refl W.heap.size W).alloc (Nat.le_refl _) (.cells #[] 5)) rfl
        have hoW := OwnBytes.made 5 W w.heap.size hbW.size
        go_wp2_with (at_builtin; refine wpList_append_bytes rfl (.tmp 72) (.tmp 73) 23 23 rfl w.heap.size 5 Try.underlying23 byte_info _ [] rfl hoW _ k rfl (hxW2.src Try.underlying23) (by simp only [List.length_nil]; omega) hbW2.size ?_; intro v6 w6 ho6 hg6; have hb6 := Below.grown hbW2 hg6 hbW2.size (fun k hk => (World.ownsRow.lt hoW k hk).1); obtain ⟨g, cp, rfl, hgB⟩ := ho6.shape (by intro e; exact hlen0 (by rw [show k = [] from e]; rfl)); simp only [List.nil_append] at *)
        all_goals first
          | (obtain ⟨f, hf, hflt⟩ : ∃ f : Nat, q + (k.length : Int) = (f : Int) ∧ f < k.length := ⟨(q + (k.length : Int)).toNat, by omega, by omega⟩; rw [hf]; clear hf)
          | (obtain ⟨f, hf, hflt⟩ : ∃ f : Nat, q = (f : Int) ∧ f < k.length := ⟨q.toNat, by omega, by omega⟩; rw [hf]; clear hf)
        all_goals
          clear hqe hq2 h8 hlen1 h8' hm1 hn1 hn2 hxW hbW hbW2 hxW2 hoW hg6
          have hfe : ((f : Int) / 8 * 8) = 8 * ((f / 8 : Nat) : Int) := by omega
          rw [hfe]
          have hgi : 8 * (f / 8) < k.length := by omega
          generalize f / 8 = gi at hgi
          clear hfe
          go_loopw [14, 15] (fun ch d wr => ∃ (j : Nat) (b : Bool), 8 * gi + j ≤ k.length ∧ j ≤ 8 ∧ d = .int .i64 j ∧ ch = .bool b ∧ b = Crc.anyTo n j ∧ OwnBytes 5 w.heap.size wr (.slice (some ⟨g, 0, none⟩) k.length cp) (Crc.xorTo k (8 * gi) n j) ∧ Below w.heap.size w wr) (fun _ d _ => 8 - (intOf d).toNat)
          case atStart => exact ⟨0, false, by omega, by omega, rfl, rfl, rfl, ho6, hb6⟩
          case round =>
            obtain ⟨j, b, hjl, hj8, rfl, rfl, hb, hoj, hbj⟩ := hrel
            have HB := Lib.hid hb
            have HO := Lib.hid hoj
            clear hb hoj ho6 hb6
            by_cases hgo : j < 8 ∧ 8 * gi + j < k.length
            · obtain ⟨hj, hjk⟩ := hgo
              have hidx : 8 * gi + j < (Crc.xorTo k (8 * gi) n j).length := by rw [Crc.xorTo_length]; omega
              have hst : wr.cell? ⟨g, 8 * gi + j, none⟩ = some (.int .u8 (((Crc.xorTo k (8 * gi) n j).getD (8 * gi + j) 0).toNat : Int)) := by
                rw [HO.out.cellAt _ hidx, List.getD_eq_getElem?_getD, List.getElem?_eq_getElem hidx]; rfl
              have hfr := HO.out.frozenAt (8 * gi + j)
              generalize hy : (Crc.xorTo k (8 * gi) n j).getD (8 * gi + j) 0 = y at hst
              have HY := Lib.hid hy
              have hy8 := y.toNat_lt
              clear hy hidx
              have hcn : (Crc.byteOf n j).toNat = n.toNat / 2 ^ (8 * j) % 256 := by unfold Crc.byteOf; rw [UInt8.toNat_ofNat']
              cases b
              all_goals
                go_wp2_with fail
                go_roundw
                case rel =>
                  refine ⟨j + 1, _, by omega, by omega, by go_num, rfl, ?_, ?_, hbj.setCell hgB _⟩
                  · rw [Crc.anyTo, ← HB.out]
                    first
                      | rfl
                      | exact byte_ne n j
                  · rw [byte_val, xor8, ← HY.out]
                    exact HO.out.stored _ _
                case measure => simp [intOf]; omega
            · have hgo2 : (j < 8 ∧ ¬ 8 * gi + j < k.length) ∨ ¬ j < 8 := by omega
              clear hgo
              rcases hgo2 with ⟨hj, hjk⟩ | hj
              all_goals
                go_wp2_with fail
                refine (hash_any seed _ _ _ HO.out.is).mono ?_
                rintro e w7 ⟨rfl, rfl⟩
                generalize hz : (Crc.hash seed (Crc.xorTo k (8 * gi) n j)).toNat = z
                have HZ := Lib.hid hz
                clear hz
                go_wp2_with fail
                go_ret
                refine ⟨congrArg (fun b => Ending.returned (.bool b)) (?_ : (((z : Int) != (c : Int)) == b) = true), hbj⟩
                have h := Crc.hash_xorTo seed k gi j n hjl hj8 hgi
                rw [HB.out, ← HZ.out, HC.out]
                by_cases hm : Crc.anyTo n j = false
                · rw [h.2 hm, hm]; simp
                · have hne : Crc.hash seed (Crc.xorTo k (8 * gi) n j) ≠ Crc.hash seed k := fun e => hm (h.1 e)
                  have : (((Crc.hash seed (Crc.xorTo k (8 * gi) n j)).toNat : Int) != ((Crc.hash seed k).toNat : Int)) = true := by
                    rw [bne_iff_ne]
                    intro e
                    exact hne (BitVec.eq_of_toNat_eq (by omega))
                  rw [this, Bool.not_eq_false] at *
                  rw [hm]; rfl
      · have h8' : ((k.length : Int) % 8 != 0) = true := by rw [bne_iff_ne]; omega
        go_wp2_with (first | (at_builtin; refine wpList_append_bytes rfl (.tmp 43) (.tmp 44) 23 23 rfl w1.heap.size 5 Try.underlying23 byte_info _ [] rfl ho0 _ k rfl (hx2.src Try.underlying23) (by simp only [List.length_nil]; omega) hb2.size ?_; intro v3 w3 ho3 hg3; have hb3 := Below.grown hb2 hg3 hb2.size (fun k hk => (World.ownsRow.lt ho0 k hk).1)) | (at_builtin; refine wpList_append_bytes rfl (.tmp 45) (.tmp 46) 23 23 rfl w1.heap.size 5 Try.underlying23 byte_info _ k rfl (ho3.alloc (.cells #[.int .u8 0] 5)) _ [0] rfl ((lit_0 w3).src Try.underlying23) (by simp only [List.length_singleton]; omega) (hb3.alloc hb3.size (.cells #[.int .u8 0] 5)).size ?_; intro v4 w4 ho4 hg4; have hb4 := Below.grown (hb3.alloc hb3.size (.cells #[.int .u8 0] 5)) hg4 (hb3.alloc hb3.size (.cells #[.int .u8 0] 5)).size (fun k hk => (World.ownsRow.lt (OwnBytes.alloc ho3 (.cells #[.int .u8 0] 5)) k hk).1)))
        refine (hash_ne seed _ (k ++ [0]) _ ho4.is c (hlong h8)).mono ?_
        rintro e w5 ⟨m5, rfl, hm5, rfl⟩
        have hbW := hb1.trans (hb4.mono hb1.size)
        have hxW := hx1.below hb4 rfl
        clear hb1 hx1 hb2 ho0 hx2 hlong hb3 hb4 ho3 ho4 hg3 hg4
        obtain ⟨W, rfl⟩ : ∃ W : World, W = w4 := ⟨_, rfl⟩
        have hbW2 := hbW.alloc hbW.size (.cells #[] 5)
        have hxW2 := hxW.below ((Below.refl W.heap.size W).alloc (Nat.le_refl _) (.cells #[] 5)) rfl
        have hoW := OwnBytes.made 5 W w.heap.size hbW.size
        go_wp2_with (at_builtin; refine wpList_append_bytes rfl (.tmp 72) (.tmp 73) 23 23 rfl w.heap.size 5 Try.underlying23 byte_info _ [] rfl hoW _ k rfl (hxW2.src Try.underlying23) (by simp only [List.length_nil]; omega) hbW2.size ?_; intro v6 w6 ho6 hg6; have hb6 := Below.grown hbW2 hg6 hbW2.size (fun k hk => (World.ownsRow.lt hoW k hk).1); obtain ⟨g, cp, rfl, hgB⟩ := ho6.shape (by intro e; exact hlen0 (by rw [show k = [] from e]; rfl)); simp only [List.nil_append] at *)
        all_goals first
          | (obtain ⟨f, hf, hflt⟩ : ∃ f : Nat, q + (k.length : Int) = (f : Int) ∧ f < k.length := ⟨(q + (k.length : Int)).toNat, by omega, by omega⟩; rw [hf]; clear hf)
          | (obtain ⟨f, hf, hflt⟩ : ∃ f : Nat, q = (f : Int) ∧ f < k.length := ⟨q.toNat, by omega, by omega⟩; rw [hf]; clear hf)
        all_goals
          clear hqe hq2 h8 hlen1 h8' hm1 hn1 hn2 hxW hbW hbW2 hxW2 hoW hg6
          have hfe : ((f : Int) / 8 * 8) = 8 * ((f / 8 : Nat) : Int) := by omega
          rw [hfe]
          have hgi : 8 * (f / 8) < k.length := by omega
          generalize f / 8 = gi at hgi
          clear hfe
          go_loopw [14, 15] (fun ch d wr => ∃ (j : Nat) (b : Bool), 8 * gi + j ≤ k.length ∧ j ≤ 8 ∧ d = .int .i64 j ∧ ch = .bool b ∧ b = Crc.anyTo n j ∧ OwnBytes 5 w.heap.size wr (.slice (some ⟨g, 0, none⟩) k.length cp) (Crc.xorTo k (8 * gi) n j) ∧ Below w.heap.size w wr) (fun _ d _ => 8 - (intOf d).toNat)
          case atStart => exact ⟨0, false, by omega, by omega, rfl, rfl, rfl, ho6, hb6⟩
          case round =>
            obtain ⟨j, b, hjl, hj8, rfl, rfl, hb, hoj, hbj⟩ := hrel
            have HB := Lib.hid hb
            have HO := Lib.hid hoj
            clear hb hoj ho6 hb6
            by_cases hgo : j < 8 ∧ 8 * gi + j < k.length
            · obtain ⟨hj, hjk⟩ := hgo
              have hidx : 8 * gi + j < (Crc.xorTo k (8 * gi) n j).length := by rw [Crc.xorTo_length]; omega
              have hst : wr.cell? ⟨g, 8 * gi + j, none⟩ = some (.int .u8 (((Crc.xorTo k (8 * gi) n j).getD (8 * gi + j) 0).toNat : Int)) := by
                rw [HO.out.cellAt _ hidx, List.getD_eq_getElem?_getD, List.getElem?_eq_getElem hidx]; rfl
              have hfr := HO.out.frozenAt (8 * gi + j)
              generalize hy : (Crc.xorTo k (8 * gi) n j).getD (8 * gi + j) 0 = y at hst
              have HY := Lib.hid hy
              have hy8 := y.toNat_lt
              clear hy hidx
              have hcn : (Crc.byteOf n j).toNat = n.toNat / 2 ^ (8 * j) % 256 := by unfold Crc.byteOf; rw [UInt8.toNat_ofNat']
              cases b
              all_goals
                go_wp2_with fail
                go_roundw
                case rel =>
                  refine ⟨j + 1, _, by omega, by omega, by go_num, rfl, ?_, ?_, hbj.setCell hgB _⟩
                  · rw [Crc.anyTo, ← HB.out]
                    first
                      | rfl
                      | exact byte_ne n j
                  · rw [byte_val, xor8, ← HY.out]
                    exact HO.out.stored _ _
                case measure => simp [intOf]; omega
            · have hgo2 : (j < 8 ∧ ¬ 8 * gi + j < k.length) ∨ ¬ j < 8 := by omega
              clear hgo
              rcases hgo2 with ⟨hj, hjk⟩ | hj
              all_goals
                go_wp2_with fail
                refine (hash_any seed _ _ _ HO.out.is).mono ?_
                rintro e w7 ⟨rfl, rfl⟩
                generalize hz : (Crc.hash seed (Crc.xorTo k (8 * gi) n j)).toNat = z
                have HZ := Lib.hid hz
                clear hz
                go_wp2_with fail
                go_ret
                refine ⟨congrArg (fun b => Ending.returned (.bool b)) (?_ : (((z : Int) != (c : Int)) == b) = true), hbj⟩
                have h := Crc.hash_xorTo seed k gi j n hjl hj8 hgi
                rw [HB.out, ← HZ.out, HC.out]
                by_cases hm : Crc.anyTo n j = false
                · rw [h.2 hm, hm]; simp
                · have hne : Crc.hash seed (Crc.xorTo k (8 * gi) n j) ≠ Crc.hash seed k := fun e => hm (h.1 e)
                  have : (((Crc.hash seed (Crc.xorTo k (8 * gi) n j)).toNat : Int) != ((Crc.hash seed k).toNat : Int)) = true := by
                    rw [bne_iff_ne]
                    intro e
                    exact hne (BitVec.eq_of_toNat_eq (by omega))
                  rw [this, Bool.not_eq_false] at *
                  rw [hm]; rfl

end Go.Proofs.Ytmjanlgcindfpaa
