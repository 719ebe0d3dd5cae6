/- The specification of facts: Bytes and Append. -/
import Derived.Test.YtfpkibfofainaaaZVb13
import Derived.Test.YtfpkibfofainaaaZLw
set_option linter.unusedVariables false
set_option linter.unusedSimpArgs false
namespace Go.Proofs.Ytfpkibfofainaaa
open Go.RowKit

set_option maxRecDepth 8000 in
set_option maxHeartbeats 4000000 in
theorem refFBytes_any (w : World) (f : Fc) (vb : Option Addr) (vq : Nat) (hv : IsVals w (.slice vb f.fields.length vq) f.fields) (hI : f.Ints)
    (hs1 : f.src.size ≤ 1048576) (hs2 : f.table.size ≤ 1048576) (hs3 : f.key.size ≤ 1048576) (hvl : f.fields.length ≤ 1048576) :
    Calls Try.prog 65 #[f.val (.slice vb f.fields.length vq)] w fun e w' => ∃ v', e = .returned v' ∧ IsBytes w' v' f.enc ∧ Below w.heap.size w w' := by
  obtain ⟨src, seq, kind, ref, table, key, event, fields⟩ := f
  have henc : Fc.enc ⟨src, seq, kind, ref, table, key, event, fields⟩ = Wire.encT src.data.toList ++ Wire.encI seq ++ Wire.encI kind ++ Wire.encI ref ++ Wire.encT table.data.toList ++ Wire.encT key.data.toList ++ Wire.encI event ++ Wire.encU fields.length ++ encVs fields := rfl
  simp only [Fc.val, Fc.cellsA, Fc.Ints] at *
  obtain ⟨n, hn⟩ : ∃ n, fields.length = n := ⟨_, rfl⟩
  have hcov := hv.shape
  rw [hn] at hv hvl henc hcov ⊢
  have hn64 : n < 18446744073709551616 := by omega
  have HN := Lib.hid hn
  have HENC := Lib.hid henc
  have t1 := encT_le src hs1
  have t2 := encT_le table hs2
  have t3 := encT_le key hs3
  have i1 := encI_le hI.1
  have i2 := encI_le hI.2.1
  have i3 := encI_le hI.2.2.1
  have i4 := encI_le hI.2.2.2
  have u1 := Wire.encU_len10 (n := n) (by omega)
  have h0 := ((St.start w).putOld (P := (IsVals · (.slice vb n vq) fields)) (Mono.seq rdVal_up _ _) hv).boxC #[.string src, .int .i64 seq, .int .i64 kind, .int .i64 ref, .string table, .string key, .int .i64 event, .slice vb n vq] 27
  clear hn hv henc hcov
  obtain ⟨c0, c1, c2, c3, c4, c5, c6, c7⟩ := (h0.is 0 rfl : IsCells _ _ _).c8
  go_enter Try.func65, Try.ntmps65
  go_wp2_with fail
  refine (Calls.sB h0 (refText4_any _ src (by omega))).mono ?_
  rintro e w1 ⟨v1, rfl, h1⟩
  obtain ⟨X1, hX1⟩ : ∃ X, Wire.encT src.data.toList = X := ⟨_, rfl⟩
  have l1 : X1.length ≤ 1048600 := by rw [← hX1]; omega
  rw [hX1] at h1
  have HX1 := Lib.hid hX1
  have k1 := h1.facts (fs' := [(IsBytes · v1 X1), IsCells w.heap.size #[.string src, .int .i64 seq, .int .i64 kind, .int .i64 ref, .string table, .string key, .int .i64 event, .slice vb n vq], (IsVals · (.slice vb n vq) fields)]) (fun P hP => by simp only [List.mem_cons, List.not_mem_nil, or_false] at hP ⊢; rcases hP with h | h | h <;> simp [h])
  clear hX1 h1 h0 c0 c1 c2 c3 c4 c5 c6 c7
  obtain ⟨c0, c1, c2, c3, c4, c5, c6, c7⟩ := (k1.is 1 rfl : IsCells _ _ _).c8
  go_wp2_with fail
  refine (Calls.sB k1 (refAppendInt_any _ _ _ seq (k1.is 0 rfl) hI.1.1 hI.1.2 (by omega))).mono ?_
  rintro e w2 ⟨v2, rfl, h2⟩
  obtain ⟨X2, hX2⟩ : ∃ X, X1 ++ Wire.encI seq = X := ⟨_, rfl⟩
  have l2 : X2.length ≤ 2097200 := by rw [← hX2, List.length_append]; omega
  rw [hX2] at h2
  have HX2 := Lib.hid hX2
  have k2 := h2.facts (fs' := [(IsBytes · v2 X2), IsCells w.heap.size #[.string src, .int .i64 seq, .int .i64 kind, .int .i64 ref, .string table, .string key, .int .i64 event, .slice vb n vq], (IsVals · (.slice vb n vq) fields)]) (fun P hP => by simp only [List.mem_cons, List.not_mem_nil, or_false] at hP ⊢; rcases hP with h | h | h <;> simp [h])
  clear hX2 h2 k1 c0 c1 c2 c3 c4 c5 c6 c7
  obtain ⟨c0, c1, c2, c3, c4, c5, c6, c7⟩ := (k2.is 1 rfl : IsCells _ _ _).c8
  go_wp2_with fail
  refine (Calls.sB k2 (refAppendInt_any _ _ _ kind (k2.is 0 rfl) hI.2.1.1 hI.2.1.2 (by omega))).mono ?_
  rintro e w3 ⟨v3, rfl, h3⟩
  obtain ⟨X3, hX3⟩ : ∃ X, X2 ++ Wire.encI kind = X := ⟨_, rfl⟩
  have l3 : X3.length ≤ 3145800 := by rw [← hX3, List.length_append]; omega
  rw [hX3] at h3
  have HX3 := Lib.hid hX3
  have k3 := h3.facts (fs' := [(IsBytes · v3 X3), IsCells w.heap.size #[.string src, .int .i64 seq, .int .i64 kind, .int .i64 ref, .string table, .string key, .int .i64 event, .slice vb n vq], (IsVals · (.slice vb n vq) fields)]) (fun P hP => by simp only [List.mem_cons, List.not_mem_nil, or_false] at hP ⊢; rcases hP with h | h | h <;> simp [h])
  clear hX3 h3 k2 c0 c1 c2 c3 c4 c5 c6 c7
  obtain ⟨c0, c1, c2, c3, c4, c5, c6, c7⟩ := (k3.is 1 rfl : IsCells _ _ _).c8
  go_wp2_with fail
  refine (Calls.sB k3 (refAppendInt_any _ _ _ ref (k3.is 0 rfl) hI.2.2.1.1 hI.2.2.1.2 (by omega))).mono ?_
  rintro e w4 ⟨v4, rfl, h4⟩
  obtain ⟨X4, hX4⟩ : ∃ X, X3 ++ Wire.encI ref = X := ⟨_, rfl⟩
  have l4 : X4.length ≤ 4194400 := by rw [← hX4, List.length_append]; omega
  rw [hX4] at h4
  have HX4 := Lib.hid hX4
  have k4 := h4.facts (fs' := [(IsBytes · v4 X4), IsCells w.heap.size #[.string src, .int .i64 seq, .int .i64 kind, .int .i64 ref, .string table, .string key, .int .i64 event, .slice vb n vq], (IsVals · (.slice vb n vq) fields)]) (fun P hP => by simp only [List.mem_cons, List.not_mem_nil, or_false] at hP ⊢; rcases hP with h | h | h <;> simp [h])
  clear hX4 h4 k3 c0 c1 c2 c3 c4 c5 c6 c7
  obtain ⟨c0, c1, c2, c3, c4, c5, c6, c7⟩ := (k4.is 1 rfl : IsCells _ _ _).c8
  go_wp2_with fail
  refine (Calls.sB k4 (refAppendText_any _ _ _ table (k4.is 0 rfl) (by omega) (by omega))).mono ?_
  rintro e w5 ⟨v5, rfl, h5⟩
  obtain ⟨X5, hX5⟩ : ∃ X, X4 ++ Wire.encT table.data.toList = X := ⟨_, rfl⟩
  have l5 : X5.length ≤ 5243000 := by rw [← hX5, List.length_append]; omega
  rw [hX5] at h5
  have HX5 := Lib.hid hX5
  have k5 := h5.facts (fs' := [(IsBytes · v5 X5), IsCells w.heap.size #[.string src, .int .i64 seq, .int .i64 kind, .int .i64 ref, .string table, .string key, .int .i64 event, .slice vb n vq], (IsVals · (.slice vb n vq) fields)]) (fun P hP => by simp only [List.mem_cons, List.not_mem_nil, or_false] at hP ⊢; rcases hP with h | h | h <;> simp [h])
  clear hX5 h5 k4 c0 c1 c2 c3 c4 c5 c6 c7
  obtain ⟨c0, c1, c2, c3, c4, c5, c6, c7⟩ := (k5.is 1 rfl : IsCells _ _ _).c8
  go_wp2_with fail
  refine (Calls.sB k5 (refAppendText_any _ _ _ key (k5.is 0 rfl) (by omega) (by omega))).mono ?_
  rintro e w6 ⟨v6, rfl, h6⟩
  obtain ⟨X6, hX6⟩ : ∃ X, X5 ++ Wire.encT key.data.toList = X := ⟨_, rfl⟩
  have l6 : X6.length ≤ 6291600 := by rw [← hX6, List.length_append]; omega
  rw [hX6] at h6
  have HX6 := Lib.hid hX6
  have k6 := h6.facts (fs' := [(IsBytes · v6 X6), IsCells w.heap.size #[.string src, .int .i64 seq, .int .i64 kind, .int .i64 ref, .string table, .string key, .int .i64 event, .slice vb n vq], (IsVals · (.slice vb n vq) fields)]) (fun P hP => by simp only [List.mem_cons, List.not_mem_nil, or_false] at hP ⊢; rcases hP with h | h | h <;> simp [h])
  clear hX6 h6 k5 c0 c1 c2 c3 c4 c5 c6 c7
  obtain ⟨c0, c1, c2, c3, c4, c5, c6, c7⟩ := (k6.is 1 rfl : IsCells _ _ _).c8
  go_wp2_with fail
  refine (Calls.sB k6 (refAppendInt_any _ _ _ event (k6.is 0 rfl) hI.2.2.2.1 hI.2.2.2.2 (by omega))).mono ?_
  rintro e w7 ⟨v7, rfl, h7⟩
  obtain ⟨X7, hX7⟩ : ∃ X, X6 ++ Wire.encI event = X := ⟨_, rfl⟩
  have l7 : X7.length ≤ 7340200 := by rw [← hX7, List.length_append]; omega
  rw [hX7] at h7
  have HX7 := Lib.hid hX7
  have k7 := h7.facts (fs' := [(IsBytes · v7 X7), IsCells w.heap.size #[.string src, .int .i64 seq, .int .i64 kind, .int .i64 ref, .string table, .string key, .int .i64 event, .slice vb n vq], (IsVals · (.slice vb n vq) fields)]) (fun P hP => by simp only [List.mem_cons, List.not_mem_nil, or_false] at hP ⊢; rcases hP with h | h | h <;> simp [h])
  clear hX7 h7 k6 c0 c1 c2 c3 c4 c5 c6 c7
  obtain ⟨c0, c1, c2, c3, c4, c5, c6, c7⟩ := (k7.is 1 rfl : IsCells _ _ _).c8
  go_wp2_with fail
  refine (Calls.sB k7 (refAppendUint_any _ _ _ n (k7.is 0 rfl) (by omega) (by omega))).mono ?_
  rintro e w8 ⟨v8, rfl, h8⟩
  obtain ⟨X8, hX8⟩ : ∃ X, X7 ++ Wire.encU n = X := ⟨_, rfl⟩
  have l8 : X8.length ≤ 8388800 := by rw [← hX8, List.length_append]; omega
  rw [hX8] at h8
  have HX8 := Lib.hid hX8
  have k8 := h8.facts (fs' := [(IsBytes · v8 X8), IsCells w.heap.size #[.string src, .int .i64 seq, .int .i64 kind, .int .i64 ref, .string table, .string key, .int .i64 event, .slice vb n vq], (IsVals · (.slice vb n vq) fields)]) (fun P hP => by simp only [List.mem_cons, List.not_mem_nil, or_false] at hP ⊢; rcases hP with h | h | h <;> simp [h])
  clear hX8 h8 k7 c0 c1 c2 c3 c4 c5 c6 c7
  obtain ⟨c0, c1, c2, c3, c4, c5, c6, c7⟩ := (k8.is 1 rfl : IsCells _ _ _).c8
  go_wp2_with fail
  clear c0 c1 c2 c3 c4 c5 c6 c7
  go_loopw [3, 4] (fun cv iv wr => ∃ k : Nat, k ≤ n ∧ iv = .int .i64 k ∧ St w wr [] [(IsBytes · cv (X8 ++ encVs (fields.take k))), IsCells w.heap.size #[.string src, .int .i64 seq, .int .i64 kind, .int .i64 ref, .string table, .string key, .int .i64 event, .slice vb n vq], (IsVals · (.slice vb n vq) fields)]) (fun _ iv _ => n - (intOf iv).toNat)
  case atStart => exact ⟨0, by omega, rfl, by simpa [encVs] using k8⟩
  case round =>
    clear k8
    obtain ⟨k, hk, rfl, hst⟩ := hrel
    have hvl' : fields.length = n := HN.out
    obtain ⟨c0, c1, c2, c3, c4, c5, c6, c7⟩ := (hst.is 1 rfl : IsCells _ _ _).c8
    by_cases hlt : k < n
    · have hkl : k < fields.length := by omega
      obtain ⟨g1, o1, x0', x1', x2', rfl, hrow, x0, x1, x2⟩ := (hst.is 2 rfl : IsVals _ _ _).row3 k hkl
      obtain ⟨⟨ak, an, sa⟩, hae⟩ : ∃ v, fields[k] = v := ⟨_, rfl⟩
      rw [hae] at hrow
      simp only [rdVal, Vl.cells, List.cons.injEq, and_true] at hrow
      obtain ⟨rfl, rfl, rfl⟩ := hrow
      have hlen := encVs_le fields k (by omega)
      have hsn := encVs_take fields k hkl
      rw [hae] at hsn
      have HS := Lib.hid hsn
      clear hsn hae
      go_wp2_with fail
      refine (Calls.sB hst (refVAppend_any _ _ _ ⟨ak, an, sa⟩ (hst.is 0 rfl) (by simp only [List.length_append]; omega))).mono ?_
      rintro e w9 ⟨v9, rfl, h9⟩
      rw [List.append_assoc, ← HS.out] at h9
      have k9 := h9.facts (fs' := [(IsBytes · v9 (X8 ++ encVs (fields.take (k + 1)))), IsCells w.heap.size #[.string src, .int .i64 seq, .int .i64 kind, .int .i64 ref, .string table, .string key, .int .i64 event, .slice (some ⟨g1, o1, none⟩) n vq], (IsVals · (.slice (some ⟨g1, o1, none⟩) n vq) fields)]) (fun P hP => by simp only [List.mem_cons, List.not_mem_nil, or_false] at hP ⊢; rcases hP with h | h | h <;> simp [h])
      clear h9 hst x0 x1 x2 c0 c1 c2 c3 c4 c5 c6 c7
      go_wp2_with fail
      go_roundw
      case rel => exact ⟨k + 1, by omega, by go_num, k9⟩
      case measure => simp [intOf]; omega
    · obtain rfl : k = n := by omega
      have hfin := hst
      rw [← hvl', List.take_length] at hfin
      go_wp2_with fail
      go_ret
      exact ⟨_, rfl, by rw [HENC.out, HX1.out, HX2.out, HX3.out, HX4.out, HX5.out, HX6.out, HX7.out, HX8.out]; exact hfin.is 0 rfl, hst.below⟩

theorem enc_len {f : Fc} (hI : f.Ints) (hs1 : f.src.size ≤ 1048576) (hs2 : f.table.size ≤ 1048576) (hs3 : f.key.size ≤ 1048576) (hvl : f.fields.length ≤ 1048576) : f.enc.length ≤ 1099511627776 := by
  have t1 := encT_le f.src hs1
  have t2 := encT_le f.table hs2
  have t3 := encT_le f.key hs3
  have i1 := encI_le hI.1
  have i2 := encI_le hI.2.1
  have i3 := encI_le hI.2.2.1
  have i4 := encI_le hI.2.2.2
  have hu := Wire.encU_len10 (n := f.fields.length) (by omega)
  have hv := encVs_le f.fields f.fields.length (Nat.le_refl _)
  rw [List.take_length] at hv
  unfold Fc.enc
  simp only [List.length_append]
  omega
set_option maxRecDepth 8000 in
set_option maxHeartbeats 2000000 in
theorem refFAppend_any (w : World) (bv : Value) (l : List UInt8) (f : Fc) (vb : Option Addr) (vq : Nat) (hb : IsBytes w bv l) (hv : IsVals w (.slice vb f.fields.length vq) f.fields) (hI : f.Ints) (hl : l.length ≤ 549755813888)
    (hs1 : f.src.size ≤ 1048576) (hs2 : f.table.size ≤ 1048576) (hs3 : f.key.size ≤ 1048576) (hvl : f.fields.length ≤ 1048576) :
    Calls Try.prog 33 #[bv, f.val (.slice vb f.fields.length vq)] w fun e w' => ∃ v', e = .returned v' ∧ OwnBytes 5 w.heap.size w' v' (l ++ f.enc) ∧ Below w.heap.size w w' := by
  have hle := enc_len hI hs1 hs2 hs3 hvl
  have hby := fun w h => refFBytes_any w f vb vq h hI hs1 hs2 hs3 hvl
  obtain ⟨X, hX⟩ : ∃ X, f.enc = X := ⟨_, rfl⟩
  rw [hX] at hby hle ⊢
  clear hX hs1 hs2 hs3
  obtain ⟨bs, bc, rfl, -⟩ := hb.out
  obtain ⟨m, hm⟩ : ∃ m, l.length = m := ⟨_, rfl⟩
  rw [hm] at hb ⊢
  have HM := Lib.hid hm
  have HL := Lib.hid hl
  obtain ⟨src, seq, kind, ref, table, key, event, fields⟩ := f
  simp only [Fc.val, Fc.cellsA, Fc.Ints] at *
  obtain ⟨n, hn⟩ : ∃ n, fields.length = n := ⟨_, rfl⟩
  rw [hn] at hv hby ⊢
  have HB := Lib.hid hby
  clear hby hm hl hn hI hvl
  have h0 := (((St.start w).putOld (P := (IsVals · (.slice vb n vq) fields)) (Mono.seq rdVal_up _ _) hv).putOld (P := (IsBytes · (.slice bs m bc) l)) (Mono.bytes _ _) hb).boxC #[.string src, .int .i64 seq, .int .i64 kind, .int .i64 ref, .string table, .string key, .int .i64 event, .slice vb n vq] 27
  obtain ⟨c0, c1, c2, c3, c4, c5, c6, c7⟩ := (h0.is 0 rfl : IsCells _ _ _).c8
  go_enter Try.func33, Try.ntmps33
  go_wp2_with fail
  refine (Calls.sI h0 (HB.out _ (h0.is 2 rfl))).mono ?_
  rintro e w2 ⟨v2, rfl, h2⟩
  clear c0 c1 c2 c3 c4 c5 c6 c7
  go_wp2_with fail
  refine (refJoin_any w2 _ _ l X (h2.is 2 rfl) (h2.is 0 rfl) (by have := HL.out; omega)).mono ?_
  rintro e w3 ⟨v3, rfl, ho3, hb3⟩
  go_wp2_with fail
  go_ret
  exact ⟨_, rfl, ho3.lower h2.size, (h2.call hb3).below⟩
end Go.Proofs.Ytfpkibfofainaaa
