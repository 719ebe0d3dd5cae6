/- The walk over asofref31.batch. -/
import Derived.Test.YtnfgapdpnihicaaZRp31
import Derived.Test.YtnfgapdpnihicaaZHl31
import Derived.Test.YtnfgapdpnihicaaZGB
import Derived.Deep.CutRange
set_option linter.unusedVariables false
set_option linter.unusedSimpArgs false
namespace Go.Proofs.Ytnfgapdpnihicaa
open Go Go.RowKit

/-- Bytes that a callee has made are looked after from now on. -/
theorem OwnP.ofCall {E n : Nat} {w0 W W' : World} {v : Value} {l : List UInt8} {os : List (Nat × Obj)} {fs : List (World → Prop)} (h : St w0 W os fs) (hb : Below W.heap.size W W') (ho : OwnBytes E W.heap.size W' v l) (hl : l.length = n) : ∃ oo, OwnP E 1 v n (l.map u8v) oo ∧ St w0 W' (oo ++ os) fs := by
  subst hl
  obtain ⟨h1, h2⟩ := ho
  rcases h2 with ⟨a, b⟩ | ⟨g, cap, cur, a, b, c, d⟩
  · exact ⟨[], ⟨h1, .inl ⟨a, b, rfl⟩⟩, h.call hb⟩
  · exact ⟨[(g, .cells cur E (0, 0))], ⟨h1, .inr ⟨g, cap, cur, a, rfl, d⟩⟩, h.grow hb b c⟩

set_option maxRecDepth 8000 in
set_option maxHeartbeats 8000000 in
theorem refBatch_any (w : World) (S : Nat → Bool) (hS : ∀ k, S k = true → k < w.heap.size) (v : Value) (d : Dk) (hv : IsDk w v d) (hok : d.Ok) (p e : Nat) (hp : p < e) (he : e ≤ d.sec.length) {m : Nat} {rs : List (List UInt8)} {c : Int} (hb : Wl.batch d.sec p e = (m, rs, c)) :
    Calls Try.prog 63 #[v, .int .i64 p, .int .i64 e] w fun en w' => ∃ rb rn rq, en = .returned (.tuple #[.slice rb rn rq, .int .i64 m, .int .i64 c]) ∧ IsLists (mask S w') (.slice rb rn rq) rs ∧ Below w.heap.size w w' := by
  have hv' := hv
  obtain ⟨sv, rfl, hl⟩ := hv
  obtain ⟨base, cap, rfl, hcap1, hcap2, -, hat⟩ := hl.out
  unfold maxLen at hcap2
  obtain ⟨sec, left, tear, st⟩ := d
  simp only [dkV] at *
  obtain ⟨n, hn⟩ : ∃ n, sec.length = n := ⟨_, rfl⟩
  have hn2 : n ≤ 4096 := by rw [← hn]; exact hok.many
  have hsz := hok.size
  simp only at hsz
  have hpl : p < sec.length := by omega
  have hpn : p < n := by omega
  have hen : e ≤ n := by omega
  obtain ⟨gb, off, u, rfl, hcell, hu⟩ := hat p hpl
  obtain ⟨ub, uc, rfl, huc, huc2, -, -⟩ := hu.out
  have hs0 := hsz p hpl
  rw [hs0] at hcell hu huc
  rw [hn] at hl hv' hcap1 ⊢
  have h0 := ((((St.start w).putOld (Mono.lists _ _) hl).putOld (Mono.bytes _ _) hu).putOld (P := fun x => x.cell? ⟨gb, off + p, none⟩ = some (.slice ub 128 uc)) (Mono.cell _ _) hcell).boxC #[.slice (some ⟨gb, off, none⟩) n cap, .int .i64 left, .int .i64 tear, .bool st] 24
  have HB := Lib.hid hb
  have HN := Lib.hid hn
  have HSZ := Lib.hid hsz
  have HS0 := Lib.hid hs0
  clear hv' hl hat hu hcell hb hn hsz hok hs0
  have c0 := (h0.is 0 rfl : IsCells _ _ _).c4.1
  have c2 := (h0.is 1 rfl : World.cell? _ _ = _)
  go_enter Try.func63, Try.ntmps63
  go_upto_region 2 with fail
  have h1 := h0.put (Mono.bytes _ _) ((h0.get 2 rfl : IsBytes _ _ _).take 127 (by rw [HS0.out]; omega))
  clear h0
  obtain ⟨⟨un, ux, ue⟩, hu⟩ : ∃ u, Wire.readU ((sec[p]'hpl).take 127) 0 = u := ⟨_, rfl⟩
  have hun : un < 2 ^ 64 := by have := readU_lt ((sec[p]'hpl).take 127) 0; rw [hu] at this; exact this
  have HU := Lib.hid hu
  clear hu
  go_wp2_with fail
  refine (Calls.sV' h1 (refReadUint_any _ _ _ 0 (h1.is 0 rfl) (by omega) (by rw [List.length_take]; omega))).mono ?_
  rintro en w1 ⟨rfl, h2⟩
  rw [HU.out]
  clear h1 c0 c2
  have c0 := (h2.is 1 rfl : IsCells _ _ _).c4.1
  have hb := HB.out
  unfold Wl.batch at hb
  rw [show sec.getD p [] = sec[p]'hpl by rw [List.getD_eq_getElem?_getD, List.getElem?_eq_getElem hpl]; rfl] at hb
  simp only [HU.out] at hb
  have HB2 := Lib.hid hb
  clear hb HB
  obtain ⟨k, hk⟩ : ∃ k, e - p = k := ⟨_, rfl⟩
  have hk4 : k ≤ 4096 := by omega
  have hw1 : IntKind.i64.wrap ((e : Int) - (p : Int)) = (k : Int) := by rw [IntKind.wrap_i64]; omega
  have hw2 : IntKind.i64.wrap ((k : Int) * 128) = ((k * 128 : Nat) : Int) := by rw [IntKind.wrap_i64]; omega
  have hw3 : IntKind.u64.wrap ((k * 128 : Nat) : Int) = ((k * 128 : Nat) : Int) := by show ((k * 128 : Nat) : Int) % 18446744073709551616 = _; omega
  have HK := Lib.hid hk
  rw [hk] at HB2
  clear hk
  by_cases hbad : ue ≠ 0 ∨ k * 128 < un
  · have hbx := HB2.out
    rw [if_pos hbad] at hbx
    cases hbx
    by_cases hue : ue = 0
    · subst hue
      have hlt : ((k * 128 : Nat) : Int) < (un : Int) := by
        rcases hbad with h | h
        · exact absurd rfl h
        · omega
      go_wp2_with fail
      go_ret3
      exact ⟨_, _, _, rfl, lists_nil _, h2.below⟩
    · have hue' := bne_of hue
      go_wp2_with fail
      go_ret3
      exact ⟨_, _, _, rfl, lists_nil _, h2.below⟩
  · have hbx := HB2.out
    rw [if_neg hbad] at hbx
    obtain ⟨hu0, hun2⟩ : ue = 0 ∧ un ≤ k * 128 := by
      constructor
      · exact Classical.byContradiction fun h => hbad (.inl h)
      · exact Nat.le_of_not_lt fun h => hbad (.inr h)
    subst hu0
    have hlt : ¬ ((k * 128 : Nat) : Int) < (un : Int) := by omega
    obtain ⟨j, hj, hj127⟩ := readU_bd (l := (sec[p]'hpl).take 127) (by rw [HU.out])
    rw [HU.out] at hj
    simp only at hj
    subst hj
    rw [List.length_take, HS0.out] at hj127
    have hj127 : j ≤ 127 := hj127
    simp only [Int.toNat_natCast] at hbx
    obtain ⟨T, hT⟩ : ∃ T, j + un = T := ⟨_, rfl⟩
    have hw4 : IntKind.i64.wrap (un : Int) = (un : Int) := by rw [IntKind.wrap_i64]; omega
    have hw5 : IntKind.i64.wrap ((j : Int) + (un : Int)) = (T : Int) := by rw [IntKind.wrap_i64]; omega
    have hw6 : IntKind.i64.wrap ((T : Int) + 4) = ((T + 4 : Nat) : Int) := by rw [IntKind.wrap_i64]; omega
    have hTb : T ≤ 524415 := by omega
    rw [hT] at hbx
    obtain ⟨M, hM⟩ : ∃ M, Wl.needs (T + 4) = M := ⟨_, rfl⟩
    have hMT : T + 4 ≤ 127 + 128 * (M - 1) ∧ 1 ≤ M := by rw [← hM]; unfold Wl.needs; omega
    rw [hM] at hbx
    have HM := Lib.hid hM
    have HT := Lib.hid hT
    clear hM hT hlt
    go_wp2_with fail
    refine (Calls.sV' h2 (refNeeds_any _ (T + 4) (by omega))).mono ?_
    rintro en w3 ⟨rfl, h3⟩
    rw [HM.out]
    clear h2 c0 hw2 hw3 hw4 hw5 hw6
    by_cases hMk : k < M
    · rw [if_pos hMk] at hbx
      cases hbx
      have hMki : (k : Int) < (M : Int) := by omega
      go_wp2_with fail
      go_ret3
      exact ⟨_, _, _, rfl, lists_nil _, h3.below⟩
    · rw [if_neg hMk] at hbx
      have hMki : ¬ (k : Int) < (M : Int) := by omega
      go_wp2_with fail
      have HL127 : Hid (((sec[p]'hpl).take 127).length = 127) := Lib.hid (by rw [List.length_take, HS0.out]; rfl)
      refine (refJoin_any _ _ _ _ [] (h3.is 0 rfl) (IsBytes.none _) (by rw [HL127.out]; simp)).mono ?_
      rintro en w4 ⟨v4, rfl, ho4, hb4⟩
      rw [List.append_nil] at ho4
      obtain ⟨oo, k5, h4a⟩ := OwnP.ofCall h3 hb4 ho4 HL127.out
      have h4 := h4a.facts (fs' := [IsCells w.heap.size #[.slice (some ⟨gb, off, none⟩) n cap, .int .i64 left, .int .i64 tear, .bool st], (IsLists · (.slice (some ⟨gb, off, none⟩) n cap) sec)]) (fun P hP => by simp only [List.mem_cons, List.not_mem_nil, or_false] at hP ⊢; rcases hP with rfl | rfl <;> simp)
      clear ho4 hb4 h3 h4a
      obtain ⟨Z, hZM⟩ : ∃ Z, M = Z + 1 := ⟨M - 1, by omega⟩
      obtain ⟨pre, hpre⟩ : ∃ f : Nat → List UInt8, f = fun i => ((sec[p]'hpl).take 127) ++ ((sec.drop (p + 1)).take i).flatten := ⟨_, rfl⟩
      have hp0 : ((sec[p]'hpl).take 127) = pre 0 := by rw [hpre]; simp
      have hps : ∀ i (h : p + 1 + i < sec.length), pre (i + 1) = pre i ++ sec[p + 1 + i] := fun i h => by rw [hpre]; simp only; rw [flat_drop_succ h, List.append_assoc]
      have hpl2 : ∀ i, p + 1 + i ≤ n → (pre i).length = 127 + 128 * i := fun i hi => by rw [hpre]; simp only [List.length_append]; rw [HL127.out, flat_drop_len (fun j hj => HSZ.out j hj) (by rw [HN.out]; exact hi)]
      have hpZ : pre Z = ((sec[p]'hpl).take 127) ++ ((sec.drop (p + 1)).take (M - 1)).flatten := by rw [hpre, hZM]; simp only; rfl
      rw [hp0] at k5
      rw [← hpZ] at hbx
      have HP := Lib.hid (And.intro hps hpl2)
      have HBX := Lib.hid hbx
      have HZ := Lib.hid (And.intro hZM (show p + 1 + Z ≤ n by have := HK.out; omega))
      clear hpre hp0 hps hpl2 hpZ hbx hZM
      go_wp2_with fail
      go_loopw [15, 16] (fun bv iv wr => ∃ (i : Nat) (oo : List (Nat × Obj)), i ≤ Z ∧ iv = .int .i64 ((i + 1 : Nat) : Int) ∧ OwnP 5 1 bv (127 + 128 * i) ((pre i).map u8v) oo ∧ St w wr (oo ++ []) [IsCells w.heap.size #[.slice (some ⟨gb, off, none⟩) n cap, .int .i64 left, .int .i64 tear, .bool st], (IsLists · (.slice (some ⟨gb, off, none⟩) n cap) sec)]) (fun _ iv _ => M - (intOf iv).toNat)
      case atStart => exact ⟨0, oo, by omega, rfl, k5, h4⟩
      case round =>
        clear h4 k5
        obtain ⟨i, oo, hi, rfl, ho, hst⟩ := hrel
        have c0 := (hst.is 0 rfl : IsCells _ _ _).c4.1
        by_cases hlt : i < Z
        · have hin : p + 1 + i < sec.length := by rw [HN.out]; have := HZ.out; omega
          have hin2 : p + 1 + i < n := by rw [← HN.out]; exact hin
          have hlti : ((i + 1 : Nat) : Int) < (M : Int) := by have := HZ.out; omega
          obtain ⟨_, _, ee, -, -, -, hat⟩ := (hst.is 1 rfl : IsLists _ _ _).out
          rw [HN.out] at ee
          cases ee
          obtain ⟨g1, o1, u, ee, hcell, hu⟩ := hat (p + 1 + i) hin
          cases ee
          obtain ⟨b2, q2, rfl, -⟩ := hu.out
          rw [HSZ.out _ hin] at hcell hu
          have hps := HP.out.1 i hin
          have hpn := HP.out.2 i (by omega)
          have h128 := HSZ.out _ hin
          obtain ⟨x, hx⟩ : ∃ x, sec[p + 1 + i] = x := ⟨_, rfl⟩
          rw [hx] at hu hps h128
          have HX := Lib.hid (And.intro hps (And.intro h128 hpn))
          obtain ⟨vb, vq, rfl⟩ := own_slice (ho.owns hst)
          have hi4 : i ≤ 4096 := by have := HZ.out; omega
          have hwi : IntKind.i64.wrap ((p : Int) + ((i + 1 : Nat) : Int)) = ((p + 1 + i : Nat) : Int) := by rw [IntKind.wrap_i64]; omega
          have hwi2 : IntKind.i64.wrap (((i + 1 : Nat) : Int) + 1) = ((i + 1 + 1 : Nat) : Int) := by rw [IntKind.wrap_i64]; omega
          obtain ⟨pi, hpi⟩ : ∃ x, p + 1 + i = x := ⟨_, rfl⟩
          rw [hpi] at hcell hwi hin2
          obtain ⟨i1, hi1⟩ : ∃ x, i + 1 = x := ⟨_, rfl⟩
          rw [hi1] at hwi hwi2 hlti ⊢
          have HI := Lib.hid (And.intro hpi hi1)
          clear hx hat hps h128 hpn hpi hi1
          go_upto_region 12 with (at_builtin; go_loud (refine wpList_append_any' rfl (.tmp 62) (.tmp 69) 42 42 rfl w.heap.size 5 (.int .u8 0) 1 1 Try.underlying42 byte_info rfl _ (127 + 128 * i) ((pre i).map u8v) rfl (ho.owns hst) _ 128 (x.map u8v) rfl (hu.src_n Try.underlying42 HX.out.2.1) (by omega) (by unfold maxLen; omega) hst.size ?_); intro v' w' r1 r2 r3)
          obtain ⟨oo2, k7, h7⟩ := ho.append hst r1 r2 r3
          rw [← List.map_append, ← HX.out.1] at k7
          clear hcell hu r1 r2 r3 c0
          go_wp2_with fail
          go_roundw
          case rel => exact ⟨i + 1, oo2, by omega, by have := HI.out.2; subst this; rfl, (by rw [show 127 + 128 * (i + 1) = 127 + 128 * i + 128 by omega]; exact k7), h7⟩
          case measure => have := HI.out; have := HZ.out; simp [intOf]; omega
        · obtain rfl : Z = i := by omega
          have h7 := ho.done hst
          obtain ⟨gB, vqB, rfl, -, -⟩ := own_block (ho.owns hst) (by omega)
          clear ho hst
          obtain ⟨B, hB⟩ : ∃ B, pre Z = B := ⟨_, rfl⟩
          have hBl := HP.out.2 Z HZ.out.2
          rw [hB] at h7 hBl HBX
          obtain ⟨LB, hLB⟩ : ∃ x, 127 + 128 * Z = x := ⟨_, rfl⟩
          rw [hLB] at h7 hBl ⊢
          have hqq : LB ≤ vqB := by obtain ⟨_, _, ee, -, q1, -⟩ := (h7.is 0 rfl : IsRow _ _ _ _ _); cases ee; omega
          have hTL : T + 4 ≤ LB := by have := HZ.out; omega
          have hjT : j ≤ T := by have := HT.out; omega
          have hvq : vqB ≤ 9223372036854775807 := by obtain ⟨_, _, ee, -, -, q1, -⟩ := (h7.is 0 rfl : IsRow _ _ _ _ _); cases ee; unfold maxLen at q1; omega
          have h8 : St w _ _ ((IsBytes · (.slice (some ⟨gB, 0, none⟩) LB vqB) B) :: _) := (h7.pop).put (Mono.bytes _ _) (by have h9 := (h7.get 0 rfl : IsRow _ _ _ _ _); unfold IsBytes; rw [hBl]; exact h9)
          clear h7
          have hc9 : IsBytes (sm [] wr) (.slice (some ⟨gB, j, none⟩) (T - j) (vqB - j)) ((B.take T).drop j) := by
            have := ((h8.get 0 rfl : IsBytes _ _ _).take T (by omega)).from_ j (by rw [List.length_take]; omega)
            rw [if_neg (by omega)] at this
            simp only [Option.map_some, add0] at this
            exact this
          have hs9 : IsBytes (sm [] wr) (.slice (some ⟨gB, T, none⟩) (T + 4 - T) (vqB - T)) ((B.take (T + 4)).drop T) := by
            have := ((h8.get 0 rfl : IsBytes _ _ _).take (T + 4) (by omega)).from_ T (by rw [List.length_take]; omega)
            rw [if_neg (by omega)] at this
            simp only [Option.map_some, add0] at this
            exact this
          obtain ⟨C, hC⟩ : ∃ C, (B.take T).drop j = C := ⟨_, rfl⟩
          have hCl : C.length = un := by rw [← hC, List.length_drop, List.length_take, hBl, Nat.min_eq_left (by omega)]; have := HT.out; omega
          have hct : (B.drop j).take un = C := by rw [← hC, List.drop_take]; congr 1; have := HT.out; omega
          rw [hC] at hc9
          have hX4 : (B.take (T + 4)).drop T = (B.drop T).take 4 := by rw [List.drop_take]; congr 1; omega
          rw [hX4] at hs9
          obtain ⟨X, hX⟩ : ∃ X, (B.drop T).take 4 = X := ⟨_, rfl⟩
          have hbx := HBX.out
          rw [hct, hX] at hbx
          rw [hX] at hs9
          obtain ⟨bq, hbq⟩ : ∃ b, decide (sum4 (Wire.sumOf C) = X) = b := ⟨_, rfl⟩
          have HBQ := Lib.hid hbq
          have HBX2 := Lib.hid hbx
          have HCL := Lib.hid hCl
          clear hC hct hX4 hbx HBX hCl hX hbq
          have h9 := (h8.put (Mono.bytes _ _) hs9).put (Mono.bytes _ _) hc9
          clear hc9 hs9 h8
          have hjq : j ≤ vqB := by omega
          have hTq : T ≤ vqB := by omega
          have hMz : ¬ ((Z + 1 : Nat) : Int) < (M : Int) := by have := HZ.out; omega
          have hw4 : IntKind.i64.wrap (un : Int) = (un : Int) := by rw [IntKind.wrap_i64]; omega
          have hw5 : IntKind.i64.wrap ((j : Int) + (un : Int)) = (T : Int) := by have := HT.out; rw [IntKind.wrap_i64]; omega
          go_upto_region 15 with fail
          refine wp_region_st [pVal ?c15_0, pBytes (sum4 (Wire.sumOf C)), pVal ?c15_2, pVal ?c15_3, pVal ?c15_4, pVal ?c15_5, pVal ?c15_6, pVal ?c15_7, pVal (.slice (some ⟨gB, T, none⟩) (T + 4 - T) (vqB - T)), pVal (.bool bq), pVal (.bool (!bq))] (osC []) 98 [0, 1, 0, 0, 0, 16, 56, 0, 252, 511, 1023] [[], [(0, 78)], [], [], [], [(4, 82)], [(5, 83), (3, 81)], [], [(7, 85), (6, 84), (2, 80)], [(8, 86), (1, 79)], [(9, 87)]] [(0, 78), (1, 79), (2, 80), (3, 81), (4, 82), (5, 83), (6, 84), (7, 85), (8, 86), (9, 87), (10, 88)] (by kernel_rfl) (by kernel_rfl) rfl rfl h9 osC0 osC1 ?ob ?en
          case ob =>
            refine ⟨?_, ?_, ?_, ?_, ?_, ?_, ?_, ?_, ?_, ?_, ?_, trivial⟩
            · -- 0: t78 := Op.move (t17)
              intro zx1 zx2 zx3 zx4 L V W hL hd hw hst 
              refine ob_c rfl ?_ hst rfl
              go_simp
              try with_reducible rfl
            · -- 1: t79 := Op.call { callee := value (func 73), args := #[t78], argTypes := #[42] }
              intro zx1 zx2 zx3 zx4 L V W hL hd hw hst u0 e0 p0
              obtain rfl : u0 = _ := p0
              refine ob_call (by first | rfl | (simp [wantE, dstOf, zx1]; done)) ?_ (Calls.pI hst (refSum_any _ _ C ((hst.base 0 rfl : IsBytes _ _ _).sub (mask_is _ _))))
              go_simp
              try rfl
            · -- 2: t80 := Op.move (t15)
              intro zx1 zx2 zx3 zx4 L V W hL hd hw hst 
              refine ob_c rfl ?_ hst rfl
              go_simp
              try with_reducible rfl
            · -- 3: t81 := Op.move (t11)
              intro zx1 zx2 zx3 zx4 L V W hL hd hw hst 
              refine ob_c rfl ?_ hst rfl
              go_simp
              try with_reducible rfl
            · -- 4: t82 := Op.move (t10)
              intro zx1 zx2 zx3 zx4 L V W hL hd hw hst 
              refine ob_c rfl ?_ hst rfl
              go_simp
              try with_reducible rfl
            · -- 5: t83 := Op.convert 53 3 (t82)
              intro zx1 zx2 zx3 zx4 L V W hL hd hw hst u4 e4 p4
              obtain rfl : u4 = _ := p4
              refine ob_c rfl ?_ hst rfl
              go_simp
              try with_reducible rfl
            · -- 6: t84 := Op.binOp BinOp.add 3 (t81) (t83) 3
              intro zx1 zx2 zx3 zx4 L V W hL hd hw hst u3 e3 p3 u5 e5 p5
              obtain rfl : u3 = _ := p3
              obtain rfl : u5 = _ := p5
              refine ob_c rfl ?_ hst rfl
              go_simp
              try with_reducible rfl
            · -- 7: t85 := Op.move (t13)
              intro zx1 zx2 zx3 zx4 L V W hL hd hw hst 
              refine ob_c rfl ?_ hst rfl
              go_simp
              try with_reducible rfl
            · -- 8: t86 := Op.slice 42 (t80) (some (t84)) (some (t85)) none
              intro zx1 zx2 zx3 zx4 L V W hL hd hw hst u2 e2 p2 u6 e6 p6 u7 e7 p7
              obtain rfl : u2 = _ := p2
              obtain rfl : u6 = _ := p6
              obtain rfl : u7 = _ := p7
              refine ob_c (by first | rfl | (simp [wantE, dstOf, zx1]; done)) ?_ hst rfl
              go_simp
              rw [if_pos ⟨by omega, by omega⟩, if_pos (by omega), if_neg (by omega), show ((T : Int) + 4).toNat = T + 4 by omega, Nat.add_sub_cancel_left]
            · -- 9: t87 := Op.call { callee := value (func 43), args := #[t79, t86], argTypes := #[42, 42] }
              intro zx1 zx2 zx3 zx4 L V W hL hd hw hst u1 e1 p1 u8 e8 p8
              obtain ⟨b1, q1, rfl, k1⟩ := p1
              obtain rfl : u8 = _ := p8
              refine ob_call (by first | rfl | (simp [wantE, dstOf, zx1]; done)) ?_ (Calls.pV' hst (HBQ.out ▸ refSame_any _ _ _ _ X (k1.sub (mask_is _ _)) ((hst.base 1 rfl : IsBytes _ _ _).sub (mask_is _ _))))
              go_simp
              try rfl
            · -- 10: t88 := Op.unOp UnOp.not 4 (t87)
              intro zx1 zx2 zx3 zx4 L V W hL hd hw hst u9 e9 p9
              obtain rfl : u9 = _ := p9
              refine ob_c (by first | rfl | (simp [wantE, dstOf, zx1]; done)) ?_ hst rfl
              go_simp
              all_goals (skip)
          case en =>
            intro V W hst u0 e0 p0 u1 e1 p1 u2 e2 p2 u3 e3 p3 u4 e4 p4 u5 e5 p5 u6 e6 p6 u7 e7 p7 u8 e8 p8 u9 e9 p9 u10 e10 p10
            obtain rfl : u0 = _ := p0
            obtain ⟨b1, q1, rfl, k1⟩ := p1
            obtain rfl : u2 = _ := p2
            obtain rfl : u3 = _ := p3
            obtain rfl : u4 = _ := p4
            obtain rfl : u5 = _ := p5
            obtain rfl : u6 = _ := p6
            obtain rfl : u7 = _ := p7
            obtain rfl : u8 = _ := p8
            obtain rfl : u9 = _ := p9
            obtain rfl : u10 = _ := p10
            simp only [EndAll, Act.put, List.getElem_toArray, List.getElem_cons_succ, List.getElem_cons_zero, List.setIfInBounds_toArray, List.set_cons_zero, List.set_cons_succ]
            clear h9
            cases bq with
            | false =>
              have hbx := HBX2.out
              rw [if_pos (fun h => of_decide_eq_false HBQ.out h.symm)] at hbx
              cases hbx
              go_wp2_with fail
              go_ret3
              exact ⟨_, _, _, rfl, lists_nil _, hst.below⟩
            | true =>
              have hbx := HBX2.out
              rw [if_neg (fun h => h (of_decide_eq_true HBQ.out).symm)] at hbx
              go_wp2_with fail
              refine (refParts_any _ S (fun k hk => Nat.lt_of_lt_of_le (hS k hk) hst.size) _ C (hst.is 0 rfl) (by rw [HCL.out]; omega)).mono ?_
              rintro en w17 ⟨rb, rn, rq, rfl, hls, hb17⟩
              have hb := hst.below.trans (hb17.mono hst.size)
              obtain ⟨o, ho⟩ : ∃ o, Wl.parts C = o := ⟨_, rfl⟩
              rw [ho] at hbx hls ⊢
              clear hst hb17
              cases o with
              | none =>
                simp only [Wl.got] at hbx
                cases hbx
                go_wp2_with fail
                go_ret3
                exact ⟨_, _, _, rfl, lists_nil _, hb⟩
              | some l =>
                simp only [Wl.got] at hbx
                cases hbx
                have hl2 := hls _ rfl
                go_wp2_with fail
                go_ret3
                exact ⟨_, _, _, rfl, hl2, hb⟩
end Go.Proofs.Ytnfgapdpnihicaa
