/- The walks over asofref31.needs and parts. -/
import Derived.Test.YtnfgapdpnihicaaZFit31
import Derived.Test.YtnfgapdpnihicaaZR4A
import Derived.Test.YtnfgapdpnihicaaZR4R
import Derived.Test.YtnfgapdpnihicaaZR4S
set_option linter.unusedVariables false
set_option linter.unusedSimpArgs false
namespace Go.Proofs.Ytnfgapdpnihicaa
open Go Go.RowKit

theorem refNeeds_any (w : World) (n : Nat) (hn : n ≤ 4611686018427387904) :
    Calls Try.prog 53 #[.int .i64 n] w fun e w' => e = .returned (.int .i64 (Wl.needs n : Int)) ∧ w' = w := by
  obtain ⟨r, hr⟩ : ∃ r, Wl.needs n = r := ⟨_, rfl⟩
  have hr' : r = 1 + n / 128 := hr.symm
  rw [hr]
  clear hr
  have hw0 : IntKind.i64.wrap ((n : Int) - 127) = (n : Int) - 127 := by rw [IntKind.wrap_i64]; omega
  go_enter Try.func53, Try.ntmps53
  go_upto_region 3 with fail
  go_loopw [3, 4] (fun cv lv wr => ∃ (c : Nat) (l : Int), 1 ≤ c ∧ cv = .int .i64 c ∧ lv = .int .i64 l ∧ Hid (l = (n : Int) - 127 - 128 * ((c : Int) - 1)) ∧ (c = 1 ∨ 127 + 128 * (c - 2) < n) ∧ Hid (wr = w)) (fun _ lv _ => (intOf lv).toNat)
  case atStart => exact ⟨1, _, by omega, rfl, rfl, Lib.hid (by omega), .inl rfl, Lib.hid rfl⟩
  case round =>
    obtain ⟨c, l, hc1, rfl, rfl, hl, hc2, hwr⟩ := hrel
    have hwr := hwr.out
    subst hwr
    have hl1 := hl.out
    by_cases hp : 0 < l
    · have hw1 : IntKind.i64.wrap ((c : Int) + 1) = ((c + 1 : Nat) : Int) := by rw [IntKind.wrap_i64]; omega
      have hw2 : IntKind.i64.wrap (l - 128) = l - 128 := by rw [IntKind.wrap_i64]; omega
      clear hl1
      go_wp2_with fail
      go_roundw
      case rel => exact ⟨c + 1, l - 128, by omega, rfl, rfl, Lib.hid (by have := hl.out; omega), by have := hl.out; omega, by first | exact Lib.hid rfl | exact Lib.hid trivial⟩
      case measure => simp [intOf]; omega
    · obtain rfl : r = c := by omega
      clear hr' hl hl1 hc2
      go_wp2_with fail
      go_ret
      exact ⟨rfl, rfl⟩
theorem loop_cnt {l : List UInt8} : ∀ (k : Nat) (x : Int) (acc acc' : List (List UInt8)) (x' : Int), Wl.loop l k x acc = (acc', x', 0) → acc'.length = acc.length + k
  | 0, x, acc, acc', x', h => by unfold Wl.loop at h; cases h; rfl
  | k + 1, x, acc, acc', x', h => by
    unfold Wl.loop at h
    split at h
    · have := loop_cnt k _ _ _ _ h
      rw [List.length_append, List.length_singleton] at this
      omega
    · rename_i h1
      simp only [Prod.mk.injEq] at h
      exact absurd h.2.2 h1
theorem parts_many {l : List UInt8} {n : Nat} {x : Int} (h : Wire.readU l 0 = (n, x, 0)) (hn : l.length < n) : Wl.parts l = none := by
  unfold Wl.parts
  rw [h, if_neg]
  rintro ⟨-, h2, h3⟩
  obtain ⟨⟨a, x', e⟩, hr⟩ : ∃ r, Wl.loop l n x [] = r := ⟨_, rfl⟩
  simp only [hr] at h2 h3
  subst h2
  have h4 := loop_len _ _ _ _ _ hr
  have h5 := loop_cnt _ _ _ _ _ hr
  obtain ⟨y, hy, -⟩ := readU_bd (l := l) (by rw [h])
  rw [h] at hy
  simp only at hy
  simp only [List.length_nil] at h4 h5
  omega
theorem parts_of {l : List UInt8} {n : Nat} {x x' : Int} {a : List (List UInt8)} {e : Int} (h : Wire.readU l 0 = (n, x, 0)) (hl : Wl.loop l n x [] = (a, x', e)) : Wl.parts l = if e = 0 ∧ x' = l.length then some a else none := by
  unfold Wl.parts
  rw [h]
  simp only [hl, true_and]

set_option maxRecDepth 8000 in
set_option maxHeartbeats 4000000 in
theorem refParts_any (w : World) (S : Nat → Bool) (hS : ∀ k, S k = true → k < w.heap.size) (v : Value) (C : List UInt8) (hv : IsBytes w v C) (hC : C.length ≤ 524416) :
    Calls Try.prog 74 #[v] w fun en w' => ∃ (b : Option Addr) (n q : Nat), en = .returned (.tuple #[.slice b n q, .bool (Wl.parts C).isSome]) ∧ (∀ rs, Wl.parts C = some rs → IsLists (mask S w') (.slice b n q) rs) ∧ Below w.heap.size w w' := by
  obtain ⟨R, hR⟩ : ∃ R, Wl.parts C = R := ⟨_, rfl⟩
  rw [hR]
  have HR := Lib.hid hR
  clear hR
  obtain ⟨vb, vc, rfl, -, -, -, -⟩ := id hv.out
  obtain ⟨T, hT⟩ : ∃ T, C.length = T := ⟨_, rfl⟩
  rw [hT] at hv hC ⊢
  have HT := Lib.hid hT
  have h0 := (St.start w).putOld (P := (IsBytes · (.slice vb T vc) C)) (Mono.bytes _ _) hv
  obtain ⟨⟨ln, lx, le⟩, hl0⟩ : ∃ u, Wire.readU C 0 = u := ⟨_, rfl⟩
  have hln := readU_lt C 0
  have hlb := readU_bd (l := C)
  rw [hl0] at hln hlb
  have hln : ln < 2 ^ 64 := hln
  have HLB := Lib.hid hlb
  have HL0 := Lib.hid hl0
  clear hl0 hlb hT hv
  go_enter Try.func74, Try.ntmps74
  go_wp2_with fail
  refine (Calls.sV' h0 (refReadUint_any _ _ C 0 (h0.is 0 rfl) (by omega) (by rw [HT.out]; omega))).mono ?_
  rintro en w1 ⟨rfl, h1⟩
  rw [HL0.out]
  clear h0
  have hTi : IntKind.u64.wrap (T : Int) = (T : Int) := by show (T : Int) % 18446744073709551616 = _; omega
  by_cases hle : le = 0
  · subst hle
    by_cases hnT : T < ln
    · have hRn : R = none := by rw [← HR.out]; exact parts_many HL0.out (by rw [HT.out]; exact hnT)
      subst hRn
      have hnTi : (T : Int) < (ln : Int) := by omega
      go_wp2_with fail
      go_ret2
      exact ⟨none, 0, 0, rfl, fun rs h => (by cases h), h1.below⟩
    · have hnTi : ¬ (T : Int) < (ln : Int) := by omega
      have hlw : IntKind.i64.wrap (ln : Int) = (ln : Int) := by rw [IntKind.wrap_i64]; omega
      obtain ⟨y0, hy0, hy2⟩ := HLB.out rfl
      have hy0 : lx = (y0 : Int) := hy0
      subst hy0
      obtain ⟨LR, hLR⟩ : ∃ LR, Wl.loop C ln (y0 : Int) [] = LR := ⟨_, rfl⟩
      have hpo := parts_of (a := LR.1) (x' := LR.2.1) (e := LR.2.2) HL0.out hLR
      rw [HR.out, HT.out] at hpo
      have HPO := Lib.hid hpo
      have HLR := Lib.hid hLR
      clear hpo hLR HR
      go_wp2_with fail
      go_loopw [5, 7, 8] (fun xv ov iv wr => ∃ (k : Nat) (x : Int) (acc : List (List UInt8)) (xs : List Value) (oo : List (Nat × Obj)) (ob : Option Addr) (oq : Nat), k ≤ ln ∧ xv = .int .i64 x ∧ ov = .slice ob k oq ∧ iv = .int .i64 k ∧ Hid (Wl.loop C (ln - k) x acc = LR) ∧ (∃ y : Nat, x = (y : Int) ∧ k ≤ y ∧ y ≤ T) ∧ Hid (acc.length = k) ∧ OwnP 42 1 (.slice ob k oq) k xs oo ∧ St w wr (oo ++ []) [(fun x => Elems 1 rdB (mask S x) xs acc), (IsBytes · (.slice vb T vc) C)]) (fun _ _ iv _ => ln - (intOf iv).toNat)
      case atStart =>
        refine ⟨0, (y0 : Int), [], [], [], none, 0, by omega, rfl, rfl, rfl, HLR, ⟨y0, rfl, by omega, by rw [HT.out] at hy2; omega⟩, Lib.hid rfl, ⟨by simp, .inl ⟨rfl, rfl, rfl⟩⟩, h1.put (Mono.elemsOff _ _) Elems.nil⟩
      case round =>
        clear h1
        obtain ⟨k, x, acc, xs, oo, ob, oq, hk, rfl, rfl, rfl, HLP, ⟨y, rfl, hky, hyT⟩, HAC, ho, hst⟩ := hrel
        by_cases hlt : k < ln
        · obtain ⟨k', hk'⟩ : ∃ k', ln - k = k' + 1 := ⟨ln - k - 1, by omega⟩
          obtain ⟨⟨s, nx, er⟩, hrt⟩ : ∃ u, Wire.readT C (y : Int) = u := ⟨_, rfl⟩
          have hbd := readT_bd hrt
          have hlp := HLP.out
          rw [hk', Wl.loop, hrt] at hlp
          rw [HT.out] at hbd
          have HBD := Lib.hid hbd
          have HRT := Lib.hid hrt
          have HLP2 := Lib.hid hlp
          clear hrt hlp hbd HLP
          have hki : (k : Int) < (ln : Int) := by omega
          have hxb : (y : Int) ≤ 9223372036854775807 := by omega
          go_wp2_with fail
          refine (Calls.sV' hst (refReadText_any _ _ C (y : Int) (hst.is 1 rfl) hxb (by rw [HT.out]; omega))).mono ?_
          rintro en w13 ⟨rfl, h13⟩
          rw [HRT.out]
          clear hst
          by_cases her : er = 0
          · subst her
            obtain ⟨X, hX⟩ : ∃ X : ByteArray, ⟨s.toArray⟩ = X := ⟨_, rfl⟩
            have hXs : X.size = s.length := by rw [← hX]; rfl
            have hXd : X.data.toList = s := by rw [← hX]
            simp only [hX]
            have HX := Lib.hid (And.intro hXs hXd)
            clear hX hXs hXd
            obtain ⟨cx, wt, hcv, hcc, hbx, hbt⟩ := run_strBytes (P := Try.prog) w13 9 42 5 X Try.underlying9 Try.underlying42 Try.underlying5 (by rw [HX.out.1]; have := HBD.out.1; unfold maxLen; omega)
            rw [HX.out.2] at hbx
            have h14 := h13.putNew hS hbt (Nat.le_refl _) hbx
            have h15 := h14.alloc (.cells #[.slice (some ⟨w13.heap.size, 0, none⟩) X.size cx] 42)
            have h16 := h15.shut
            go_upto_region 12 with (first | (rw [hcv]) | (at_builtin; go_loud (refine wpList_append_any' rfl (.tmp 42) (.tmp 45) 22 22 rfl w.heap.size 42 (.slice none 0 0) 1 24 Try.underlying22 slice_info rfl _ k xs rfl (ho.owns h16) _ 1 [.slice (some ⟨w13.heap.size, 0, none⟩) X.size cx] rfl (Src.row Try.underlying22 (IsRow.block (n := 1) (xs := [.slice (some ⟨w13.heap.size, 0, none⟩) X.size cx]) (h15.at_ 0 rfl) rfl (by unfold maxLen; omega)) (fun u hu => by simp only [List.mem_cons, List.not_mem_nil, or_false] at hu; subst hu; rfl)) (by omega) (by unfold maxLen; omega) h16.size ?_); intro v' w' r1 r2 r3; obtain ⟨oo2, k17, h17⟩ := ho.append h16 r1 r2 r3; obtain ⟨vb2, vq2, rfl⟩ := own_slice r1))
            have h19 := h17.put (Mono.elemsOff (S := S) _ _) (Elems.append (h17.get 2 rfl) (Elems.one (a := s) rfl ⟨_, rfl, h17.get 1 rfl⟩))
            clear h13 h14 h15 h16 hbt hbx hcv r1 r2 r3
            have hwk : IntKind.i64.wrap ((k : Int) + 1) = ((k + 1 : Nat) : Int) := by rw [IntKind.wrap_i64]; omega
            go_wp2_with fail
            go_roundw
            case rel =>
              obtain ⟨jj, mm, e1, e2, hh1, hh2⟩ := HBD.out.2 rfl
              refine ⟨k + 1, nx, acc ++ [s], _, oo2, vb2, vq2, by omega, rfl, rfl, rfl, ?_, ⟨mm, e2, by omega, by omega⟩, Lib.hid (by rw [List.length_append, HAC.out]; rfl), k17, h19.facts (fun P hP => by simp only [List.mem_cons, List.not_mem_nil, or_false] at hP ⊢; rcases hP with rfl | rfl <;> simp)⟩
              have := HLP2.out
              rw [if_pos rfl] at this
              rw [show ln - (k + 1) = k' by omega]
              exact Lib.hid this
            case measure => simp [intOf]; omega
          · have hLRe := HLP2.out
            rw [if_neg her] at hLRe
            have hRn : R = none := by
              rw [HPO.out, ← hLRe, if_neg]
              rintro ⟨h, -⟩
              exact her h
            subst hRn
            have her1 := bne_of her
            clear hLRe HLP2
            have hb13 := h13.below
            go_wp2_with fail
            go_ret2
            exact ⟨none, 0, 0, rfl, fun rs h => (by cases h), hb13⟩
        · obtain rfl : ln = k := by omega
          have hlp := HLP.out
          rw [Nat.sub_self, Wl.loop] at hlp
          have hpo := HPO.out
          rw [← hlp] at hpo
          simp only [true_and] at hpo
          have hrow := ho.owns hst
          have hgeq := fun kk hk => (World.ownsRow.lt hrow kk hk).1
          have h20 := ho.done hst
          have hls : IsLists (mask S wr) (.slice ob ln oq) acc := lists_of (mask_row (h20.is 0 rfl : IsRow _ _ _ _ _) fun kk hk => by
            cases hq : S kk with
            | false => rfl
            | true => have := hS kk hq; have := hgeq kk hk; omega) (h20.is 1 rfl) HAC.out.symm
          have HLS := Lib.hid hls
          have hb := h20.below
          clear hls h20 hgeq hrow hlp HPO HLP hst
          by_cases hx : y = T
          · rw [if_pos (by rw [hx])] at hpo
            subst hpo
            subst hx
            go_wp2_with fail
            go_ret2
            exact ⟨ob, ln, oq, rfl, fun rs h => (by cases h; exact HLS.out), hb⟩
          · rw [if_neg (fun h => hx (by omega))] at hpo
            subst hpo
            have hx2 : ((y : Int) == (T : Int)) = false := beq_of (by omega)
            go_wp2_with fail
            go_ret2
            exact ⟨ob, ln, oq, rfl, fun rs h => (by cases h), hb⟩
  · have hRn : R = none := by
      rw [← HR.out]
      unfold Wl.parts
      rw [HL0.out, if_neg]
      rintro ⟨h, -⟩
      exact hle h
    subst hRn
    have hle1 := bne_of hle
    have hb := h1.below
    clear HR HL0 HLB
    go_wp2_with fail
    go_ret2
    exact ⟨none, 0, 0, rfl, fun rs h => (by cases h), hb⟩
end Go.Proofs.Ytnfgapdpnihicaa
