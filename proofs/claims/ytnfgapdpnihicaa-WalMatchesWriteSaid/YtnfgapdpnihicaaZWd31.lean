/- The walk over wal.read. -/
import Derived.Test.YtnfgapdpnihicaaZWc31
import Derived.Test.YtnfgapdpnihicaaZGB
import Derived.Test.YtnfgapdpnihicaaZGC
import Derived.Test.YtnfgapdpnihicaaZEq31
import Derived.Deep.CutRange
set_option linter.unusedVariables false
set_option linter.unusedSimpArgs false
namespace Go.Proofs.Ytnfgapdpnihicaa
open Go Go.RowKit

/-- A byte slice as an element. -/
def rdB : Rd (List UInt8) := fun w cs l => ∃ u, cs = [u] ∧ IsBytes w u l
theorem rdB_up : rdB.Up := fun _ _ _ _ k ⟨u, h1, h2⟩ => ⟨u, h1, h2.sub k⟩
theorem lists_of {w : World} {v : Value} {n : Nat} {xs : List Value} {ll : List (List UInt8)} (h : IsRow 1 w v n xs) (he : Elems 1 rdB w xs ll) (hn : n = ll.length) : IsLists w v ll := by
  subst hn
  refine ⟨xs, h, fun i hi => ?_⟩
  obtain ⟨u, h1, h2⟩ := he.2 i hi
  refine ⟨u, ?_, h2⟩
  have := congrArg (fun l : List Value => l[0]?) h1
  simpa using this
theorem elems_of {w : World} {v : Value} {ll : List (List UInt8)} (h : IsLists w v ll) : ∃ xs, IsRow 1 w v ll.length xs ∧ Elems 1 rdB w xs ll := by
  obtain ⟨vs, h1, h2⟩ := h
  have hl : vs.length = ll.length * 1 := by obtain ⟨_, _, _, hx, _⟩ := h1; exact hx
  refine ⟨vs, h1, hl, fun i hi => ?_⟩
  obtain ⟨u, h3, h4⟩ := h2 i hi
  refine ⟨u, ?_, h4⟩
  obtain ⟨h5, h6⟩ := List.getElem?_eq_some_iff.1 h3
  rw [Nat.mul_one, List.drop_eq_getElem_cons h5, h6]
  rfl
theorem bt_one (a b c : Int) (x : Option Addr) (n q : Nat) : (#[.int .i64 a, .int .i64 b, .slice x n q, .int .i64 c] : Array Value).all (·.oneCell') = true := by
  rw [Array.all_eq_true_iff_forall_mem]
  intro y hy
  simp only [List.mem_toArray, List.mem_cons, List.not_mem_nil, or_false] at hy
  rcases hy with rfl | rfl | rfl | rfl <;> rfl
theorem lists_nil (w : World) : IsLists w (.slice none 0 0) [] := ⟨[], IsRow.nil 1 w, fun i h => absurd h (by simp)⟩
theorem bne_of {x y : Int} (h : x ≠ y) : (x != y) = true := by simpa using h
theorem beq_of {x y : Int} (h : x ≠ y) : (x == y) = false := by simpa using h
theorem add0 (g j : Nat) : (⟨g, 0, none⟩ : Addr).add j = ⟨g, j, none⟩ := by
  unfold Addr.add
  split <;> simp_all
/-- A slice is turned into an array's pointer. -/
theorem wpList_arr {P : Program} {ops : Array Oper} {rest : List Oper} {o : Oper} {a : Act} {w : World} {Q : Exit → Act → World → Prop} (hgd : o.guard = none) (arr : TypeId) (x : Operand) (ho : o.op = .sliceToArrayPointer arr x)
    (n : Nat) (e : TypeId) (hu : P.underlying arr = some (.array n e)) (b : Option Addr) (len cap : Nat) (hx : a.eval x = .slice b len cap) (hl : n ≤ len)
    (h : wpList P ops Q rest (a.put o.dst (.pointer b)) w) : wpList P ops Q (o :: rest) a w := by
  refine wpList_plain hgd fun K hK => ?_
  unfold Oper.wp execOp
  simp only [ho, hx, Instr.arrayAt, Sem.run_bind, run_underlying hu, Result.andThen_ok, Sem.run_pure, if_neg (Nat.not_lt.2 hl)]
  exact hK _ _ h
theorem byte_eq (y : UInt8) {n : Nat} (hn : n < 256) : (((y.toNat : Int)) == (n : Int)) = decide (y = UInt8.ofNat n) := by
  rw [Bool.eq_iff_iff, beq_iff_eq, decide_eq_true_eq]
  constructor
  · intro h
    have h1 : y.toNat = n := by omega
    rw [← h1]
    simp
  · rintro rfl
    rw [Wire.byte_lo hn]
theorem sum4_cmp (y0 y1 y2 y3 : UInt8) (r : BitVec 32) : (!(((y0.toNat : Int) == (r.toNat : Int) % 256) && (((y1.toNat : Int) == (r.toNat : Int) / 256 % 256) && (((y2.toNat : Int) == (r.toNat : Int) / 65536 % 256) && ((y3.toNat : Int) == (r.toNat : Int) / 16777216))))) = decide ([y0, y1, y2, y3] ≠ sum4 r) := by
  have hr := r.isLt
  have e0 : (r.toNat : Int) % 256 = ((r.toNat % 256 : Nat) : Int) := by omega
  have e1 : (r.toNat : Int) / 256 % 256 = ((r.toNat / 256 % 256 : Nat) : Int) := by omega
  have e2 : (r.toNat : Int) / 65536 % 256 = ((r.toNat / 65536 % 256 : Nat) : Int) := by omega
  have e3 : (r.toNat : Int) / 16777216 = ((r.toNat / 16777216 : Nat) : Int) := by omega
  rw [e0, e1, e2, e3, byte_eq _ (by omega), byte_eq _ (by omega), byte_eq _ (by omega), byte_eq _ (by omega)]
  have h4 : sum4 r = [UInt8.ofNat (r.toNat % 256), UInt8.ofNat (r.toNat / 256 % 256), UInt8.ofNat (r.toNat / 65536 % 256), UInt8.ofNat (r.toNat / 16777216)] := by
    unfold sum4
    congr
    all_goals omega
  rw [h4, Bool.eq_iff_iff]
  simp only [List.cons.injEq, and_true, Bool.not_eq_true', decide_eq_true_eq, Bool.and_eq_false_iff, decide_eq_false_iff_not, ne_eq, not_and]
  constructor
  · intro h a b c d
    rcases h with h | h | h | h
    · exact h a
    · exact h b
    · exact h c
    · exact h d
  · intro h
    by_cases h0 : y0 = UInt8.ofNat (r.toNat % 256)
    · by_cases h1 : y1 = UInt8.ofNat (r.toNat / 256 % 256)
      · by_cases h2 : y2 = UInt8.ofNat (r.toNat / 65536 % 256)
        · exact .inr (.inr (.inr (h h0 h1 h2)))
        · exact .inr (.inr (.inl h2))
      · exact .inr (.inl h1)
    · exact .inl h0
theorem four_of {l : List UInt8} (h : l.length = 4) : ∃ a b c d, l = [a, b, c, d] := by
  match l, h with
  | [a, b, c, d], _ => exact ⟨a, b, c, d, rfl⟩
theorem St.putNew {w0 W W' : World} {os : List (Nat × Obj)} {fs : List (World → Prop)} {S : Nat → Bool} {g n c : Nat} {l : List UInt8} (h : St w0 W os fs) (hS : ∀ k, S k = true → k < w0.heap.size) (hb : Below W.heap.size W W') (hg : W.heap.size ≤ g) (hv : IsBytes W' (.slice (some ⟨g, 0, none⟩) n c) l) : St w0 W' os ((fun x => IsBytes (mask S x) (.slice (some ⟨g, 0, none⟩) n c) l) :: fs) := by
  refine (h.call hb).put (Mono.off S (Mono.bytes _ _)) ?_
  have h1 : IsBytes (mask (orS S (inL (keys os))) W') (.slice (some ⟨g, 0, none⟩) n c) l := mask_row hv fun k hk => by
    have hk' : g = k := by cases hk; rfl
    subst hk'
    cases hq : orS S (inL (keys os)) g with
    | false => rfl
    | true => have := h.orLt hS g hq; omega
  exact h1.sub mask_or2
theorem Mono.elemsOff {S : Nat → Bool} (xs : List Value) (l : List (List UInt8)) : Mono (fun x => Elems 1 rdB (mask S x) xs l) := Mono.off S (Mono.elems rdB_up xs l)
theorem readT_bd {C s : List UInt8} {x nx er : Int} (h : Wire.readT C x = (s, nx, er)) : s.length ≤ C.length ∧ (er = 0 → ∃ j m : Nat, x = (j : Int) ∧ nx = (m : Int) ∧ j < m ∧ m ≤ C.length) := by
  rcases readT_cases C x with ⟨c, hc, e⟩ | ⟨j, m, s', e0, hjm, hml, e, hsl, -⟩
  · rw [e] at h
    cases h
    exact ⟨by simp, fun h => absurd h hc⟩
  · rw [e] at h
    cases h
    exact ⟨hsl, fun _ => ⟨j, m, e0, rfl, hjm, hml⟩⟩
theorem arr4_info : (Try.prog.info? 115).map (·.size) = some 4 := by kernel_rfl
theorem bytes_range {w : World} {g off n cap : Nat} {l : List UInt8} (h : IsBytes w (.slice (some ⟨g, off, none⟩) n cap) l) : w.rangeAt g off (l.map u8v) := by
  obtain ⟨_, _, e, h1, h2, h3, h4, h5⟩ := h
  intro j v hj
  obtain ⟨hj1, hj2⟩ := List.getElem?_eq_some_iff.1 hj
  obtain ⟨b, o, e2, h6⟩ := h5 j (by simpa using hj1)
  cases e
  cases e2
  rw [h6]
  simpa using hj2
theorem flat_drop_succ {s : List (List UInt8)} {a i : Nat} (h : a + i < s.length) : ((s.drop a).take (i + 1)).flatten = ((s.drop a).take i).flatten ++ s[a + i] := by
  have h2 : i < (s.drop a).length := by rw [List.length_drop]; omega
  rw [← List.take_append_getElem h2, List.flatten_append, List.getElem_drop]
  simp
theorem flat_drop_len {s : List (List UInt8)} {a : Nat} (hs : ∀ j (h : j < s.length), s[j].length = 128) : ∀ {i : Nat}, a + i ≤ s.length → ((s.drop a).take i).flatten.length = 128 * i
  | 0, _ => by simp
  | i + 1, h => by rw [flat_drop_succ (by omega), List.length_append, flat_drop_len hs (by omega), hs]; omega
theorem readU_bd {l : List UInt8} (h : (Wire.readU l 0).2.2 = 0) : ∃ k : Nat, (Wire.readU l 0).2.1 = (k : Int) ∧ k ≤ l.length := by
  rcases readU_cases l 0 with ⟨c, hc, e⟩ | ⟨j, m, n, e0, hjm, hml, e, -⟩
  · rw [e] at h
    exact absurd h hc
  · exact ⟨m, by rw [e], hml⟩
theorem IsBytes.src_n {P : Program} {w : World} {t2 e2 : TypeId} {x : Value} {l : List UInt8} {n : Nat} (h : IsBytes w x l) (ht : P.underlying t2 = some (.slice e2)) (hn : l.length = n) : Src P 1 w t2 x n (l.map u8v) := hn ▸ IsBytes.src ht h

set_option maxRecDepth 8000 in
set_option maxHeartbeats 16000000 in
theorem read_any (w : World) (S : Nat → Bool) (hS : ∀ k, S k = true → k < w.heap.size) (v : Value) (d : Dk) (hv : IsDk w v d) (hok : d.Ok) (p e : Nat) (hp : p < e) (he : e ≤ d.sec.length) {m : Nat} {rs : List (List UInt8)} {c : Int} (hb : Wl.batch d.sec p e = (m, rs, c)) :
    Calls Try.prog 70 #[v, .int .i64 p, .int .i64 e] w fun en w' => ∃ rv, en = .returned (btV p m rv c) ∧ IsLists (mask S w') rv rs ∧ Below w.heap.size w w' := by
  have hv' := hv
  obtain ⟨sv, rfl, hl⟩ := hv
  obtain ⟨base, cap, rfl, hcap1, hcap2, -, hat⟩ := hl.out
  unfold maxLen at hcap2
  obtain ⟨sec, left, tear, st⟩ := d
  simp only [dkV] at *
  obtain ⟨n, hn⟩ : ∃ n, sec.length = n := ⟨_, rfl⟩
  have hn2 : n ≤ 4096 := by rw [← hn]; exact hok.many
  have hsz := hok.size
  simp only at hsz
  have hpl : p < sec.length := by omega
  have hpn : p < n := by omega
  have hen : e ≤ n := by omega
  obtain ⟨gb, off, u, rfl, hcell, hu⟩ := hat p hpl
  obtain ⟨ub, uc, rfl, huc, huc2, -, -⟩ := hu.out
  have hs0 := hsz p hpl
  rw [hs0] at hcell hu huc
  rw [hn] at hl hv' hcap1 ⊢
  have h0 := ((((((St.start w).putOld (Mono.lists _ _) hl).putOld (Mono.bytes _ _) hu).putOld (P := fun x => x.cell? ⟨gb, off + p, none⟩ = some (.slice ub 128 uc)) (Mono.cell _ _) hcell).boxC #[.slice (some ⟨gb, off, none⟩) n cap, .int .i64 left, .int .i64 tear, .bool st] 24).boxC #[.int .i64 p] 3).alloc (.cells #[.int .i64 0, .int .i64 0, .slice none 0 0, .int .i64 0] 101)
  simp only [al_size] at h0
  have HB := Lib.hid hb
  have HN := Lib.hid hn
  have HSZ := Lib.hid hsz
  have HS0 := Lib.hid hs0
  clear hv' hl hat hu hcell hb hn hsz hok hs0
  have c0 := (h0.is 1 rfl : IsCells _ _ _).c4.1
  have c1 := (h0.is 0 rfl : IsCells _ _ _) 0 _ rfl
  have c2 := (h0.is 2 rfl : World.cell? _ _ = _)
  go_enter Try.func70, Try.ntmps70
  go_upto_region 3 with fail
  have h1 := h0.put (Mono.bytes _ _) ((h0.get 3 rfl : IsBytes _ _ _).take 127 (by rw [HS0.out]; omega))
  clear h0
  obtain ⟨⟨un, ux, ue⟩, hu⟩ : ∃ u, Wire.readU ((sec[p]'hpl).take 127) 0 = u := ⟨_, rfl⟩
  have hun : un < 2 ^ 64 := by have := readU_lt ((sec[p]'hpl).take 127) 0; rw [hu] at this; exact this
  have HU := Lib.hid hu
  clear hu
  go_wp2_with fail
  refine (Calls.sV h1 (readUint_any _ _ _ 0 (h1.is 0 rfl))).mono ?_
  rintro en w1 ⟨rfl, h2⟩
  rw [HU.out]
  clear h1 c0 c1 c2
  have c0 := (h2.is 2 rfl : IsCells _ _ _).c4.1
  have c1 := (h2.is 1 rfl : IsCells _ _ _) 0 _ rfl
  have c2 := (h2.is 3 rfl : World.cell? _ _ = _)
  have hb := HB.out
  unfold Wl.batch at hb
  rw [show sec.getD p [] = sec[p]'hpl by rw [List.getD_eq_getElem?_getD, List.getElem?_eq_getElem hpl]; rfl] at hb
  simp only [HU.out] at hb
  have HB2 := Lib.hid hb
  clear hb HB

  obtain ⟨k, hk⟩ : ∃ k, e - p = k := ⟨_, rfl⟩
  have hk4 : k ≤ 4096 := by omega
  have hw1 : IntKind.i64.wrap ((e : Int) - (p : Int)) = (k : Int) := by rw [IntKind.wrap_i64]; omega
  have hw2 : IntKind.i64.wrap ((k : Int) * 128) = ((k * 128 : Nat) : Int) := by rw [IntKind.wrap_i64]; omega
  have hw3 : IntKind.u64.wrap ((k * 128 : Nat) : Int) = ((k * 128 : Nat) : Int) := by show ((k * 128 : Nat) : Int) % 18446744073709551616 = _; omega
  have HK := Lib.hid hk
  rw [hk] at HB2
  have HBB := Lib.hid HB2.out
  clear hk
  by_cases hbad : ue ≠ 0 ∨ k * 128 < un
  · have hbx := HB2.out
    rw [if_pos hbad] at hbx
    by_cases hue : ue = 0
    · have hue' : (ue != 0) = false := by subst hue; rfl
      subst hue
      have hlt : ((k * 128 : Nat) : Int) < (un : Int) := by
        rcases hbad with h | h
        · exact absurd rfl h
        · omega
      have hbb := hbx
      cases hbb
      go_wp2_with fail
      refine (Calls.sV h2 (bad_any _ 3 p (w.heap.size + 1) c1)).mono ?_
      rintro en w9 ⟨rfl, h9⟩
      have h10 := h9.setRow (os1 := []) (cs' := #[.int .i64 p, .int .i64 0, .slice none 0 0, .int .i64 3])
      simp only [btV]
      go_wp2_with (refine wpList_store_row rfl 101 (.tmp 6) (.tmp 48) rfl (w.heap.size + 1 + 1) #[.int .i64 p, .int .i64 0, .slice none 0 0, .int .i64 3] rfl rfl 101 _ (h9.at_ 0 rfl) batch_info rfl (bt_one _ _ _ _ _ _) ?_)
      exact bodyPost_ret (results_cell_row rfl _ _ (w.heap.size + 1 + 1) 101 _ (0, 0) _ rfl (h10.at_ 0 rfl) Try.underlying101 rfl batch_info) rfl ⟨_, rfl, lists_nil _, h10.below⟩
    · have hue' := bne_of hue
      have hbb := hbx
      cases hbb
      go_wp2_with fail
      refine (Calls.sV h2 (bad_any _ 3 p (w.heap.size + 1) c1)).mono ?_
      rintro en w9 ⟨rfl, h9⟩
      have h10 := h9.setRow (os1 := []) (cs' := #[.int .i64 p, .int .i64 0, .slice none 0 0, .int .i64 3])
      simp only [btV]
      go_wp2_with (refine wpList_store_row rfl 101 (.tmp 6) (.tmp 48) rfl (w.heap.size + 1 + 1) #[.int .i64 p, .int .i64 0, .slice none 0 0, .int .i64 3] rfl rfl 101 _ (h9.at_ 0 rfl) batch_info rfl (bt_one _ _ _ _ _ _) ?_)
      exact bodyPost_ret (results_cell_row rfl _ _ (w.heap.size + 1 + 1) 101 _ (0, 0) _ rfl (h10.at_ 0 rfl) Try.underlying101 rfl batch_info) rfl ⟨_, rfl, lists_nil _, h10.below⟩
  · have hbx := HB2.out
    rw [if_neg hbad] at hbx
    obtain ⟨hu0, hun2⟩ : ue = 0 ∧ un ≤ k * 128 := by
      constructor
      · exact Classical.byContradiction fun h => hbad (.inl h)
      · exact Nat.le_of_not_lt fun h => hbad (.inr h)
    subst hu0
    have hlt : ¬ ((k * 128 : Nat) : Int) < (un : Int) := by omega
    obtain ⟨j, hj, hj127⟩ := readU_bd (l := (sec[p]'hpl).take 127) (by rw [HU.out])
    rw [HU.out] at hj
    simp only at hj
    subst hj
    rw [List.length_take, HS0.out] at hj127
    have hj127 : j ≤ 127 := hj127
    simp only [Int.toNat_natCast] at hbx
    obtain ⟨T, hT⟩ : ∃ T, j + un = T := ⟨_, rfl⟩
    have hw4 : IntKind.i64.wrap (un : Int) = (un : Int) := by rw [IntKind.wrap_i64]; omega
    have hw5 : IntKind.i64.wrap ((j : Int) + (un : Int)) = (T : Int) := by rw [IntKind.wrap_i64]; omega
    have hw6 : IntKind.i64.wrap ((T : Int) + 4) = ((T + 4 : Nat) : Int) := by rw [IntKind.wrap_i64]; omega
    have hTb : T ≤ 524415 := by omega
    rw [hT] at hbx
    obtain ⟨M, hM⟩ : ∃ M, Wl.needs (T + 4) = M := ⟨_, rfl⟩
    have hMT : T + 4 ≤ 127 + 128 * (M - 1) ∧ 1 ≤ M := by rw [← hM]; unfold Wl.needs; omega
    rw [hM] at hbx
    have HM := Lib.hid hM
    have HT := Lib.hid hT
    clear hM hT hlt
    go_wp2_with fail
    refine (Calls.sV' h2 (needs_any _ (T + 4) (by omega))).mono ?_
    rintro en w3 ⟨rfl, h3⟩
    rw [HM.out]
    clear h2 c0 c1 c2 hw1 hw2 hw3 hw4 hw5 hw6
    have c0 := (h3.is 2 rfl : IsCells _ _ _).c4.1
    have c1 := (h3.is 1 rfl : IsCells _ _ _) 0 _ rfl
    have hw1 : IntKind.i64.wrap ((e : Int) - (p : Int)) = (k : Int) := by have := HK.out; rw [IntKind.wrap_i64]; omega
    by_cases hMk : k < M
    · rw [if_pos hMk] at hbx
      have hbb := hbx
      cases hbb
      go_wp2_with fail
      refine (Calls.sV h3 (bad_any _ 3 p (w.heap.size + 1) c1)).mono ?_
      rintro en w9 ⟨rfl, h9⟩
      have h10 := h9.setRow (os1 := []) (cs' := #[.int .i64 p, .int .i64 0, .slice none 0 0, .int .i64 3])
      simp only [btV]
      go_wp2_with (refine wpList_store_row rfl 101 (.tmp 6) (.tmp 62) rfl (w.heap.size + 1 + 1) #[.int .i64 p, .int .i64 0, .slice none 0 0, .int .i64 3] rfl rfl 101 _ (h9.at_ 0 rfl) batch_info rfl (bt_one _ _ _ _ _ _) ?_)
      exact bodyPost_ret (results_cell_row rfl _ _ (w.heap.size + 1 + 1) 101 _ (0, 0) _ rfl (h10.at_ 0 rfl) Try.underlying101 rfl batch_info) rfl ⟨_, rfl, lists_nil _, h10.below⟩
    · rw [if_neg hMk] at hbx
      go_upto_region 10 with fail
      obtain ⟨P1, hP1⟩ : ∃ x, p + 1 = x := ⟨_, rfl⟩
      obtain ⟨PM, hPM⟩ : ∃ x, p + M = x := ⟨_, rfl⟩
      have hwp1 : IntKind.i64.wrap ((p : Int) + 1) = (P1 : Int) := by rw [IntKind.wrap_i64]; omega
      have hwp2 : IntKind.i64.wrap ((p : Int) + (M : Int)) = (PM : Int) := by rw [IntKind.wrap_i64]; omega
      have hsl1 : P1 ≤ PM := by omega
      have hsl2 : PM ≤ cap := by have := HK.out; omega
      have HPP := Lib.hid (And.intro hP1 hPM)
      clear hP1 hPM
      have HL127 : Hid (((sec[p]'hpl).take 127).length = 127) := Lib.hid (by rw [List.length_take, HS0.out]; rfl)
      obtain ⟨ho4, h4⟩ := OwnP.fresh (E := 5) (sz := 1) h3
      go_upto_region 11 with (at_builtin; go_loud (refine wpList_append_any' rfl (.tmp 63) (.tmp 64) 42 42 rfl w.heap.size 5 (.int .u8 0) 1 1 Try.underlying42 byte_info rfl _ 0 [] rfl (ho4.owns h4) _ 127 (((sec[p]'hpl).take 127).map u8v) rfl ((h4.is 0 rfl : IsBytes _ _ _).src_n Try.underlying42 HL127.out) (by omega) (by unfold maxLen; omega) h4.size ?_); intro v' w' r1 r2 r3)
      obtain ⟨oo, k5, h5⟩ := ho4.append h4 r1 r2 r3
      obtain ⟨vb, vq, rfl⟩ := own_slice r1
      clear r1 r2 r3 h4 ho4 h3 c0 c1
      have c0 := (h5.is 2 rfl : IsCells _ _ _).c4.1
      have c1 := (h5.is 1 rfl : IsCells _ _ _) 0 _ rfl
      rw [List.nil_append, Nat.zero_add] at k5
      rw [Nat.zero_add]
      generalize w' = W5 at *
      go_cut [73, 74, 75] from 66 to 75 (fun sv lv iv wr => ∃ (b' : Option Addr) (q' : Nat), sv = .slice b' (PM - P1) q' ∧ (P1 < PM → b' = some ⟨gb, off + P1, none⟩) ∧ lv = .int .i64 ((PM - P1 : Nat) : Int) ∧ iv = .int .i64 0 ∧ St w wr (oo ++ [((w.heap.size + 1 + 1), Obj.cells #[.int .i64 0, .int .i64 0, .slice none 0 0, .int .i64 0] 101 (0, 0))]) [(IsBytes · (.slice ub 127 uc) ((sec[p]'hpl).take 127)), IsCells (w.heap.size + 1) #[.int .i64 p], IsCells w.heap.size #[.slice (some ⟨gb, off, none⟩) n cap, .int .i64 left, .int .i64 tear, .bool st], (IsLists · (.slice (some ⟨gb, off, none⟩) n cap) sec)])
      case first =>
        have h6 := h5.facts (fs' := [(IsBytes · (.slice ub 127 uc) ((sec[p]'hpl).take 127)), IsCells (w.heap.size + 1) #[.int .i64 p], IsCells w.heap.size #[.slice (some ⟨gb, off, none⟩) n cap, .int .i64 left, .int .i64 tear, .bool st], (IsLists · (.slice (some ⟨gb, off, none⟩) n cap) sec)]) (fun P hP => by simp only [List.mem_cons, List.not_mem_nil, or_false] at hP ⊢; rcases hP with rfl | rfl | rfl | rfl <;> simp)
        by_cases hcp : cap = P1
        · go_wp2_with fail
          go_meet
          case rel => exact ⟨_, _, rfl, fun h => absurd h (by omega), rfl, rfl, h6⟩
        · go_wp2_with fail
          go_meet
          case rel => exact ⟨_, _, rfl, fun h => rfl, rfl, rfl, h6⟩
      case rest =>
      obtain ⟨b', q', rfl, hb', rfl, rfl, h6⟩ := hcut
      clear h5 hwp1 hwp2 c0 c1
      obtain ⟨Z, hZ⟩ : ∃ Z, PM - P1 = Z := ⟨_, rfl⟩
      rw [hZ]
      have hZM : M = Z + 1 ∧ P1 + Z ≤ n ∧ P1 + Z = PM := by have := HPP.out; have := HK.out; omega
      have hZ4 : Z ≤ 4096 := by omega
      obtain ⟨pre, hpre⟩ : ∃ f : Nat → List UInt8, f = fun i => ((sec[p]'hpl).take 127) ++ ((sec.drop P1).take i).flatten := ⟨_, rfl⟩
      have hp0 : ((sec[p]'hpl).take 127) = pre 0 := by rw [hpre]; simp
      have hps : ∀ i (h : P1 + i < sec.length), pre (i + 1) = pre i ++ sec[P1 + i] := fun i h => by rw [hpre]; simp only; rw [flat_drop_succ h, List.append_assoc]
      have hpl2 : ∀ i, P1 + i ≤ n → (pre i).length = 127 + 128 * i := fun i hi => by rw [hpre]; simp only [List.length_append]; rw [HL127.out, flat_drop_len (fun j hj => HSZ.out j hj) (by rw [HN.out]; exact hi)]
      have hpZ : pre Z = ((sec[p]'hpl).take 127) ++ ((sec.drop (p + 1)).take (M - 1)).flatten := by rw [hpre]; simp only; rw [HPP.out.1, hZM.1]; rfl
      rw [hp0] at k5
      rw [← hpZ] at hbx
      have HP := Lib.hid (And.intro hps (And.intro hpl2 hZM))
      have HBX := Lib.hid hbx
      clear hpre hp0 hps hpl2 hpZ hbx hZM
      go_wp2_with fail
      go_loopw [14, 16, 75] (fun bv _ iv wr => ∃ (i : Nat) (oo : List (Nat × Obj)), i ≤ Z ∧ iv = .int .i64 i ∧ OwnP 5 1 bv (127 + 128 * i) ((pre i).map u8v) oo ∧ St w wr (oo ++ [((w.heap.size + 1 + 1), Obj.cells #[.int .i64 0, .int .i64 0, .slice none 0 0, .int .i64 0] 101 (0, 0))]) [(IsBytes · (.slice ub 127 uc) ((sec[p]'hpl).take 127)), IsCells (w.heap.size + 1) #[.int .i64 p], IsCells w.heap.size #[.slice (some ⟨gb, off, none⟩) n cap, .int .i64 left, .int .i64 tear, .bool st], (IsLists · (.slice (some ⟨gb, off, none⟩) n cap) sec)]) (fun _ _ iv _ => Z - (intOf iv).toNat)
      case atStart => exact ⟨0, oo, by omega, rfl, k5, h6⟩
      case round =>
        clear h6 k5
        obtain ⟨i, oo, hi, rfl, ho, hst⟩ := hrel
        by_cases hlt : i < Z
        · have hin : P1 + i < sec.length := by rw [HN.out]; have := HP.out.2.2; omega
          obtain ⟨_, _, ee, -, -, -, hat⟩ := (hst.is 3 rfl : IsLists _ _ _).out
          rw [HN.out] at ee
          cases ee
          obtain ⟨g1, o1, u, ee, hcell, hu⟩ := hat (P1 + i) hin
          cases ee
          obtain rfl := hb' (by have := HP.out.2.2; omega)
          obtain ⟨b2, q2, rfl, -⟩ := hu.out
          rw [HSZ.out _ hin] at hcell hu
          rw [← Nat.add_assoc] at hcell
          have hps := HP.out.1 i hin
          have h128 := HSZ.out _ hin
          obtain ⟨x, hx⟩ : ∃ x, sec[P1 + i] = x := ⟨_, rfl⟩
          rw [hx] at hu hps h128
          have HX := Lib.hid (And.intro hps h128)
          clear hx hat hps h128
          go_upto_region 15 with (at_builtin; go_loud (refine wpList_append_any' rfl (.tmp 79) (.tmp 80) 42 42 rfl w.heap.size 5 (.int .u8 0) 1 1 Try.underlying42 byte_info rfl _ (127 + 128 * i) ((pre i).map u8v) rfl (ho.owns hst) _ 128 (x.map u8v) rfl (hu.src_n Try.underlying42 HX.out.2) (by omega) (by unfold maxLen; omega) hst.size ?_); intro v' w' r1 r2 r3)
          obtain ⟨oo2, k7, h7⟩ := ho.append hst r1 r2 r3
          rw [← List.map_append, ← HX.out.1] at k7
          clear hcell hu r1 r2 r3
          go_wp2_with fail
          go_roundw
          case rel => exact ⟨i + 1, oo2, by omega, by go_num, by have e : 127 + 128 * (i + 1) = 127 + 128 * i + 128 := by omega
                                                                 rw [e]; exact k7, h7⟩
          case measure => simp [intOf]; omega
        · obtain rfl : Z = i := by omega
          have h7 := ho.done hst
          obtain ⟨gB, vqB, rfl, -, -⟩ := own_block (ho.owns hst) (by omega)
          clear ho hst
          obtain ⟨B, hB⟩ : ∃ B, pre Z = B := ⟨_, rfl⟩
          have hBl := HP.out.2.1 Z HP.out.2.2.2.1
          rw [hB] at h7 hBl HBX
          obtain ⟨LB, hLB⟩ : ∃ x, 127 + 128 * Z = x := ⟨_, rfl⟩
          rw [hLB] at h7 hBl ⊢
          have hqq : LB ≤ vqB := by obtain ⟨_, _, ee, -, q1, -⟩ := (h7.is 0 rfl : IsRow _ _ _ _ _); cases ee; omega
          have hTL : T + 4 ≤ LB := by have := HP.out.2.2; omega
          have hjT : j ≤ T := by have := HT.out; omega
          have h8 : St w _ _ ((IsBytes · (.slice (some ⟨gB, 0, none⟩) LB vqB) B) :: _) := (h7.pop).put (Mono.bytes _ _) (by have h9 := (h7.get 0 rfl : IsRow _ _ _ _ _); unfold IsBytes; rw [hBl]; exact h9)
          clear h7
          have hc9 : IsBytes (sm [((w.heap.size + 1 + 1), Obj.cells #[.int .i64 0, .int .i64 0, .slice none 0 0, .int .i64 0] 101 (0, 0))] wr) (.slice (some ⟨gB, j, none⟩) (T - j) (vqB - j)) ((B.take T).drop j) := by
            have := ((h8.get 0 rfl : IsBytes _ _ _).take T (by omega)).from_ j (by rw [List.length_take]; omega)
            rw [if_neg (by omega)] at this
            simp only [Option.map_some, add0] at this
            exact this
          have hs9 : IsBytes (sm [((w.heap.size + 1 + 1), Obj.cells #[.int .i64 0, .int .i64 0, .slice none 0 0, .int .i64 0] 101 (0, 0))] wr) (.slice (some ⟨gB, T, none⟩) (T + 4 - T) (vqB - T)) ((B.take (T + 4)).drop T) := by
            have := ((h8.get 0 rfl : IsBytes _ _ _).take (T + 4) (by omega)).from_ T (by rw [List.length_take]; omega)
            rw [if_neg (by omega)] at this
            simp only [Option.map_some, add0] at this
            exact this
          obtain ⟨C, hC⟩ : ∃ C, (B.take T).drop j = C := ⟨_, rfl⟩
          have hCl : C.length = un := by rw [← hC, List.length_drop, List.length_take, hBl, Nat.min_eq_left (by omega)]; have := HT.out; omega
          have hct : (B.drop j).take un = C := by rw [← hC, List.drop_take]; congr 1; have := HT.out; omega
          rw [hC] at hc9
          have hX4 : (B.take (T + 4)).drop T = (B.drop T).take 4 := by rw [List.drop_take]; congr 1; omega
          rw [hX4] at hs9
          have hbx := HBX.out
          rw [hct] at hbx
          have HBX2 := Lib.hid hbx
          have HCL := Lib.hid hCl
          clear hC hct hX4 hbx HBX hCl
          have h9 := (h8.put (Mono.bytes _ _) hs9).put (Mono.bytes _ _) hc9
          clear hc9 hs9 h8
          have hjq : j ≤ vqB := by omega
          have hTq : T ≤ vqB := by omega
          go_upto_region 17 with fail
          go_wp2_with fail
          refine (Calls.sV h9 (sum32_any _ _ _ (h9.is 0 rfl))).mono ?_
          rintro en w10 ⟨rfl, h10⟩
          obtain ⟨r, hr⟩ : ∃ r, Crc.ext 0#32 C = r := ⟨_, rfl⟩
          rw [hr]
          have HR := Lib.hid hr
          clear h9 hr
          have hwT : IntKind.i64.wrap ((T : Int) + 4) = ((T + 4 : Nat) : Int) := by rw [IntKind.wrap_i64]; omega
          have hXl : ((B.drop T).take 4).length = 4 := by rw [List.length_take, List.length_drop, hBl]; omega
          obtain ⟨y0, y1, y2, y3, hX⟩ := four_of hXl
          have hrg := bytes_range (h10.is 1 rfl)
          rw [hX] at hrg
          obtain ⟨bq, hbq⟩ : ∃ b, (!(((y0.toNat : Int) == (r.toNat : Int) % 256) && (((y1.toNat : Int) == (r.toNat : Int) / 256 % 256) && (((y2.toNat : Int) == (r.toNat : Int) / 65536 % 256) && ((y3.toNat : Int) == (r.toNat : Int) / 16777216))))) = b := ⟨_, rfl⟩
          have hcmp := sum4_cmp y0 y1 y2 y3 r
          rw [hbq, ← hX] at hcmp
          have hbx := HBX2.out
          rw [show Wire.sumOf C = r from HR.out] at hbx
          have HBQ := Lib.hid hbq
          have HCMP := Lib.hid hcmp
          have HBX := Lib.hid hbx
          clear hbq hcmp hX hXl HBX2 hbx
          go_upto_if 108 with (first | (refine wpList_arr rfl 115 (.tmp 93) rfl 4 _ Try.underlying115 (some ⟨gB, T, none⟩) (T + 4 - T) (vqB - T) rfl (by omega) ?_) | (refine wpList_load_mid rfl 115 (.tmp 94) rfl gB T rfl [u8v y0, u8v y1, u8v y2, u8v y3] _ hrg Try.underlying115 rfl arr4_info ?_) | (refine wpList_neq4 rfl (.tmp 95) (.tmp 107) rfl rfl rfl bq HBQ.out ?_))
          have c0 := (h10.is 5 rfl : IsCells _ _ _).c4.1
          have c1 := (h10.is 4 rfl : IsCells _ _ _) 0 _ rfl
          clear hrg HBQ
          cases bq with
          | true =>
            have hbx := HBX.out
            rw [if_pos (of_decide_eq_true HCMP.out.symm)] at hbx
            have hbb := hbx
            cases hbb
            go_wp2_with fail
            refine (Calls.sV h10 (bad_any _ 40 p (w.heap.size + 1) c1)).mono ?_
            rintro en w9 ⟨rfl, h9⟩
            have h10 := h9.setRow (os1 := []) (cs' := #[.int .i64 p, .int .i64 0, .slice none 0 0, .int .i64 40])
            simp only [btV]
            go_wp2_with (refine wpList_store_row rfl 101 (.tmp 6) (.tmp 110) rfl (w.heap.size + 1 + 1) #[.int .i64 p, .int .i64 0, .slice none 0 0, .int .i64 40] rfl rfl 101 _ (h9.at_ 0 rfl) batch_info rfl (bt_one _ _ _ _ _ _) ?_)
            exact bodyPost_ret (results_cell_row rfl _ _ (w.heap.size + 1 + 1) 101 _ (0, 0) _ rfl (h10.at_ 0 rfl) Try.underlying101 rfl batch_info) rfl ⟨_, rfl, lists_nil _, h10.below⟩
          | false =>
            have hbx := HBX.out
            rw [if_neg (of_decide_eq_false HCMP.out.symm)] at hbx
            clear HBX HCMP
            go_upto_region 21 with fail
            have h11 := (h10.facts (fs' := [(IsBytes · (.slice (some ⟨gB, j, none⟩) (T - j) (vqB - j)) C), IsCells (w.heap.size + 1) #[.int .i64 p]]) (fun P hP => by simp only [List.mem_cons, List.not_mem_nil, or_false] at hP ⊢; rcases hP with rfl | rfl <;> simp)).alloc (.cells #[.int .i64 p, .int .i64 M, .slice none 0 0, .int .i64 0] 101)
            clear h10 c0 c1
            generalize World.alloc _ _ = W11 at h11 ⊢
            generalize w10.heap.size = g19 at h11 ⊢
            obtain ⟨⟨ln, lx, le⟩, hl0⟩ : ∃ u, Wire.readU C 0 = u := ⟨_, rfl⟩
            have hln := readU_lt C 0
            have hlb := readU_bd (l := C)
            rw [hl0] at hln hlb
            have hln : ln < 2 ^ 64 := hln
            have HLB := Lib.hid hlb
            have HL0 := Lib.hid hl0
            clear hl0 hlb
            go_wp2_with fail
            refine (Calls.sV h11 (readUint_any _ _ C 0 (h11.is 0 rfl))).mono ?_
            rintro en w12 ⟨rfl, h12⟩
            rw [HL0.out]
            clear h11
            obtain ⟨LR, hLR⟩ : ∃ LR, (if le = 0 then Wl.loop C ln lx [] else ([], lx, le)) = LR := ⟨_, rfl⟩
            have hparts : Wl.got M (if le = 0 ∧ LR.2.2 = 0 ∧ LR.2.1 = (C.length : Int) then some LR.1 else none) = (m, rs, c) := by
              rw [← hbx]
              unfold Wl.parts
              rw [HL0.out]
              by_cases hle : le = 0
              · rw [if_pos hle] at hLR
                simp only [hle, true_and, hLR]
              · simp only [hle, false_and, if_false]
            have HPT := Lib.hid hparts
            have HLR := Lib.hid hLR
            clear hbx hparts hLR
            go_wp2_with fail
            go_loopw [11, 20, 21, 22] (fun ev lv xv _ wr => ∃ (k : Nat) (x ee : Int) (acc : List (List UInt8)) (N : Nat) (xs : List Value) (oo : List (Nat × Obj)) (vb : Option Addr) (vq : Nat), k < 2 ^ 64 ∧ ev = .int .i64 ee ∧ lv = .int .u64 k ∧ xv = .int .i64 x ∧ (if ee = 0 then Wl.loop C k x acc else (acc, x, ee)) = LR ∧ (ee = 0 → ∃ y : Nat, x = (y : Int) ∧ N ≤ y ∧ y ≤ un) ∧ acc.length = N ∧ N ≤ 524416 ∧ OwnP 42 1 (.slice vb N vq) N xs oo ∧ St w wr (oo ++ [(g19, Obj.cells #[.int .i64 p, .int .i64 M, .slice vb N vq, .int .i64 0] 101 (0, 0)), (w.heap.size + 1 + 1, Obj.cells #[.int .i64 0, .int .i64 0, .slice none 0 0, .int .i64 0] 101 (0, 0))]) [(fun x => Elems 1 rdB (mask S x) xs acc), (IsBytes · (.slice (some ⟨gB, j, none⟩) (T - j) (vqB - j)) C), IsCells (w.heap.size + 1) #[.int .i64 p]]) (fun _ lv _ _ _ => (intOf lv).toNat)
            case atStart =>
              refine ⟨ln, lx, le, [], 0, [], [], none, 0, hln, rfl, rfl, rfl, HLR.out, fun h => ?_, rfl, by omega, ⟨by simp, .inl ⟨rfl, rfl, rfl⟩⟩, h12.put (Mono.elemsOff _ _) Elems.nil⟩
              obtain ⟨y, h1, h2⟩ := HLB.out h
              exact ⟨y, h1, by omega, by rw [HCL.out] at h2; exact h2⟩
            case round =>
              clear h12
              obtain ⟨k, x, ee, acc, N, xs, oo, vb, vq, hk64, rfl, rfl, rfl, hlp, hxy, hacc, hN5, ho, hst⟩ := hrel
              have HLP := Lib.hid hlp
              have HXY := Lib.hid hxy
              have HAC := Lib.hid hacc
              clear hlp hxy hacc
              have d19 := cellF (j := 2) (hst.find (g := g19) (o := Obj.cells #[.int .i64 p, .int .i64 M, .slice vb N vq, .int .i64 0] 101 (0, 0)) (by simp)) rfl
              have c1 := (hst.is 2 rfl : IsCells _ _ _) 0 _ rfl
              by_cases hgo : 0 < k ∧ ee = 0
              · obtain ⟨hk0, rfl⟩ := hgo
                obtain ⟨k', rfl⟩ : ∃ k', k = k' + 1 := ⟨k - 1, by omega⟩
                have hki : (0 : Int) < ((k' + 1 : Nat) : Int) := by omega
                obtain ⟨⟨s, nx, er⟩, hrt⟩ : ∃ u, Wire.readT C x = u := ⟨_, rfl⟩
                have hbd := readT_bd hrt
                have hlp := HLP.out
                rw [if_pos rfl, Wl.loop, hrt] at hlp
                rw [HCL.out] at hbd
                have HBD := Lib.hid hbd
                have HRT := Lib.hid hrt
                have HLP2 := Lib.hid hlp
                clear hrt hlp hbd HLP
                go_wp2_with fail
                refine (Calls.sV hst (readText_any _ _ C x (hst.is 1 rfl))).mono ?_
                rintro en w13 ⟨rfl, h13⟩
                rw [HRT.out]
                clear hst d19 c1
                obtain ⟨X, hX⟩ : ∃ X : ByteArray, ⟨s.toArray⟩ = X := ⟨_, rfl⟩
                have hXs : X.size = s.length := by rw [← hX]; rfl
                have hXd : X.data.toList = s := by rw [← hX]
                simp only [hX]
                have HX := Lib.hid (And.intro hXs hXd)
                clear hX hXs hXd
                obtain ⟨cx, wt, hcv, hcc, hbx, hbt⟩ := run_strBytes (P := Try.prog) w13 9 42 5 X Try.underlying9 Try.underlying42 Try.underlying5 (by rw [HX.out.1]; have := HBD.out.1; unfold maxLen; omega)
                rw [HX.out.2] at hbx
                have h14 := h13.putNew hS hbt (Nat.le_refl _) hbx
                have h15 := h14.alloc (.cells #[.slice (some ⟨w13.heap.size, 0, none⟩) X.size cx] 42)
                have h16 := h15.shut
                have d19 := cellF (j := 2) (h13.find (g := g19) (o := Obj.cells #[.int .i64 p, .int .i64 M, .slice vb N vq, .int .i64 0] 101 (0, 0)) (by simp)) rfl
                have hwu : IntKind.u64.wrap ((k' : Int) + 1 - 1) = (k' : Int) := by show ((k' : Int) + 1 - 1) % 18446744073709551616 = _; omega
                have hwu2 : IntKind.u64.wrap (((k' + 1 : Nat) : Int) - 1) = (k' : Int) := by show (((k' + 1 : Nat) : Int) - 1) % 18446744073709551616 = _; omega
                go_upto_region 23 with (first | (rw [hcv]) | (at_builtin; go_loud (refine wpList_append_any' rfl (.tmp 136) (.tmp 139) 22 22 rfl w.heap.size 42 (.slice none 0 0) 1 24 Try.underlying22 slice_info rfl _ N xs rfl (ho.owns h16) _ 1 [.slice (some ⟨w13.heap.size, 0, none⟩) X.size cx] rfl (Src.row Try.underlying22 (IsRow.block (n := 1) (xs := [.slice (some ⟨w13.heap.size, 0, none⟩) X.size cx]) (h15.at_ 0 rfl) rfl (by unfold maxLen; omega)) (fun u hu => by simp only [List.mem_cons, List.not_mem_nil, or_false] at hu; subst hu; rfl)) (by omega) (by unfold maxLen; omega) h16.size ?_); intro v' w' r1 r2 r3; obtain ⟨oo2, k17, h17⟩ := ho.append h16 r1 r2 r3; obtain ⟨vb2, vq2, rfl⟩ := own_slice r1; obtain ⟨z0, zf0⟩ := cellF (j := 2) (h17.find (g := g19) (o := Obj.cells #[.int .i64 p, .int .i64 M, .slice vb N vq, .int .i64 0] 101 (0, 0)) (by simp)) rfl))
                have h18 := St.setCell (os1 := oo2) (i := 2) (v := .slice vb2 (N + 1) vq2) h17
                have h19 := h18.put (Mono.elemsOff (S := S) _ _) (Elems.append (h18.get 2 rfl) (Elems.one (a := s) rfl ⟨_, rfl, h18.get 1 rfl⟩))
                clear h13 h14 h15 h16 h17 h18 hbt hbx hcv d19 z0 zf0 r1 r2 r3
                go_wp2_with fail
                go_roundw
                case rel =>
                  refine ⟨k', nx, er, acc ++ [s], N + 1, _, oo2, vb2, vq2, by omega, rfl, by go_num, rfl, ?_, fun h => ?_, by rw [List.length_append, HAC.out]; rfl, ?_, k17, h19.facts (fun P hP => by simp only [List.mem_cons, List.not_mem_nil, or_false] at hP ⊢; rcases hP with rfl | rfl | rfl <;> simp)⟩
                  · exact HLP2.out
                  · obtain ⟨jj, mm, e1, e2, h1, h2⟩ := HBD.out.2 h
                    obtain ⟨y, e3, h3, h4⟩ := HXY.out (by simp)
                    exact ⟨mm, e2, by omega, by omega⟩
                  · obtain ⟨y, e3, h3, h4⟩ := HXY.out (by simp)
                    omega
                case measure => simp [intOf]
              · have hLRe : LR = (acc, x, ee) := by
                  rw [← HLP.out]
                  by_cases hee : ee = 0
                  · obtain rfl : k = 0 := by
                      rcases Nat.eq_zero_or_pos k with h | h
                      · exact h
                      · exact absurd ⟨h, hee⟩ hgo
                    subst hee
                    rfl
                  · rw [if_neg hee]
                have hpt := HPT.out
                rw [hLRe] at hpt
                simp only at hpt
                have hLE := HLR.out
                rw [hLRe] at hLE
                by_cases hee : ee = 0
                · subst hee
                  obtain rfl : k = 0 := by
                    rcases Nat.eq_zero_or_pos k with h | h
                    · exact h
                    · exact absurd ⟨h, rfl⟩ hgo
                  have hle : le = 0 := by
                    by_cases h : le = 0
                    · exact h
                    · rw [if_neg h] at hLE
                      exact (congrArg (fun u : List (List UInt8) × Int × Int => u.2.2) hLE)
                  have hrow := (ho.owns hst)
                  have h20 := ho.done hst
                  have hTj : T - j = un := by have := HT.out; omega
                  by_cases hx : x = ((T - j : Nat) : Int)
                  · rw [if_pos ⟨hle, rfl, by rw [HCL.out, ← hTj]; exact hx⟩] at hpt
                    simp only [Wl.got] at hpt
                    obtain ⟨rfl, rfl, rfl⟩ : M = m ∧ acc = rs ∧ (0 : Int) = c := by cases hpt; exact ⟨rfl, rfl, rfl⟩
                    subst hx
                    have h21 := h20.setRow (os1 := [_]) (cs' := #[.int .i64 p, .int .i64 M, .slice vb N vq, .int .i64 0])
                    clear d19 hgo hLRe hpt hLE
                    go_wp2_with (first | (refine wpList_load_row rfl 101 (.tmp 19) rfl g19 rfl 101 _ (0, 0) _ (h20.at_ 0 rfl) Try.underlying101 rfl batch_info ?_) | (refine wpList_store_row rfl 101 (.tmp 6) (.tmp 152) rfl (w.heap.size + 1 + 1) #[.int .i64 p, .int .i64 M, .slice vb N vq, .int .i64 0] rfl rfl 101 _ (h20.at_ 1 rfl) batch_info rfl (bt_one _ _ _ _ _ _) ?_))
                    have hgeq := fun kk hk => (World.ownsRow.lt hrow kk hk).1
                    refine bodyPost_ret (results_cell_row rfl _ _ (w.heap.size + 1 + 1) 101 _ (0, 0) _ rfl (h21.at_ 1 rfl) Try.underlying101 rfl batch_info) rfl ⟨.slice vb N vq, rfl, lists_of (mask_row (h21.is 0 rfl) fun kk hk => ?_) (h21.is 1 rfl) HAC.out.symm, h21.below⟩
                    cases hq : S kk with
                    | false => rfl
                    | true => have := hS kk hq; have := hgeq kk hk; omega
                  · have hxne := bne_of hx
                    rw [if_neg (fun h => hx (by have := h.2.2; rw [HCL.out, ← hTj] at this; exact this))] at hpt
                    simp only [Wl.got] at hpt
                    have hbd := h20.loose (os1 := [])
                    clear h20 d19 hgo hLRe hLE
                    have hbb := hpt
                    cases hbb
                    go_wp2_with fail
                    refine (Calls.sV hbd (bad_any _ 3 p (w.heap.size + 1) c1)).mono ?_
                    rintro en w9 ⟨rfl, h9⟩
                    have h10 := h9.setRow (os1 := []) (cs' := #[.int .i64 p, .int .i64 0, .slice none 0 0, .int .i64 3])
                    simp only [btV]
                    go_wp2_with (refine wpList_store_row rfl 101 (.tmp 6) (.tmp 151) rfl (w.heap.size + 1 + 1) #[.int .i64 p, .int .i64 0, .slice none 0 0, .int .i64 3] rfl rfl 101 _ (h9.at_ 0 rfl) batch_info rfl (bt_one _ _ _ _ _ _) ?_)
                    exact bodyPost_ret (results_cell_row rfl _ _ (w.heap.size + 1 + 1) 101 _ (0, 0) _ rfl (h10.at_ 0 rfl) Try.underlying101 rfl batch_info) rfl ⟨_, rfl, lists_nil _, h10.below⟩
                · have hee1 := bne_of hee
                  have hee2 := beq_of hee
                  rw [if_neg (fun h => hee h.2.1)] at hpt
                  simp only [Wl.got] at hpt
                  have hbd := (ho.done hst).loose (os1 := [])
                  clear d19 hgo hLRe hLE hst ho
                  by_cases hk0 : k = 0
                  · subst hk0
                    have hbb := hpt
                    cases hbb
                    go_wp2_with fail
                    refine (Calls.sV hbd (bad_any _ 3 p (w.heap.size + 1) c1)).mono ?_
                    rintro en w9 ⟨rfl, h9⟩
                    have h10 := h9.setRow (os1 := []) (cs' := #[.int .i64 p, .int .i64 0, .slice none 0 0, .int .i64 3])
                    simp only [btV]
                    go_wp2_with (refine wpList_store_row rfl 101 (.tmp 6) (.tmp 151) rfl (w.heap.size + 1 + 1) #[.int .i64 p, .int .i64 0, .slice none 0 0, .int .i64 3] rfl rfl 101 _ (h9.at_ 0 rfl) batch_info rfl (bt_one _ _ _ _ _ _) ?_)
                    exact bodyPost_ret (results_cell_row rfl _ _ (w.heap.size + 1 + 1) 101 _ (0, 0) _ rfl (h10.at_ 0 rfl) Try.underlying101 rfl batch_info) rfl ⟨_, rfl, lists_nil _, h10.below⟩
                  · have hki : (0 : Int) < (k : Int) := by omega
                    have hbb := hpt
                    cases hbb
                    go_wp2_with fail
                    refine (Calls.sV hbd (bad_any _ 3 p (w.heap.size + 1) c1)).mono ?_
                    rintro en w9 ⟨rfl, h9⟩
                    have h10 := h9.setRow (os1 := []) (cs' := #[.int .i64 p, .int .i64 0, .slice none 0 0, .int .i64 3])
                    simp only [btV]
                    go_wp2_with (refine wpList_store_row rfl 101 (.tmp 6) (.tmp 151) rfl (w.heap.size + 1 + 1) #[.int .i64 p, .int .i64 0, .slice none 0 0, .int .i64 3] rfl rfl 101 _ (h9.at_ 0 rfl) batch_info rfl (bt_one _ _ _ _ _ _) ?_)
                    exact bodyPost_ret (results_cell_row rfl _ _ (w.heap.size + 1 + 1) 101 _ (0, 0) _ rfl (h10.at_ 0 rfl) Try.underlying101 rfl batch_info) rfl ⟨_, rfl, lists_nil _, h10.below⟩
end Go.Proofs.Ytnfgapdpnihicaa
