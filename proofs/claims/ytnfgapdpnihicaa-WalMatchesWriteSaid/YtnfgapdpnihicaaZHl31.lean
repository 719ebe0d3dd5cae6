/- The walks over the helpers of chapter 31's laws and references: Bytes, Same, small, whole, place. -/
import Derived.Test.YtnfgapdpnihicaaZWh31
import Derived.Test.YtnfgapdpnihicaaZR4A
import Derived.BigQuiet
set_option linter.unusedVariables false
set_option linter.unusedSimpArgs false
namespace Go.Proofs.Ytnfgapdpnihicaa
open Go Go.RowKit

/-- The sum of lengths, as the program's numbers go. -/
def sumB (a : Int) (l : List (List UInt8)) : Int := l.foldl (fun x r => IntKind.i64.wrap (x + (r.length : Int))) a
theorem sumB_step {a : Int} {l : List (List UInt8)} {k : Nat} (h : k < l.length) : sumB a (l.take (k + 1)) = IntKind.i64.wrap (sumB a (l.take k) + (l[k].length : Int)) := by
  unfold sumB
  rw [← List.take_append_getElem h, List.foldl_append]
  rfl
theorem sumB_plain : ∀ (l : List (List UInt8)) (a : Nat), a + (l.map List.length).sum ≤ 9223372036854775807 → sumB a l = ((a + (l.map List.length).sum : Nat) : Int)
  | [], a, _ => by simp [sumB]
  | r :: l, a, h => by
    simp only [List.map_cons, List.sum_cons] at h ⊢
    have hw : IntKind.i64.wrap ((a : Int) + (r.length : Int)) = ((a + r.length : Nat) : Int) := by rw [IntKind.wrap_i64]; omega
    have := sumB_plain l (a + r.length) (by omega)
    unfold sumB at this ⊢
    rw [List.foldl_cons, hw, this]
    omega
set_option maxRecDepth 8000 in
set_option maxHeartbeats 2000000 in
theorem refBytes_any (w : World) (v : Value) (d : Dk) (hv : IsDk w v d) (rv : Value) (rs : List (List UInt8)) (hr : IsLists w rv rs) :
    Calls Try.prog 40 #[v, rv] w fun e w' => e = .returned (.int .i64 (sumB (sumB 0 d.sec) rs)) ∧ Below w.heap.size w w' := by
  obtain ⟨sv, rfl, hl⟩ := hv
  obtain ⟨bs, q, rfl, hq1, hq2, -, -⟩ := hl.out
  obtain ⟨rb, rq, rfl, hr1, hr2, -, -⟩ := id hr.out
  unfold maxLen at hq2 hr2
  simp only [dkV]
  obtain ⟨sec, left, tear, st⟩ := d
  simp only at *
  obtain ⟨n, hn⟩ : ∃ n, sec.length = n := ⟨_, rfl⟩
  obtain ⟨m, hm⟩ : ∃ n, rs.length = n := ⟨_, rfl⟩
  rw [hn] at hl hq1 ⊢
  rw [hm] at hr hr1 ⊢
  have HN := Lib.hid hn
  have HM := Lib.hid hm
  have h1 := ((((St.start w).putOld (P := (IsLists · (.slice rb m rq) rs)) (Mono.lists _ _) hr).putOld (P := (IsLists · (.slice bs n q) sec)) (Mono.lists _ _) hl).alloc (.cells #[.slice bs n q, .int .i64 left, .int .i64 tear, .bool st] 24)).shut
  have hb1 := h1.below
  obtain ⟨c0, c1, c2, c3⟩ := (h1.is 0 rfl : IsCells _ _ _).c4
  obtain ⟨_, _, e, -, -, -, hat⟩ := (h1.is 1 rfl : IsLists _ _ _).out
  rw [hn] at e
  cases e
  obtain ⟨_, _, e, -, -, -, hat2⟩ := (h1.is 2 rfl : IsLists _ _ _).out
  rw [hm] at e
  cases e
  have HAT := Lib.hid hat
  have HAT2 := Lib.hid hat2
  clear hl hr h1 hat hat2 hn hm
  go_enter Try.func40, Try.ntmps40
  go_wp2_with fail
  generalize World.alloc w _ = W1 at *
  go_loopw [5, 6] (fun nv iv wr => ∃ k : Nat, k ≤ n ∧ iv = .int .i64 k ∧ nv = .int .i64 (sumB 0 (sec.take k)) ∧ Hid (wr = W1)) (fun _ iv _ => n - (intOf iv).toNat)
  case atStart => exact ⟨0, by omega, rfl, rfl, Lib.hid rfl⟩
  case round =>
    obtain ⟨k, hk, rfl, rfl, hwr⟩ := hrel
    have hwr := hwr.out
    subst wr
    by_cases hlt : k < n
    · have hks : k < sec.length := by rw [HN.out]; exact hlt
      obtain ⟨bb, off, u, e0, hx, hbb⟩ := HAT.out k hks
      subst e0
      obtain ⟨_, _, e2, -⟩ := hbb.out
      subst e2
      have hst := sumB_step (a := 0) hks
      obtain ⟨L, hL⟩ : ∃ x, (sec[k]).length = x := ⟨_, rfl⟩
      rw [hL] at hx hst
      obtain ⟨x, hxx⟩ : ∃ x, sumB 0 (sec.take k) = x := ⟨_, rfl⟩
      rw [hxx] at hst ⊢
      have HST := Lib.hid hst
      clear hst hxx hbb hL hks
      go_wp2_with fail
      go_roundw
      case rel => exact ⟨k + 1, by omega, by go_num, by rw [HST.out, IntKind.wrap_i64]; first | rfl | (unfold wrap64; rfl), by first | exact Lib.hid rfl | exact Lib.hid trivial⟩
      case measure => simp [intOf]; omega
    · obtain rfl : n = k := by omega
      rw [show sec.take n = sec by rw [← HN.out, List.take_length]]
      obtain ⟨a, ha⟩ : ∃ x, sumB 0 sec = x := ⟨_, rfl⟩
      rw [ha]
      have HAA : Hid (a = sumB 0 sec) := Lib.hid ha.symm
      clear hlt hk ha HAT
      go_wp2_with fail
      go_loopw [5, 7] (fun nv iv wr => ∃ k : Nat, k ≤ m ∧ iv = .int .i64 k ∧ nv = .int .i64 (sumB a (rs.take k)) ∧ Hid (wr = W1)) (fun _ iv _ => m - (intOf iv).toNat)
      case atStart => exact ⟨0, by omega, rfl, rfl, Lib.hid rfl⟩
      case round =>
        obtain ⟨k, hk, rfl, rfl, hwr⟩ := hrel
        have hwr := hwr.out
        subst wr
        by_cases hlt : k < m
        · have hks : k < rs.length := by rw [HM.out]; exact hlt
          obtain ⟨bb, off, u, e0, hx, hbb⟩ := HAT2.out k hks
          subst e0
          obtain ⟨_, _, e2, -⟩ := hbb.out
          subst e2
          have hst := sumB_step (a := a) hks
          obtain ⟨L, hL⟩ : ∃ x, (rs[k]).length = x := ⟨_, rfl⟩
          rw [hL] at hx hst
          obtain ⟨x, hxx⟩ : ∃ x, sumB a (rs.take k) = x := ⟨_, rfl⟩
          rw [hxx] at hst ⊢
          have HST := Lib.hid hst
          clear hst hxx hbb hL hks
          go_wp2_with fail
          go_roundw
          case rel => exact ⟨k + 1, by omega, by go_num, by rw [HST.out, IntKind.wrap_i64]; first | rfl | (unfold wrap64; rfl), by first | exact Lib.hid rfl | exact Lib.hid trivial⟩
          case measure => simp [intOf]; omega
        · obtain rfl : m = k := by omega
          rw [show rs.take m = rs by rw [← HM.out, List.take_length]]
          clear HAT2 hlt hk
          go_wp2_with fail
          go_ret
          rw [show sumB 0 sec = a from HAA.out.symm]
          exact ⟨rfl, hb1⟩
/-- Whether a disk and records are small. -/
def smallB (d : Dk) (rs : List (List UInt8)) : Bool := decide (sumB (sumB 0 d.sec) rs ≤ 40000 ∧ d.sec.length ≤ 200 ∧ rs.length ≤ 200)
theorem len_le_sum : ∀ (l : List (List UInt8)), ∀ r ∈ l, r.length ≤ (l.map List.length).sum
  | [], r, h => by cases h
  | x :: l, r, h => by
    rw [List.map_cons, List.sum_cons]
    rcases List.mem_cons.1 h with rfl | h
    · omega
    · have := len_le_sum l r h; omega
theorem sum_le_mul (m : Nat) : ∀ (l : List (List UInt8)), (∀ r ∈ l, r.length ≤ m) → (l.map List.length).sum ≤ l.length * m
  | [], _ => by simp
  | x :: l, h => by
    rw [List.map_cons, List.sum_cons, List.length_cons, Nat.succ_mul]
    have := sum_le_mul m l fun r hr => h r (List.mem_cons_of_mem _ hr)
    have := h x (List.mem_cons_self ..)
    omega
theorem smallB_use {d : Dk} {rs : List (List UInt8)} (h : smallB d rs = true) (hd : ∀ s ∈ d.sec, s.length ≤ 140737488355328) (hr : ∀ r ∈ rs, r.length ≤ 140737488355328) : d.sec.length ≤ 200 ∧ rs.length ≤ 200 ∧ (rs.map List.length).sum ≤ 40000 ∧ ∀ r ∈ rs, r.length ≤ 40000 := by
  unfold smallB at h
  rw [decide_eq_true_eq] at h
  obtain ⟨h1, h2, h3⟩ := h
  have e1 := sum_le_mul _ _ hd
  have e2 := sum_le_mul _ _ hr
  have e3 : d.sec.length * 140737488355328 ≤ 200 * 140737488355328 := Nat.mul_le_mul_right _ h2
  have e4 : rs.length * 140737488355328 ≤ 200 * 140737488355328 := Nat.mul_le_mul_right _ h3
  have s1 := sumB_plain d.sec 0 (by omega)
  rw [show ((0 : Nat) : Int) = 0 from rfl] at s1
  rw [s1, sumB_plain rs _ (by omega)] at h1
  have h5 : (rs.map List.length).sum ≤ 40000 := by omega
  exact ⟨h2, h3, h5, fun r hr2 => Nat.le_trans (len_le_sum _ r hr2) h5⟩
set_option maxHeartbeats 1000000 in
theorem smallL_any (w : World) (v : Value) (d : Dk) (hv : IsDk w v d) (rv : Value) (rs : List (List UInt8)) (hr : IsLists w rv rs) :
    Calls Try.prog 13 #[v, rv] w fun e w' => e = .returned (.bool (smallB d rs)) ∧ Below w.heap.size w w' := by
  obtain ⟨R, hR⟩ : ∃ R, smallB d rs = R := ⟨_, rfl⟩
  rw [hR]
  unfold smallB at hR
  have hv' := hv
  obtain ⟨sv, rfl, hl⟩ := hv
  obtain ⟨bs, q, rfl, hq1, hq2, -, -⟩ := hl.out
  obtain ⟨rb, rq, rfl, hr1, hr2, -, -⟩ := id hr.out
  unfold maxLen at hq2 hr2
  simp only [dkV] at hv' ⊢
  obtain ⟨n, hn⟩ : ∃ n, d.sec.length = n := ⟨_, rfl⟩
  obtain ⟨m, hm⟩ : ∃ n, rs.length = n := ⟨_, rfl⟩
  rw [hn] at hv' hq1 hR ⊢
  rw [hm] at hr hr1 hR ⊢
  have h1 := ((((St.start w).putOld (P := (IsLists · (.slice rb m rq) rs)) (Mono.lists _ _) hr).putOld (Mono.dk _ _) hv').alloc (.cells #[.slice bs n q, .int .i64 d.left, .int .i64 d.tear, .bool d.stopped] 24)).shut
  obtain ⟨s, hs⟩ : ∃ s, sumB (sumB 0 d.sec) rs = s := ⟨_, rfl⟩
  have hby := refBytes_any _ _ d (h1.is 1 rfl) _ rs (h1.is 2 rfl)
  rw [hs] at hR hby
  have HBY := Lib.hid hby
  have HR := Lib.hid hR
  clear hv' hl hr hn hm hs hby hR
  generalize d.left = left at *
  generalize d.tear = tear at *
  generalize d.stopped = st at *
  obtain ⟨c0, c1, c2, c3⟩ := (h1.is 0 rfl : IsCells _ _ _).c4
  go_enter Try.func13, Try.ntmps13
  go_wp2_with fail
  refine (Calls.sV h1 HBY.out).mono ?_
  rintro e w2 ⟨rfl, h2⟩
  have hb2 := h2.below
  clear c0 c1 c2 c3 h1 HBY
  obtain ⟨c0, c1, c2, c3⟩ := (h2.is 0 rfl : IsCells _ _ _).c4
  clear h2
  have hr := HR.out
  by_cases k1 : s ≤ 40000
  · by_cases k2 : n ≤ 200
    · have i2 : (n : Int) ≤ 200 := by omega
      by_cases k3 : m ≤ 200
      · have i3 : (m : Int) ≤ 200 := by omega
        obtain rfl : true = R := by rw [← hr]; exact (decide_eq_true ⟨k1, k2, k3⟩).symm
        clear hr HR
        go_wp2_with fail
        go_ret
        exact ⟨rfl, hb2⟩
      · have i3 : ¬ (m : Int) ≤ 200 := by omega
        obtain rfl : false = R := by rw [← hr]; exact (decide_eq_false fun h => k3 h.2.2).symm
        clear hr HR
        go_wp2_with fail
        go_ret
        rw [show decide ((m : Int) ≤ 200) = false from decide_eq_false (by omega)]
        exact ⟨rfl, hb2⟩
    · have i2 : ¬ (n : Int) ≤ 200 := by omega
      obtain rfl : false = R := by rw [← hr]; exact (decide_eq_false fun h => k2 h.2.1).symm
      clear hr HR
      go_wp2_with fail
      go_ret
      exact ⟨rfl, hb2⟩
  · obtain rfl : false = R := by rw [← hr]; exact (decide_eq_false fun h => k1 h.1).symm
    clear hr HR
    go_wp2_with fail
    go_ret
    exact ⟨rfl, hb2⟩
set_option maxRecDepth 8000 in
set_option maxHeartbeats 2000000 in
/-- Two lists of records are compared. -/
theorem sameL_any (w : World) (va vb : Value) (a b : List (List UInt8)) (ha : IsLists w va a) (hb : IsLists w vb b) :
    Calls Try.prog 18 #[va, vb] w fun e w' => e = .returned (.bool (decide (a = b))) ∧ Below w.heap.size w w' := by
  obtain ⟨R, hR⟩ : ∃ R, decide (a = b) = R := ⟨_, rfl⟩
  rw [hR]
  have HR := Lib.hid hR
  clear hR
  have HA := Lib.hid ha
  have HB := Lib.hid hb
  obtain ⟨ab, aq, rfl, ha1, ha2, -, hat⟩ := ha.out
  obtain ⟨bb, bq, rfl, hb1, hb2, -, hat2⟩ := hb.out
  unfold maxLen at ha2 hb2
  obtain ⟨n, hn⟩ : ∃ n, a.length = n := ⟨_, rfl⟩
  obtain ⟨m, hm⟩ : ∃ n, b.length = n := ⟨_, rfl⟩
  rw [hn] at ha1 ⊢
  rw [hm] at hb1 ⊢
  have HN := Lib.hid hn
  have HM := Lib.hid hm
  have HAT := Lib.hid hat
  have HAT2 := Lib.hid hat2
  clear ha hb hat hat2 hn hm
  go_enter Try.func18, Try.ntmps18
  by_cases hnm : n = m
  · subst hnm
    go_wp2_with fail
    go_loopw [5] (fun iv wr => ∃ k : Nat, k ≤ n ∧ iv = .int .i64 k ∧ Hid (∀ j (hj : j < a.length) (hj2 : j < b.length), j < k → a[j] = b[j]) ∧ Below w.heap.size w wr) (fun iv _ => n - (intOf iv).toNat)
    case atStart => exact ⟨0, by omega, rfl, Lib.hid (fun j _ _ h => absurd h (by omega)), Below.refl _ _⟩
    case round =>
      obtain ⟨k, hk, rfl, HE, hbw⟩ := hrel
      by_cases hlt : k < n
      · have hka : k < a.length := by rw [HN.out]; exact hlt
        have hkb : k < b.length := by rw [HM.out]; exact hlt
        obtain ⟨b1, o1, u1, e1, x1, y1⟩ := HAT.out k hka
        obtain ⟨b2, o2, u2, e2, x2, y2⟩ := HAT2.out k hkb
        subst e1 e2
        obtain ⟨r, hr⟩ : ∃ r, decide (a[k] = b[k]) = r := ⟨_, rfl⟩
        have hcall := fun W u v (h1 : IsBytes W u a[k]) (h2 : IsBytes W v b[k]) => refSame_any W u v _ _ h1 h2
        rw [hr] at hcall
        have HCL := Lib.hid hcall
        have h0 := (((((St.start w).putOld (P := (IsBytes · u1 a[k])) (Mono.bytes _ _) y1).putOld (P := (IsBytes · u2 b[k])) (Mono.bytes _ _) y2).putOld (P := fun x => x.cell? ⟨b1, o1 + k, none⟩ = some u1) (Mono.cell _ _) x1).putOld (P := fun x => x.cell? ⟨b2, o2 + k, none⟩ = some u2) (Mono.cell _ _) x2).call hbw
        have HRR := Lib.hid hr
        clear hcall hr x1 x2 y1 y2
        go_wp2_with fail
        refine wp_region_st [pVal ?c6_0, pVal ?c6_1, pVal ?c6_2, pVal u1, pVal ?c6_4, pVal ?c6_5, pVal ?c6_6, pVal u2, pVal (.bool r), pVal ?c6_9] (osC []) 27 [0, 0, 3, 7, 0, 0, 48, 112, 255, 511] [[], [], [(1, 18), (0, 17)], [(2, 19)], [], [], [(5, 22), (4, 21)], [(6, 23)], [(7, 24), (3, 20)], [(8, 25)]] [(0, 17), (1, 18), (2, 19), (3, 20), (4, 21), (5, 22), (6, 23), (7, 24), (8, 25), (9, 26)] (by kernel_rfl) (by kernel_rfl) rfl rfl h0 osC0 osC1 ?ob ?en
        case ob =>
          refine ⟨?_, ?_, ?_, ?_, ?_, ?_, ?_, ?_, ?_, ?_, trivial⟩
          · -- 0: t17 := Op.move (t0)
            intro zx1 zx2 zx3 zx4 L V W hL hd hw hst 
            refine ob_c rfl ?_ hst rfl
            go_simp
            try with_reducible rfl
          · -- 1: t18 := Op.move (t5)
            intro zx1 zx2 zx3 zx4 L V W hL hd hw hst 
            refine ob_c rfl ?_ hst rfl
            go_simp
            try with_reducible rfl
          · -- 2: t19 := Op.indexAddr 22 (t17) (t18)
            intro zx1 zx2 zx3 zx4 L V W hL hd hw hst u0 e0 p0 u1 e1 p1
            obtain rfl : u0 = _ := p0
            obtain rfl : u1 = _ := p1
            refine ob_c rfl ?_ hst rfl
            go_simp
            try with_reducible rfl
          · -- 3: t20 := Op.load 42 (t19)
            intro zx1 zx2 zx3 zx4 L V W hL hd hw hst u2 e2 p2
            obtain rfl : u2 = _ := p2
            have hz := mask_is _ _ _ _ (hst.base 1 rfl : World.cell? _ _ = some _)
            refine ob_c rfl ?_ hst rfl
            go_simp
            try with_reducible rfl
          · -- 4: t21 := Op.move (t1)
            intro zx1 zx2 zx3 zx4 L V W hL hd hw hst 
            refine ob_c rfl ?_ hst rfl
            go_simp
            try with_reducible rfl
          · -- 5: t22 := Op.move (t5)
            intro zx1 zx2 zx3 zx4 L V W hL hd hw hst 
            refine ob_c rfl ?_ hst rfl
            go_simp
            try with_reducible rfl
          · -- 6: t23 := Op.indexAddr 22 (t21) (t22)
            intro zx1 zx2 zx3 zx4 L V W hL hd hw hst u4 e4 p4 u5 e5 p5
            obtain rfl : u4 = _ := p4
            obtain rfl : u5 = _ := p5
            refine ob_c rfl ?_ hst rfl
            go_simp
            try with_reducible rfl
          · -- 7: t24 := Op.load 42 (t23)
            intro zx1 zx2 zx3 zx4 L V W hL hd hw hst u6 e6 p6
            obtain rfl : u6 = _ := p6
            have hz := mask_is _ _ _ _ (hst.base 0 rfl : World.cell? _ _ = some _)
            refine ob_c rfl ?_ hst rfl
            go_simp
            try with_reducible rfl
          · -- 8: t25 := Op.call { callee := value (func 43), args := #[t20, t24], argTypes := #[42, 42] }
            intro zx1 zx2 zx3 zx4 L V W hL hd hw hst u3 e3 p3 u7 e7 p7
            obtain rfl : u3 = _ := p3
            obtain rfl : u7 = _ := p7
            refine ob_call rfl ?_ (Calls.pV' hst (HCL.out _ _ _ ((hst.base 3 rfl : IsBytes _ _ _).sub (mask_is _ _)) ((hst.base 2 rfl : IsBytes _ _ _).sub (mask_is _ _))))
            go_simp
            try rfl
          · -- 9: t26 := Op.unOp UnOp.not 4 (t25)
            intro zx1 zx2 zx3 zx4 L V W hL hd hw hst u8 e8 p8
            obtain rfl : u8 = _ := p8
            refine ob_c rfl ?_ hst rfl
            go_simp
            try with_reducible rfl
        case en =>
          intro V W hst u0 e0 p0 u1 e1 p1 u2 e2 p2 u3 e3 p3 u4 e4 p4 u5 e5 p5 u6 e6 p6 u7 e7 p7 u8 e8 p8 u9 e9 p9
          obtain rfl : u0 = _ := p0
          obtain rfl : u1 = _ := p1
          obtain rfl : u2 = _ := p2
          obtain rfl : u3 = _ := p3
          obtain rfl : u4 = _ := p4
          obtain rfl : u5 = _ := p5
          obtain rfl : u6 = _ := p6
          obtain rfl : u7 = _ := p7
          obtain rfl : u8 = _ := p8
          obtain rfl : u9 = _ := p9
          simp only [EndAll, Act.put, List.getElem_toArray, List.getElem_cons_succ, List.getElem_cons_zero, List.setIfInBounds_toArray, List.set_cons_zero, List.set_cons_succ]
          have hbw2 := hst.below
          clear hst h0 hbw
          cases r with
          | true =>
            have hab : a[k] = b[k] := of_decide_eq_true HRR.out
            have HE2 : Hid (∀ j (hj : j < a.length) (hj2 : j < b.length), j < k + 1 → a[j] = b[j]) := Lib.hid fun j hj hj2 hjk => by
              rcases Nat.lt_or_ge j k with h9 | h9
              · exact HE.out j hj hj2 h9
              · have : j = k := by omega
                subst this
                exact hab
            clear HE hab
            go_wp2_with fail
            go_roundw
            case rel => exact ⟨k + 1, by omega, by go_num, HE2, hbw2⟩
            case measure => simp [intOf]; omega
          | false =>
            have hab : ¬ a[k] = b[k] := of_decide_eq_false HRR.out
            obtain rfl : false = R := by rw [← HR.out]; exact (decide_eq_false fun h => hab (by subst h; rfl)).symm
            clear HE HR hab
            go_wp2_with fail
            go_ret
            exact ⟨rfl, hbw2⟩
      · obtain rfl : n = k := by omega
        have hab : a = b := List.ext_getElem (by rw [HN.out, HM.out]) fun j h1 h2 => HE.out j h1 h2 (by rw [HN.out] at h1; exact h1)
        obtain rfl : true = R := by rw [← HR.out]; exact (decide_eq_true hab).symm
        clear HE HR hab
        go_wp2_with fail
        go_ret
        exact ⟨rfl, hbw⟩
  · have hne : ((n : Int) != (m : Int)) = true := by rw [bne_iff_ne]; omega
    obtain rfl : false = R := by rw [← HR.out]; exact (decide_eq_false fun h => hnm (by rw [← HN.out, ← HM.out, h])).symm
    clear HR
    go_wp2_with fail
    go_ret
    exact ⟨rfl, Below.refl _ _⟩
/-- Whether a disk has so many sectors, all of the right size. -/
def wholeB (d : Dk) (n : Int) : Bool := decide ((∀ s ∈ d.sec, s.length = 128) ∧ (d.sec.length : Int) = n)
set_option maxRecDepth 8000 in
set_option maxHeartbeats 2000000 in
theorem whole_any (w : World) (v : Value) (d : Dk) (hv : IsDk w v d) (N : Int) :
    Calls Try.prog 32 #[v, .int .i64 N] w fun e w' => e = .returned (.bool (wholeB d N)) ∧ Below w.heap.size w w' := by
  obtain ⟨R, hR⟩ : ∃ R, wholeB d N = R := ⟨_, rfl⟩
  rw [hR]
  unfold wholeB at hR
  obtain ⟨sv, rfl, hl⟩ := hv
  obtain ⟨bs, q, rfl, hq1, hq2, -, -⟩ := hl.out
  unfold maxLen at hq2
  simp only [dkV]
  obtain ⟨sec, left, tear, st⟩ := d
  simp only at *
  have HR := Lib.hid hR
  obtain ⟨n, hn⟩ : ∃ n, sec.length = n := ⟨_, rfl⟩
  rw [hn] at hl hq1 ⊢
  have HN := Lib.hid hn
  have h1 := (((St.start w).putOld (P := (IsLists · (.slice bs n q) sec)) (Mono.lists _ _) hl).alloc (.cells #[.slice bs n q, .int .i64 left, .int .i64 tear, .bool st] 24)).shut
  have hb1 := h1.below
  obtain ⟨c0, c1, c2, c3⟩ := (h1.is 0 rfl : IsCells _ _ _).c4
  obtain ⟨_, _, e, -, -, -, hat⟩ := (h1.is 1 rfl : IsLists _ _ _).out
  rw [hn] at e
  cases e
  have HAT := Lib.hid hat
  clear hl h1 hat hn hR
  go_enter Try.func32, Try.ntmps32
  go_wp2_with fail
  generalize World.alloc w _ = W1 at *
  go_loopw [5] (fun iv wr => ∃ k : Nat, k ≤ n ∧ iv = .int .i64 k ∧ Hid (∀ j (h : j < sec.length), j < k → sec[j].length = 128) ∧ Hid (wr = W1)) (fun iv _ => n - (intOf iv).toNat)
  case atStart => exact ⟨0, by omega, rfl, Lib.hid (fun j _ h => absurd h (by omega)), Lib.hid rfl⟩
  case round =>
    obtain ⟨k, hk, rfl, HE, hwr⟩ := hrel
    have hwr := hwr.out
    subst wr
    by_cases hlt : k < n
    · have hks : k < sec.length := by rw [HN.out]; exact hlt
      obtain ⟨bb, off, u, e0, hx, hbb⟩ := HAT.out k hks
      subst e0
      obtain ⟨_, _, e2, -⟩ := hbb.out
      subst e2
      obtain ⟨L, hL⟩ : ∃ x, (sec[k]).length = x := ⟨_, rfl⟩
      rw [hL] at hx
      by_cases h128 : L = 128
      · have hall2 : Hid (∀ j (h : j < sec.length), j < k + 1 → sec[j].length = 128) := Lib.hid fun j hj hjk => by
          rcases Nat.lt_or_ge j k with h9 | h9
          · exact HE.out j hj h9
          · have : j = k := by omega
            subst this
            rw [hL, h128]
        subst h128
        clear HE hL hbb hks
        go_wp2_with fail
        go_roundw
        case rel => exact ⟨k + 1, by omega, by go_num, hall2, by first | exact Lib.hid rfl | exact Lib.hid trivial⟩
        case measure => simp [intOf]; omega
      · have h9 : ((L : Int) != 128) = true := by simp; omega
        obtain rfl : false = R := by rw [← HR.out]; exact (decide_eq_false fun h => h128 (by rw [← hL]; exact h.1 _ (List.getElem_mem hks))).symm
        clear HE hL hbb hks HR
        go_wp2_with fail
        go_ret
        exact ⟨rfl, hb1⟩
    · obtain rfl : n = k := by omega
      have hall : ∀ s ∈ sec, s.length = 128 := fun s hs => by
        obtain ⟨j, hj, rfl⟩ := List.mem_iff_getElem.1 hs
        exact HE.out j hj (by rw [HN.out] at hj; exact hj)
      have hr := HR.out
      rw [HN.out] at hr
      obtain rfl : decide ((n : Int) = N) = R := by rw [← hr]; exact decide_eq_decide.2 ⟨fun h => ⟨hall, h⟩, fun h => h.2⟩
      have hbq : (((n : Nat) : Int) == N) = decide ((n : Int) = N) := by rw [Bool.eq_iff_iff]; simp
      have HBQ := Lib.hid hbq
      clear HE HR hr hall HAT hbq
      go_wp2_with fail
      go_ret
      exact ⟨by rw [← HBQ.out]; rfl, hb1⟩
/-- Where a byte of the stream of the first batch lies. -/
def placeR (i : Nat) : Nat × Nat := if i < 127 then (0, i) else (1 + (i - 127) / 128, (i - 127) % 128)
set_option maxHeartbeats 1000000 in
theorem place_any (w : World) (i : Nat) (hi : i ≤ 4611686018427387904) :
    Calls Try.prog 34 #[.int .i64 i] w fun e w' => e = .returned (.tuple #[.int .i64 (placeR i).1, .int .i64 (placeR i).2]) ∧ w' = w := by
  go_enter Try.func34, Try.ntmps34
  by_cases h : i < 127
  · have hr : placeR i = (0, i) := by unfold placeR; rw [if_pos h]
    rw [hr]
    have hi2 : (i : Int) < 127 := by omega
    go_wp2_with fail
    go_ret2
    exact ⟨rfl, rfl⟩
  · have hr : placeR i = (1 + (i - 127) / 128, (i - 127) % 128) := by unfold placeR; rw [if_neg h]
    rw [hr]
    obtain ⟨j, rfl⟩ : ∃ j, i = j + 127 := ⟨i - 127, by omega⟩
    have hw1 : IntKind.i64.wrap (((j + 127 : Nat) : Int) - 128) = (j : Int) - 1 := by rw [IntKind.wrap_i64]; omega
    have e1 : wrap64 (j : Int) = j := by unfold wrap64; omega
    have hq : (j : Int).tdiv 128 = (j : Int) / 128 := Int.tdiv_eq_ediv_of_nonneg (by omega)
    have hm : (j : Int).tmod 128 = (j : Int) % 128 := Int.tmod_eq_emod_of_nonneg (by omega)
    have e2 : wrap64 ((j : Int) / 128) = (j : Int) / 128 := by unfold wrap64; omega
    have e3 : wrap64 (1 + (j : Int) / 128) = 1 + (j : Int) / 128 := by unfold wrap64; omega
    have HE := Lib.hid (And.intro e1 (And.intro hq (And.intro hm (And.intro e2 e3))))
    clear e1 hq hm e2 e3
    have hlt : ¬ (((j + 127 : Nat) : Int) < 127) := by omega
    rw [Nat.add_sub_cancel]
    obtain ⟨x, hx⟩ : ∃ x, ((j + 127 : Nat) : Int) = x := ⟨_, rfl⟩
    rw [hx] at hw1 hlt ⊢
    clear hx h hr hi
    go_wp2_with fail
    go_ret2
    obtain ⟨e1, hq, hm, e2, e3⟩ := HE.out
    exact ⟨by simp [e1, hq, hm, e2, e3], rfl⟩
end Go.Proofs.Ytnfgapdpnihicaa
