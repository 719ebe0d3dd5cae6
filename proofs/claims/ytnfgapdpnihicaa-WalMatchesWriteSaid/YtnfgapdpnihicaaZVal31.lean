/- The walk over asofref30.Valid and Restart, at every disk. -/
import Derived.Test.YtnfgapdpnihicaaZWh31
import Derived.Test.YtnfgapdpnihicaaZGE
set_option linter.unusedVariables false
set_option linter.unusedSimpArgs false
namespace Go.Proofs.Ytnfgapdpnihicaa
open Go Go.RowKit

theorem bad_of {d : Dk} (h : ¬ d.Ok) : d.valid = false := by
  cases hv : d.valid with
  | false => rfl
  | true => exact absurd (dk_head hv) h
set_option maxRecDepth 8000 in
set_option maxHeartbeats 2000000 in
theorem refVal_any (w : World) (v : Value) (d : Dk) (hv : IsDk w v d) :
    Calls Try.prog 54 #[v] w fun e w' => e = .returned (.bool d.valid) ∧ Below w.heap.size w w' := by
  have hbad := fun h : ¬ d.Ok => bad_of h
  have hgood := fun h : d.Ok => (Dk.valid_iff d).2 h
  generalize d.valid = r at hbad hgood ⊢
  have hv' := hv
  obtain ⟨b, q, rfl, hl1, hcap, -⟩ := hv.open_
  have HG := Lib.hid (And.intro hbad hgood)
  clear hbad hgood
  obtain ⟨sec, left, tear, st⟩ := d
  simp only at *
  obtain ⟨n, hn⟩ : ∃ n, sec.length = n := ⟨_, rfl⟩
  rw [hn] at hv' hl1 ⊢
  have HN := Lib.hid hn
  have h1 := (((St.start w).putOld (Mono.dk _ _) hv').alloc (.cells #[.slice b n q, .int .i64 left, .int .i64 tear, .bool st] 24)).shut
  have hb1 := h1.below
  obtain ⟨c0, c1, c2, c3⟩ := (h1.is 0 rfl : IsCells _ _ _).c4
  obtain ⟨b', q', ev, -, -, hat⟩ := (h1.is 1 rfl : IsDk _ _ _).open_
  simp only [Value.agg.injEq, Array.mk.injEq, List.cons.injEq, Value.slice.injEq] at ev
  obtain ⟨⟨e2, -, e3⟩, -⟩ := ev
  subst e2
  clear e3
  have HAT := Lib.hid hat
  clear hv hv' hn h1 hat
  go_enter Try.func54, Try.ntmps54
  go_wp2_with fail
  generalize World.alloc w _ = W1 at *
  go_loop [3] (fun c => ∃ k : Nat, k ≤ n ∧ c = .int .i64 k ∧ Hid (∀ j (h : j < sec.length), j < k → sec[j].length = 128)) (fun c => n - (intOf c).toNat)
  case atStart => exact ⟨0, by omega, rfl, Lib.hid (fun j _ h => absurd h (by omega))⟩
  case round =>
    obtain ⟨k, hk, rfl, hall⟩ := hrel
    by_cases hlt : k < n
    · have hks : k < sec.length := by rw [HN.out]; exact hlt
      obtain ⟨bb, off, ub, uc, e0, hx, hbb⟩ := HAT.out k hks
      subst e0
      obtain ⟨L, hL⟩ : ∃ x, (sec[k]).length = x := ⟨_, rfl⟩
      rw [hL] at hx
      by_cases h128 : L = 128
      · have hall2 : Hid (∀ j (h : j < sec.length), j < k + 1 → sec[j].length = 128) := Lib.hid fun j hj hjk => by
          rcases Nat.lt_or_ge j k with h9 | h9
          · exact hall.out j hj h9
          · have : j = k := by omega
            subst this
            rw [hL, h128]
        subst h128
        clear hall hL hbb hks
        go_wp2_with fail
        go_round
        case rel => exact ⟨k + 1, by omega, by go_num, hall2⟩
        case measure => simp [intOf]; omega
      · have h9 : ((L : Int) != 128) = true := by simp; omega
        have hr : r = false := HG.out.1 (fun ho => h128 (by rw [← hL]; exact ho.size k hks))
        subst hr
        clear hall hL hbb hks HG
        go_wp2_with fail
        go_ret
        exact ⟨rfl, hb1⟩
    · have hkn : n = k := by omega
      subst hkn
      have hsz : ∀ j (h : j < sec.length), sec[j].length = 128 := fun j hj => hall.out j hj (by rw [HN.out] at hj; exact hj)
      have HSZ := Lib.hid hsz
      clear hall hsz HAT hlt hk
      by_cases k3 : left < -1
      · skip
        obtain rfl : r = false := HG.out.1 (fun ho => absurd ho.left1 (by simp only; omega))
        clear HG HSZ HN
        go_wp2_with fail
        go_ret
        exact ⟨rfl, hb1⟩
      by_cases k4 : 1099511627776 < left
      · skip
        obtain rfl : r = false := HG.out.1 (fun ho => absurd ho.left2 (by simp only; omega))
        clear HG HSZ HN
        go_wp2_with fail
        go_ret
        exact ⟨rfl, hb1⟩
      by_cases k5 : tear < 0
      · skip
        obtain rfl : r = false := HG.out.1 (fun ho => absurd ho.tear1 (by simp only; omega))
        clear HG HSZ HN
        go_wp2_with fail
        go_ret
        exact ⟨rfl, hb1⟩
      by_cases k6 : 128 < tear
      · skip
        obtain rfl : r = false := HG.out.1 (fun ho => absurd ho.tear2 (by simp only; omega))
        clear HG HSZ HN
        go_wp2_with fail
        go_ret
        exact ⟨rfl, hb1⟩
      by_cases k7 : left = -1
      · subst k7
        by_cases k8 : tear = 0
        · subst k8
          cases st with
          | true =>
            obtain rfl : r = false := HG.out.1 (fun ho => absurd (ho.stops rfl) (by simp))
            clear HG HSZ HN
            go_wp2_with fail
            go_ret
            exact ⟨rfl, hb1⟩
          | false =>
            by_cases k1 : 1 ≤ n
            · by_cases k2 : n ≤ 4096
              · obtain rfl : r = true := HG.out.2 ⟨by simp only; rw [HN.out]; exact k1, by simp only; rw [HN.out]; exact k2, HSZ.out, by simp only; omega, by simp only; omega, by simp only; omega, by simp only; omega, fun _ => rfl, fun h => by cases h⟩
                have i1 : (1 : Int) ≤ (n : Int) := by omega
                have i2 : (n : Int) ≤ 4096 := by omega
                clear HG HSZ HN
                go_wp2_with fail
                go_ret
                exact ⟨rfl, hb1⟩
              · obtain rfl : r = false := HG.out.1 (fun ho => absurd ho.many (by simp only; rw [HN.out]; exact k2))
                have i1 : (1 : Int) ≤ (n : Int) := by omega
                have i2 : ¬ (n : Int) ≤ 4096 := by omega
                clear HG HSZ HN
                go_wp2_with fail
                go_ret
                exact ⟨rfl, hb1⟩
            · obtain rfl : r = false := HG.out.1 (fun ho => absurd ho.one (by simp only; rw [HN.out]; exact k1))
              have i1 : ¬ (1 : Int) ≤ (n : Int) := by omega
              clear HG HSZ HN
              go_wp2_with fail
              go_ret
              exact ⟨rfl, hb1⟩
        · have k9 : (tear != 0) = true := by simpa using k8
          obtain rfl : r = false := HG.out.1 (fun ho => k8 (ho.tears rfl))
          clear HG HSZ HN
          go_wp2_with fail
          go_ret
          exact ⟨rfl, hb1⟩
      · have k9 : (left == -1) = false := by simpa using k7
        cases st with
        | true =>
          by_cases k8 : left = 0
          · subst k8
            by_cases k1 : 1 ≤ n
            · by_cases k2 : n ≤ 4096
              · obtain rfl : r = true := HG.out.2 ⟨by simp only; rw [HN.out]; exact k1, by simp only; rw [HN.out]; exact k2, HSZ.out, by simp only; omega, by simp only; omega, by simp only; omega, by simp only; omega, fun h => absurd h k7, fun _ => rfl⟩
                have i1 : (1 : Int) ≤ (n : Int) := by omega
                have i2 : (n : Int) ≤ 4096 := by omega
                clear HG HSZ HN
                go_wp2_with fail
                go_ret
                exact ⟨rfl, hb1⟩
              · obtain rfl : r = false := HG.out.1 (fun ho => absurd ho.many (by simp only; rw [HN.out]; exact k2))
                have i1 : (1 : Int) ≤ (n : Int) := by omega
                have i2 : ¬ (n : Int) ≤ 4096 := by omega
                clear HG HSZ HN
                go_wp2_with fail
                go_ret
                exact ⟨rfl, hb1⟩
            · obtain rfl : r = false := HG.out.1 (fun ho => absurd ho.one (by simp only; rw [HN.out]; exact k1))
              have i1 : ¬ (1 : Int) ≤ (n : Int) := by omega
              clear HG HSZ HN
              go_wp2_with fail
              go_ret
              exact ⟨rfl, hb1⟩
          · have k10 : (left != 0) = true := by simpa using k8
            obtain rfl : r = false := HG.out.1 (fun ho => k8 (ho.stops rfl))
            clear HG HSZ HN
            go_wp2_with fail
            go_ret
            exact ⟨rfl, hb1⟩
        | false =>
          by_cases k1 : 1 ≤ n
          · by_cases k2 : n ≤ 4096
            · obtain rfl : r = true := HG.out.2 ⟨by simp only; rw [HN.out]; exact k1, by simp only; rw [HN.out]; exact k2, HSZ.out, by simp only; omega, by simp only; omega, by simp only; omega, by simp only; omega, fun h => absurd h k7, fun h => by cases h⟩
              have i1 : (1 : Int) ≤ (n : Int) := by omega
              have i2 : (n : Int) ≤ 4096 := by omega
              clear HG HSZ HN
              go_wp2_with fail
              go_ret
              exact ⟨rfl, hb1⟩
            · obtain rfl : r = false := HG.out.1 (fun ho => absurd ho.many (by simp only; rw [HN.out]; exact k2))
              have i1 : (1 : Int) ≤ (n : Int) := by omega
              have i2 : ¬ (n : Int) ≤ 4096 := by omega
              clear HG HSZ HN
              go_wp2_with fail
              go_ret
              exact ⟨rfl, hb1⟩
          · obtain rfl : r = false := HG.out.1 (fun ho => absurd ho.one (by simp only; rw [HN.out]; exact k1))
            have i1 : ¬ (1 : Int) ≤ (n : Int) := by omega
            clear HG HSZ HN
            go_wp2_with fail
            go_ret
            exact ⟨rfl, hb1⟩
end Go.Proofs.Ytnfgapdpnihicaa
