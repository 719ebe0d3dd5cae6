/- The walks over WalMatchesRead and WalCrashes. -/
import Derived.Test.YtnfgapdpnihicaaZRsc31
import Derived.Test.YtnfgapdpnihicaaZLp31
set_option linter.unusedVariables false
set_option linter.unusedSimpArgs false
namespace Go.Proofs.Ytnfgapdpnihicaa
open Go Go.RowKit

set_option maxRecDepth 8000 in
set_option maxHeartbeats 8000000 in
theorem matchesRead_walk (w : World) (v : Value) (d : Dk) (hv : IsDk w v d) (hsd : ∀ s ∈ d.sec, s.length ≤ 140737488351232) (f : Int) (hf : -9223372036854775808 ≤ f ∧ f ≤ 9223372036854775807) (m : Int) (hm : -9223372036854775808 ≤ m ∧ m ≤ 9223372036854775807) :
    Calls Try.prog 3 #[v, .int .i64 f, .int .i64 m] w fun e w' => e = .returned (.bool true) ∧ Below w.heap.size w w' := by
  obtain ⟨bd, qd, rfl⟩ := hv.shape
  have h0 := ((St.start w).putOld (Mono.dk _ _) hv).boxC (dkA bd qd d) 24
  clear hv hsd
  obtain ⟨⟨L, E, c⟩, hsc⟩ : ∃ r, d.scan f m = r := ⟨_, rfl⟩
  obtain ⟨R, hR⟩ : ∃ R, (if c = 0 then f + m - E else 0) = R := ⟨_, rfl⟩
  have HSC := Lib.hid hsc
  have HRR := Lib.hid hR
  obtain ⟨N, hN⟩ : ∃ N, L.length = N := ⟨_, rfl⟩
  have HN := Lib.hid hN
  clear hsc hR hN
  go_enter Try.func3, Try.ntmps3
  go_wp2_with fail
  refine (Calls.sV h0 (example_any _)).mono ?_
  rintro e w1 ⟨rfl, h1⟩
  clear h0
  obtain ⟨r, hr⟩ : ∃ r, smallB d [] = r := ⟨_, rfl⟩
  go_wp2_with (refine wpList_load_mid rfl 24 (.tmp 3) rfl w.heap.size 0 rfl [.slice bd d.sec.length qd, .int .i64 d.left, .int .i64 d.tear, .bool d.stopped] _ (h1.is 0 rfl : IsCells _ _ _).range Try.underlying24 rfl rfl ?_)
  refine (small_s h1 hr (h1.is 1 rfl) (lists_nil _)).mono ?_
  rintro e w2 ⟨rfl, h2⟩
  clear h1 hr
  cases r with
  | false =>
    go_wp2_with fail
    go_ret
    exact ⟨rfl, h2.below⟩
  | true =>
    go_wp2_with (refine wpList_load_mid rfl 24 (.tmp 3) rfl w.heap.size 0 rfl [.slice bd d.sec.length qd, .int .i64 d.left, .int .i64 d.tear, .bool d.stopped] _ (h2.is 0 rfl : IsCells _ _ _).range Try.underlying24 rfl rfl ?_)
    refine (read_s h2 HSC.out hf hm (h2.is 1 rfl)).mono ?_
    rintro e w3 ⟨b3, q3, rfl, h3⟩
    clear h2
    go_wp2_with (refine wpList_load_mid rfl 24 (.tmp 3) rfl w.heap.size 0 rfl [.slice bd d.sec.length qd, .int .i64 d.left, .int .i64 d.tear, .bool d.stopped] _ (h3.is 1 rfl : IsCells _ _ _).range Try.underlying24 rfl rfl ?_)
    refine (refRead_s h3 HSC.out hf hm (h3.is 2 rfl)).mono ?_
    rintro e w4 ⟨b4, q4, rfl, h4⟩
    clear h3
    go_wp2_with (refine wpList_load_mid rfl 24 (.tmp 3) rfl w.heap.size 0 rfl [.slice bd d.sec.length qd, .int .i64 d.left, .int .i64 d.tear, .bool d.stopped] _ (h4.is 2 rfl : IsCells _ _ _).range Try.underlying24 rfl rfl ?_)
    refine (room_s h4 HSC.out HRR.out hf hm (h4.is 3 rfl)).mono ?_
    rintro e w5 ⟨rfl, h5⟩
    clear h4
    go_wp2_with (refine wpList_load_mid rfl 24 (.tmp 3) rfl w.heap.size 0 rfl [.slice bd d.sec.length qd, .int .i64 d.left, .int .i64 d.tear, .bool d.stopped] _ (h5.is 2 rfl : IsCells _ _ _).range Try.underlying24 rfl rfl ?_)
    refine (refRoom_s h5 HSC.out HRR.out hf hm (h5.is 3 rfl)).mono ?_
    rintro e w6 ⟨rfl, h6⟩
    clear h5
    go_wp2_with fail
    refine (same_s h6 (a := L) (b := L) (decide_eq_true rfl) (h6.is 1 rfl) (h6.is 0 rfl)).mono ?_
    rintro e w7 ⟨rfl, h7⟩
    clear h6
    have e1 : (c == c) = true := by simp
    have e2 : (R == R) = true := by simp
    go_wp2_with fail
    go_ret
    exact ⟨rfl, h7.below⟩

theorem scanL_many {sec : List (List UInt8)} {e : Nat} (he : e ≤ 4096) : ∀ (k p : Nat), (Wl.scanL sec e k p).1.length ≤ k * 524288
  | 0, p => by simp [Wl.scanL]
  | k + 1, p => by
    unfold Wl.scanL
    split
    · split
      · rename_i hb
        have hbl := batch_len (sec := sec) (p := p) (e := e) (m := (Wl.batch sec p e).1) (rs := (Wl.batch sec p e).2.1) (by rw [← hb])
        split
        · have := scanL_many (sec := sec) he k (p + (Wl.batch sec p e).1)
          simp only [List.length_append]
          rw [Nat.succ_mul]
          omega
        · simp
      · simp
    · simp
theorem scan_many {d : Dk} {f m : Int} {l : List (List UInt8)} {E : Nat} (h : d.scan f m = (l, E, 0)) : l.length ≤ 2147483648 := by
  obtain ⟨h1, h2, p, k, -, -, h5, h6, -, -, h7⟩ := Dk.scan_ok h
  have h8 := scanL_many (sec := d.sec) (e := p + k) (by have := h1.many; omega) k p
  rw [h7] at h8
  have h9 : k * 524288 ≤ 4096 * 524288 := Nat.mul_le_mul_right _ (by have := h1.many; omega)
  simp only at h8
  omega
/-- What a crash leaves. -/
theorem crashes_plain {O T X : Dk} {f m left tear c : Int} {before rs : List (List UInt8)} {E : Nat} (hO : O.scan f m = (before, E, 0)) (hT : O.fail left tear = (T, 0)) (hX : T.app f m rs = (X, c)) (hn : rs.length ≤ 1048576) (hr : ∀ r ∈ rs, r.length ≤ 1048576) :
    ∃ p k : Nat, f = p ∧ m = k ∧ p + k ≤ 4096 ∧ ((c ≠ 0 ∧ c ≠ 300 ∧ X.sec = [] ∧ (c = 310 ∨ c = 2)) ∨ ((c = 0 ∨ c = 300) ∧ ∃ L E2, X.restart.Live p k L E2 ∧ (L = before ++ rs ∨ (L = before ∧ c ≠ 0)))) := by
  obtain ⟨p, k, rfl, rfl, hs, hreg⟩ := Dk.Reg.of hO
  refine ⟨p, k, rfl, rfl, by have := hreg.ok.many; have := hreg.fit; omega, ?_⟩
  have hTT : T.sec = O.sec ∧ T.Ok ∧ T.stopped = false := by
    unfold Dk.fail at hT
    split at hT
    · cases hT
    · rename_i h1
      rw [if_neg (by simp [hs])] at hT
      cases hT
      exact ⟨rfl, ⟨hreg.ok.one, hreg.ok.many, hreg.ok.size, by (show -1 ≤ left; omega), by (show left ≤ 1099511627776; omega), by (show 0 ≤ tear; omega), by (show tear ≤ 128; omega), fun h => by simp only at h; omega, fun h => by simp [hs] at h⟩, hs⟩
  obtain ⟨t1, t2, t3⟩ := hTT
  have key : ∀ {L E2}, X.Reg p k L E2 → X.restart.Live p k L E2 := fun h => by
    obtain ⟨h1, h2, -, h3⟩ := h.restart
    exact ⟨h1, h2, h3⟩
  have hTR : T.Reg p k before E := hreg.sec t2 t1
  rcases app_law hTR t3 hn hr hX with ⟨-, rfl, rfl⟩ | ⟨-, rfl, rfl, rfl⟩ | ⟨-, -, -, rfl, rfl⟩ | ⟨-, -, -, -, -, ⟨rfl, -, -, -, h1⟩ | ⟨rfl, -, -, h1 | h1⟩⟩
  · exact .inl ⟨by decide, by decide, rfl, .inr rfl⟩
  · exact .inr ⟨.inl rfl, before, E, key hTR, .inl (List.append_nil _).symm⟩
  · exact .inl ⟨by decide, by decide, rfl, .inl rfl⟩
  · exact .inr ⟨.inl rfl, _, _, key h1, .inl rfl⟩
  · exact .inr ⟨.inr rfl, _, _, key h1, .inr ⟨rfl, by decide⟩⟩
  · exact .inr ⟨.inr rfl, _, _, key h1, .inl rfl⟩

end Go.Proofs.Ytnfgapdpnihicaa
