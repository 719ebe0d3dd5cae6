/- wal.Read and wal.Room. -/
import Derived.Test.YtnfgapdpnihicaaZWf31
set_option linter.unusedVariables false
set_option linter.unusedSimpArgs false
namespace Go.Proofs.Ytnfgapdpnihicaa
open Go Go.RowKit

theorem scanL_le {sec : List (List UInt8)} {e : Nat} : ∀ (k p : Nat) {rs : List (List UInt8)} {E : Nat}, Wl.scanL sec e k p = (rs, E, 0) → p ≤ e → p ≤ E ∧ E ≤ e
  | 0, p, rs, E, h, hp => by unfold Wl.scanL at h; cases h; omega
  | k + 1, p, rs, E, h, hp => by
    unfold Wl.scanL at h
    split at h
    · rename_i hc
      split at h
      · rename_i hb
        have hm := batch_bd (sec := sec) (p := p) (e := e) (m := (Wl.batch sec p e).1) (rs := (Wl.batch sec p e).2.1) (by rw [← hb]) hc.1
        split at h
        · rename_i hs
          obtain ⟨⟨rs', E', c'⟩, hr⟩ : ∃ r, Wl.scanL sec e k (p + (Wl.batch sec p e).1) = r := ⟨_, rfl⟩
          rw [hr] at h hs
          simp only at hs
          subst hs
          obtain ⟨hm1, hm2⟩ := hm
          have := scanL_le k _ hr hm2
          cases h
          exact ⟨Nat.le_trans (Nat.le_add_right _ _) this.1, this.2⟩
        · rename_i hs
          simp only [Prod.mk.injEq] at h
          exact absurd h.2.2 hs
      · rename_i hb
        simp only [Prod.mk.injEq] at h
        exact absurd h.2.2 hb
    · cases h; omega
theorem Dk.scan_ok {d : Dk} {f m : Int} {rs : List (List UInt8)} {E : Nat} (h : d.scan f m = (rs, E, 0)) : d.Ok ∧ d.stopped = false ∧ ∃ p k : Nat, f = p ∧ m = k ∧ 1 ≤ k ∧ p + k ≤ d.sec.length ∧ p ≤ E ∧ E ≤ p + k ∧ Wl.scanL d.sec (p + k) k p = (rs, E, 0) := by
  unfold Dk.scan at h
  cases hf : d.fits f m with
  | false => rw [hf, if_pos rfl] at h; cases h
  | true =>
    rw [hf, if_neg (by decide)] at h
    obtain ⟨hok, p, k, rfl, rfl, h1, h2⟩ := Dk.fits_iff hf
    cases hs : d.stopped with
    | true => rw [hs, if_pos rfl] at h; cases h
    | false =>
      rw [hs, if_neg (by decide)] at h
      simp only [Int.toNat_natCast] at h
      have := scanL_le _ _ h (by omega)
      exact ⟨hok, rfl, p, k, rfl, rfl, h1, h2, this.1, this.2, h⟩

set_option maxRecDepth 8000 in
set_option maxHeartbeats 1000000 in
theorem walRead_any (w : World) (S : Nat → Bool) (hS : ∀ k, S k = true → k < w.heap.size) (v : Value) (d : Dk) (hv : IsDk w v d) (f m : Int) (hf : -9223372036854775808 ≤ f ∧ f ≤ 9223372036854775807) (hm : -9223372036854775808 ≤ m ∧ m ≤ 9223372036854775807) :
    Calls Try.prog 14 #[v, .int .i64 f, .int .i64 m] w fun en w' => ∃ rv, en = .returned (.tuple #[rv, .int .i64 (d.scan f m).2.2]) ∧ IsLists (mask S w') rv (d.scan f m).1 ∧ Below w.heap.size w w' := by
  obtain ⟨⟨RS, E, C⟩, hR⟩ : ∃ r, d.scan f m = r := ⟨_, rfl⟩
  rw [hR]
  have hv' := hv
  obtain ⟨sv, rfl, hl⟩ := hv
  obtain ⟨b, q, rfl, -⟩ := hl.out
  simp only [dkV] at hv' ⊢
  generalize d.sec.length = n at hv' ⊢
  generalize d.left = left at hv' ⊢
  generalize d.tear = tear at hv' ⊢
  generalize d.stopped = st at hv' ⊢
  have h1 := (((St.start w).putOld (Mono.dk _ _) hv').alloc (.cells #[.slice b n q, .int .i64 left, .int .i64 tear, .bool st] 24)).shut
  obtain ⟨c0, c1, c2, c3⟩ := (h1.is 0 rfl : IsCells _ _ _).c4
  clear hl
  go_enter Try.func14, Try.ntmps14
  go_wp2_with fail
  have hsc := scan_any _ S (fun k hk => Nat.lt_of_lt_of_le (hS k hk) h1.size) _ d (h1.is 1 rfl) f m hf hm
  rw [hR] at hsc
  refine hsc.mono ?_
  rintro en w2 ⟨rv, rfl, hls, hb⟩
  clear hR hv' hsc c0 c1 c2 c3
  obtain ⟨b2, q2, rfl, -⟩ := id hls.out
  go_wp2_with fail
  go_ret2
  exact ⟨_, rfl, hls, (h1.call hb).below⟩

set_option maxRecDepth 8000 in
set_option maxHeartbeats 1000000 in
theorem walRoom_any (w : World) (v : Value) (d : Dk) (hv : IsDk w v d) (f m : Int) (hf : -9223372036854775808 ≤ f ∧ f ≤ 9223372036854775807) (hm : -9223372036854775808 ≤ m ∧ m ≤ 9223372036854775807) :
    Calls Try.prog 16 #[v, .int .i64 f, .int .i64 m] w fun en w' => en = .returned (.tuple #[.int .i64 (if (d.scan f m).2.2 = 0 then f + m - (d.scan f m).2.1 else 0), .int .i64 (d.scan f m).2.2]) ∧ Below w.heap.size w w' := by
  obtain ⟨⟨RS, E, C⟩, hR⟩ : ∃ r, d.scan f m = r := ⟨_, rfl⟩
  rw [hR]
  dsimp only
  have hv' := hv
  obtain ⟨sv, rfl, hl⟩ := hv
  obtain ⟨b, q, rfl, -⟩ := hl.out
  have hdn : d.Ok → d.sec.length ≤ 4096 := fun h => h.many
  have hsok := fun h : C = 0 => Dk.scan_ok (d := d) (f := f) (m := m) (rs := RS) (E := E) (by rw [hR, h])
  simp only [dkV] at hv' ⊢
  generalize d.sec.length = n at hv' hdn hsok ⊢
  generalize d.left = left at hv' ⊢
  generalize d.tear = tear at hv' ⊢
  obtain ⟨st, hst⟩ : ∃ x, d.stopped = x := ⟨_, rfl⟩
  rw [hst] at hv' ⊢
  have h1 := (((St.start w).putOld (Mono.dk _ _) hv').alloc (.cells #[.slice b n q, .int .i64 left, .int .i64 tear, .bool st] 24)).shut
  obtain ⟨c0, c1, c2, c3⟩ := (h1.is 0 rfl : IsCells _ _ _).c4
  have HO := Lib.hid (And.intro hdn hsok)
  clear hl hdn hsok
  go_enter Try.func16, Try.ntmps16
  go_wp2_with fail
  have hsc := scan_any _ noS (fun k hk => by cases hk) _ d (h1.is 1 rfl) f m hf hm
  rw [hR] at hsc
  refine hsc.mono ?_
  rintro en w2 ⟨rv, rfl, hls, hb⟩
  clear hR hv' hsc c0 c1 c2 c3 hst
  obtain ⟨b2, q2, rfl, -⟩ := id hls.out
  have hb1 := (h1.call hb).below
  clear h1 hls hb
  by_cases hc : C = 0
  · subst hc
    obtain ⟨ho, -, p, k, rfl, rfl, e1, e2, e3, e4, -⟩ := HO.out.2 rfl
    have e5 := HO.out.1 ho
    have hw1 : IntKind.i64.wrap ((p : Int) + (k : Int)) = (p : Int) + k := by rw [IntKind.wrap_i64]; omega
    have hw2 : IntKind.i64.wrap ((p : Int) + (k : Int) - (E : Int)) = (p : Int) + k - E := by rw [IntKind.wrap_i64]; omega
    clear HO hf hm e1 e2 e3 e4 e5
    go_wp2_with fail
    go_ret2
    exact ⟨rfl, hb1⟩
  · have hc1 := bne_of hc
    have hc2 := beq_of hc
    have HC := Lib.hid hc
    clear hc HO hf hm
    go_wp2_with fail
    go_ret2
    exact ⟨rfl, hb1⟩
end Go.Proofs.Ytnfgapdpnihicaa
