/- Chapter 31 in plain Lean: the stream of a batch, the sectors that it takes, reading a region. -/
import Derived.Test.YtnfgapdpnihicaaZGC
import Derived.Test.YtnfgapdpnihicaaZGD
namespace Go.Proofs.Ytnfgapdpnihicaa

namespace Wl
/-- The content of a batch. -/
def content (rs : List (List UInt8)) : List UInt8 := Wire.encU rs.length ++ rs.flatMap Wire.encT
def stream (rs : List (List UInt8)) : List UInt8 := Wire.encF (content rs)
/-- How many sectors a stream takes. -/
def needs (n : Nat) : Nat := 1 + n / 128
/-- The records that are left to be read from an offset: what has come, where it ended, the code. -/
def loop (l : List UInt8) : Nat → Int → List (List UInt8) → List (List UInt8) × Int × Int
  | 0, at_, acc => (acc, at_, 0)
  | k + 1, at_, acc => if (Wire.readT l at_).2.2 = 0 then loop l k (Wire.readT l at_).2.1 (acc ++ [(Wire.readT l at_).1]) else (acc ++ [(Wire.readT l at_).1], (Wire.readT l at_).2.1, (Wire.readT l at_).2.2)
/-- The records of a content. -/
def parts (l : List UInt8) : Option (List (List UInt8)) :=
  if (Wire.readU l 0).2.2 = 0 ∧ (loop l (Wire.readU l 0).1 (Wire.readU l 0).2.1 []).2.2 = 0 ∧ (loop l (Wire.readU l 0).1 (Wire.readU l 0).2.1 []).2.1 = l.length then some (loop l (Wire.readU l 0).1 (Wire.readU l 0).2.1 []).1 else none
/-- A batch, by what its content gave. -/
def got (m : Nat) : Option (List (List UInt8)) → Nat × List (List UInt8) × Int
  | none => (0, [], 3)
  | some rs => (m, rs, 0)
/-- The batch at a sector of a region that ends before another one: how many sectors, the records, the code. -/
def batch (sec : List (List UInt8)) (p e : Nat) : Nat × List (List UInt8) × Int :=
  let head := (sec.getD p []).take 127
  let u := Wire.readU head 0
  if u.2.2 ≠ 0 ∨ (e - p) * 128 < u.1 then (0, [], 3) else
  let m := needs (u.2.1.toNat + u.1 + 4)
  if e - p < m then (0, [], 3) else
  let b := head ++ ((sec.drop (p + 1)).take (m - 1)).flatten
  let c := (b.drop u.2.1.toNat).take u.1
  if (b.drop (u.2.1.toNat + u.1)).take 4 ≠ sum4 (Wire.sumOf c) then (0, [], 40) else
  got m (parts c)
/-- Whether a sector bears the mark. -/
def marked (sec : List (List UInt8)) (p : Nat) : Bool := (sec.getD p []).getD 127 0 == 165
/-- The batches from a sector on, up to the first one that is not well-formed. -/
def batches (sec : List (List UInt8)) (e : Nat) : Nat → Nat → List (Nat × List (List UInt8) × Int)
  | 0, _ => []
  | k + 1, p => if p < e ∧ marked sec p = true then batch sec p e :: (if (batch sec p e).2.2 = 0 then batches sec e k (p + (batch sec p e).1) else []) else []
/-- The records, the sector of the end, the code. -/
def scanL (sec : List (List UInt8)) (e : Nat) : Nat → Nat → List (List UInt8) × Nat × Int
  | 0, p => ([], p, 0)
  | k + 1, p => if p < e ∧ marked sec p = true then
      (if (batch sec p e).2.2 = 0 then
        (if (scanL sec e k (p + (batch sec p e).1)).2.2 = 0 then ((batch sec p e).2.1 ++ (scanL sec e k (p + (batch sec p e).1)).1, (scanL sec e k (p + (batch sec p e).1)).2.1, 0) else ([], 0, (scanL sec e k (p + (batch sec p e).1)).2.2))
      else ([], 0, (batch sec p e).2.2))
    else ([], p, 0)
theorem needs_pos (n : Nat) : 1 ≤ needs n := by unfold needs; omega
end Wl
/-- Whether a region fits a disk. -/
def Dk.fits (d : Dk) (f m : Int) : Bool := d.valid && decide (0 ≤ f ∧ 1 ≤ m ∧ f < d.sec.length ∧ m ≤ d.sec.length - f)
/-- Reading a region. -/
def Dk.scan (d : Dk) (f m : Int) : List (List UInt8) × Nat × Int :=
  if d.fits f m = false then ([], 0, 1) else if d.stopped then ([], 0, 300) else Wl.scanL d.sec (f.toNat + m.toNat) m.toNat f.toNat
theorem Dk.fits_iff {d : Dk} {f m : Int} (h : d.fits f m = true) : d.Ok ∧ ∃ p n : Nat, f = p ∧ m = n ∧ 1 ≤ n ∧ p + n ≤ d.sec.length := by
  unfold Dk.fits at h
  rw [Bool.and_eq_true, decide_eq_true_eq] at h
  obtain ⟨h1, h2, h3, h4, h5⟩ := h
  exact ⟨dk_head h1, f.toNat, m.toNat, by omega, by omega, by omega, by omega⟩
end Go.Proofs.Ytnfgapdpnihicaa
/- Reading a region, in plain Lean. -/
set_option linter.unusedVariables false
namespace Go.Proofs.Ytnfgapdpnihicaa
open Wl

theorem batch_bd {sec : List (List UInt8)} {p e m : Nat} {rs : List (List UInt8)} (h : batch sec p e = (m, rs, 0)) (hp : p < e) : 1 ≤ m ∧ p + m ≤ e := by
  unfold batch at h
  simp only at h
  split at h
  · cases h
  · split at h
    · cases h
    · rename_i h2
      split at h
      · cases h
      · generalize parts _ = o at h
        cases o with
        | none => cases h
        | some l =>
          simp only [got, Prod.mk.injEq] at h
          obtain ⟨rfl, -, -⟩ := h
          have := needs_pos ((Wire.readU (List.take 127 (sec.getD p [])) 0).2.1.toNat + (Wire.readU (List.take 127 (sec.getD p [])) 0).1 + 4)
          omega
theorem scanL_stop {sec : List (List UInt8)} {e p : Nat} (h : ¬ (p < e ∧ marked sec p = true)) : ∀ k, scanL sec e k p = ([], p, 0)
  | 0 => rfl
  | k + 1 => by unfold scanL; rw [if_neg h]
theorem scanL_fuel {sec : List (List UInt8)} {e : Nat} (j : Nat) : ∀ p, e - p ≤ j → scanL sec e j p = scanL sec e (e - p) p := by
  induction j using Nat.strongRecOn with
  | _ j ih =>
    intro p hp
    by_cases hc : p < e ∧ marked sec p = true
    · obtain ⟨i, hi⟩ : ∃ i, e - p = i + 1 := ⟨e - p - 1, by omega⟩
      obtain ⟨j', rfl⟩ : ∃ j', j = j' + 1 := ⟨j - 1, by omega⟩
      rw [hi]
      unfold scanL
      rw [if_pos hc, if_pos hc]
      by_cases hb : (batch sec p e).2.2 = 0
      · have hm := batch_bd (sec := sec) (p := p) (e := e) (m := (batch sec p e).1) (rs := (batch sec p e).2.1) (by rw [← hb]) hc.1
        rw [if_pos hb, if_pos hb, ih j' (by omega) _ (by omega), ih i (by omega) _ (by omega)]
      · rw [if_neg hb, if_neg hb]
    · rw [scanL_stop hc, scanL_stop hc]
theorem scanL_step {sec : List (List UInt8)} {e p m : Nat} {rs : List (List UInt8)} (hp : p < e) (hk : marked sec p = true) (hb : batch sec p e = (m, rs, 0)) :
    scanL sec e (e - p) p = if (scanL sec e (e - (p + m)) (p + m)).2.2 = 0 then (rs ++ (scanL sec e (e - (p + m)) (p + m)).1, (scanL sec e (e - (p + m)) (p + m)).2.1, 0) else ([], 0, (scanL sec e (e - (p + m)) (p + m)).2.2) := by
  obtain ⟨i, hi⟩ : ∃ i, e - p = i + 1 := ⟨e - p - 1, by omega⟩
  have hm := batch_bd hb hp
  rw [hi]
  conv => lhs; unfold scanL
  rw [if_pos ⟨hp, hk⟩, hb]
  simp only [if_true]
  rw [scanL_fuel i (p + m) (by omega)]
theorem scanL_bad {sec : List (List UInt8)} {e p m : Nat} {rs : List (List UInt8)} {c : Int} (hp : p < e) (hk : marked sec p = true) (hb : batch sec p e = (m, rs, c)) (hc : c ≠ 0) : scanL sec e (e - p) p = ([], 0, c) := by
  obtain ⟨i, hi⟩ : ∃ i, e - p = i + 1 := ⟨e - p - 1, by omega⟩
  rw [hi]
  unfold scanL
  rw [if_pos ⟨hp, hk⟩, hb, if_neg hc]
theorem scanL_err {sec : List (List UInt8)} {e : Nat} : ∀ k p, (scanL sec e k p).2.2 ≠ 0 → scanL sec e k p = ([], 0, (scanL sec e k p).2.2)
  | 0, p, h => absurd rfl h
  | k + 1, p, h => by
    unfold scanL at h ⊢
    split
    · split
      · split
        · rename_i h1 h2 h3
          rw [if_pos h1, if_pos h2, if_pos h3] at h
          exact absurd rfl h
        · rfl
      · rfl
    · rename_i h1
      rw [if_neg h1] at h
      exact absurd rfl h
/-- What has come so far says what the whole gives. -/
def Scans (sec : List (List UInt8)) (e f : Nat) (acc : List (List UInt8)) (p : Nat) : Prop :=
  scanL sec e (e - f) f = if (scanL sec e (e - p) p).2.2 = 0 then (acc ++ (scanL sec e (e - p) p).1, (scanL sec e (e - p) p).2.1, 0) else ([], 0, (scanL sec e (e - p) p).2.2)
theorem Scans.start (sec : List (List UInt8)) (e f : Nat) : Scans sec e f [] f := by
  unfold Scans
  by_cases h : (scanL sec e (e - f) f).2.2 = 0
  · rw [if_pos h, List.nil_append, ← h]
  · rw [if_neg h]
    exact scanL_err _ _ h
theorem Scans.step {sec : List (List UInt8)} {e f p m : Nat} {acc rs : List (List UInt8)} (h : Scans sec e f acc p) (hp : p < e) (hk : marked sec p = true) (hb : batch sec p e = (m, rs, 0)) : Scans sec e f (acc ++ rs) (p + m) := by
  unfold Scans at *
  rw [scanL_step hp hk hb] at h
  rw [h]
  by_cases hz : (scanL sec e (e - (p + m)) (p + m)).2.2 = 0
  · simp [hz]
  · simp [hz]
theorem Scans.bad {sec : List (List UInt8)} {e f p m : Nat} {acc rs : List (List UInt8)} {c : Int} (h : Scans sec e f acc p) (hp : p < e) (hk : marked sec p = true) (hb : batch sec p e = (m, rs, c)) (hc : c ≠ 0) : scanL sec e (e - f) f = ([], 0, c) := by
  unfold Scans at h
  rw [scanL_bad hp hk hb hc] at h
  rw [h, if_neg hc]
theorem Scans.stop {sec : List (List UInt8)} {e f p : Nat} {acc : List (List UInt8)} (h : Scans sec e f acc p) (hs : ¬ (p < e ∧ marked sec p = true)) : scanL sec e (e - f) f = (acc, p, 0) := by
  unfold Scans at h
  rw [scanL_stop hs] at h
  simpa using h
end Go.Proofs.Ytnfgapdpnihicaa
