/- wal.Append in plain Lean. -/
import Derived.Test.YtnfgapdpnihicaaZWg31
import Derived.Test.YtnfgapdpnihicaaZGB
set_option linter.unusedVariables false
namespace Go.Proofs.Ytnfgapdpnihicaa
open Go Go.RowKit

namespace Wl
/-- A sector of what is left of a stream. -/
def piece (l : List UInt8) : List UInt8 := l.take 128 ++ List.replicate (128 - (l.take 128).length) 0
/-- The head of a batch. -/
def headS (s : List UInt8) : List UInt8 := (s.take 127 ++ List.replicate (127 - (s.take 127).length) 0) ++ [165]
/-- The sectors behind the head. -/
def secs (p : Nat) : Nat → Nat → List UInt8 → List (Nat × List UInt8)
  | _, 0, _ => []
  | i, k + 1, l => (p + i, piece l) :: secs p (i + 1) k (l.drop 128)
/-- What is written, in order. -/
def sched (p n e : Nat) (s : List UInt8) : List (Nat × List UInt8) := secs p 1 (n - 1) (s.drop 127) ++ ((if p + n < e then [(p + n, zeroSec)] else []) ++ [(p, headS s)])
theorem piece_len (l : List UInt8) : (piece l).length = 128 := by unfold piece; rw [List.length_append, List.length_replicate, List.length_take]; omega
theorem headS_len (l : List UInt8) : (headS l).length = 128 := by unfold headS; rw [List.length_append, List.length_append, List.length_replicate, List.length_take]; simp; omega
end Wl
/-- Writes, until one is refused. -/
def Dk.puts (d : Dk) : List (Nat × List UInt8) → Dk × Int
  | [] => (d, 0)
  | x :: r => if (d.write x.1 x.2).2 = 0 then (d.write x.1 x.2).1.puts r else d.write x.1 x.2
theorem Dk.puts_ok {d D : Dk} {i : Nat} {l : List UInt8} {r : List (Nat × List UInt8)} (h : d.write i l = (D, 0)) : d.puts ((i, l) :: r) = D.puts r := by
  conv => lhs; unfold Dk.puts
  rw [h, if_pos rfl]
theorem Dk.puts_bad {d D : Dk} {i : Nat} {l : List UInt8} {c : Int} {r : List (Nat × List UInt8)} (h : d.write i l = (D, c)) (hc : c ≠ 0) : d.puts ((i, l) :: r) = (D, c) := by
  unfold Dk.puts
  rw [h, if_neg hc]
theorem Dk.puts_one {d : Dk} {i : Nat} {l : List UInt8} : d.puts [(i, l)] = d.write i l := by
  unfold Dk.puts
  split
  · rename_i h
    unfold Dk.puts
    rw [← h]
  · rfl
/-- Whether a record is too long. -/
def Wl.long (rs : List (List UInt8)) : Bool := rs.any fun r => decide (8192 < r.length)
def Dk.app (d : Dk) (f m : Int) (rs : List (List UInt8)) : Dk × Int :=
  if d.fits f m = false then (Dk.zero, 1) else if d.stopped then (d, 300) else if Wl.long rs then (Dk.zero, 2) else
  if (d.scan f m).2.2 ≠ 0 then (Dk.zero, (d.scan f m).2.2) else if rs.length = 0 then (d, 0) else
  if f + m - (d.scan f m).2.1 < Wl.needs (Wl.stream rs).length then (Dk.zero, 310) else
  d.puts (Wl.sched (d.scan f m).2.1 (Wl.needs (Wl.stream rs).length) (f + m).toNat (Wl.stream rs))
theorem Wl.long_yes {rs : List (List UInt8)} {k : Nat} (hk : k < rs.length) (h : 8192 < rs[k].length) : Wl.long rs = true := List.any_eq_true.2 ⟨rs[k], List.getElem_mem hk, by simpa using h⟩
theorem Wl.long_no {rs : List (List UInt8)} (h : ∀ k (hk : k < rs.length), rs[k].length ≤ 8192) : Wl.long rs = false := by
  cases hq : Wl.long rs with
  | false => rfl
  | true =>
    obtain ⟨r, hr, h1⟩ := List.any_eq_true.1 hq
    obtain ⟨k, hk, rfl⟩ := List.mem_iff_getElem.1 hr
    have := h k hk
    simp only [decide_eq_true_eq] at h1
    omega
/-- A part of an array is filled. -/
theorem splice_fill (n : Nat) (l : List UInt8) (h : l.length ≤ n) : splice (List.replicate n (Value.int .u8 0)) 0 (l.map u8v) = (l ++ List.replicate (n - l.length) 0).map u8v := by
  unfold splice
  rw [List.take_zero, List.nil_append, List.map_append, List.map_replicate, List.length_map, List.drop_replicate, Nat.zero_add]
  rfl
/-- copy onto the head of an array of zeros. -/
theorem wpList_copy_arr {P : Program} {w : World} {ops : Array Oper} {rest : List Oper} {o : Oper} {a : Act} {Q : Exit → Act → World → Prop} (hgd : o.guard = none) (d s : Operand) (dT sT : TypeId)
    (ho : o.op = .call { callee := .builtin .copy, args := #[d, s], argTypes := #[dT, sT] }) (elem : TypeId) (hu : P.underlying dT = some (.slice elem)) (hsz : (P.info? elem).map (·.size) = some 1)
    (g n N cap : Nat) (hd : a.eval d = .slice (some ⟨g, 0, none⟩) n cap) (sp : Option Addr) (sn sc : Nat) (l : List UInt8) (hs : a.eval s = .slice sp sn sc) (hsrc : IsBytes w (.slice sp sn sc) l) (t : TypeId)
    (hg : w.heap[g]? = some (.cells ((List.replicate N (0 : UInt8)).map u8v).toArray t (0, 0))) (hnN : n ≤ N) (k : Nat) (hk : Nat.min sn n = k) (A : Array Value) (hA : ((l.take k ++ List.replicate (N - k) 0).map u8v).toArray = A)
    (h : wpList P ops Q rest (a.put o.dst (goInt k)) (w.setRow g A)) : wpList P ops Q (o :: rest) a w := by
  obtain ⟨base, ucap, he, hmx, hml2, hmm, hmn, hmc⟩ := hsrc
  cases he
  have hmin : k ≤ l.length := by rw [← hk]; exact Nat.min_le_left _ _
  have hmin2 : k ≤ n := by rw [← hk]; exact Nat.min_le_right _ _
  have hlen : ((l.take k).map u8v).length = k := by rw [List.length_map, List.length_take]; omega
  have hz : (List.replicate N (0 : UInt8)).map u8v = List.replicate N (Value.int .u8 0) := by rw [List.map_replicate]; rfl
  rw [hz] at hg
  refine wpList_copy_rows (P := P) hgd d s dT sT ho elem 1 (by omega) hu hsz (some ⟨g, 0, none⟩) sp n cap l.length sc hd hs g 0 (List.replicate N (Value.int .u8 0)) t hg ((l.take k).map u8v) (by rw [hlen, hk, Nat.mul_one]) (fun hp => ⟨rfl, ?_⟩) (by rw [hlen, List.length_replicate]; omega) (u8v_one _) ?_
  · rw [hlen] at hp
    obtain ⟨b, off, rfl, -⟩ := hmc 0 (by rw [List.length_map]; omega)
    refine ⟨_, rfl, fun j v hv => ?_⟩
    obtain ⟨hj, hv'⟩ := List.getElem?_eq_some_iff.1 hv
    rw [hlen] at hj
    obtain ⟨b', off', e', hcell⟩ := hmc j (by rw [List.length_map]; omega)
    cases e'
    rw [Addr.add_lit, hcell, ← hv']
    simp
  · intro w' hw'
    subst hw'
    rw [splice_fill N _ (by rw [List.length_take]; omega), hk]
    have : (l.take k).length = k := by rw [List.length_take]; omega
    rw [this, hA]
    exact h
theorem fill_at {l : List UInt8} {k N j : Nat} (hk : l.length = k) (h1 : k ≤ j) (h2 : j < N) : (((l ++ List.replicate (N - k) 0).map u8v).toArray)[j]? = some (.int .u8 0) := by
  rw [List.getElem?_toArray, List.getElem?_map, List.getElem?_append_right (by omega), List.getElem?_replicate, if_pos (by omega)]
  rfl
theorem head_set {s : List UInt8} {k : Nat} (hk : Nat.min s.length 127 = k) : (((s.take k ++ List.replicate (128 - k) 0).map u8v).toArray).setIfInBounds 127 (.int .u8 165) = ((Wl.headS s).map u8v).toArray := by
  have h1 : s.take 127 = s.take k := by
    rw [← hk]
    rcases Nat.lt_or_ge s.length 127 with h | h
    · rw [show Nat.min s.length 127 = s.length from Nat.min_eq_left (by omega), List.take_of_length_le (by omega), List.take_length]
    · rw [show Nat.min s.length 127 = 127 from Nat.min_eq_right h]
  have hk2 : k ≤ 127 := by rw [← hk]; exact Nat.min_le_right _ _
  have hk3 : k ≤ s.length := by rw [← hk]; exact Nat.min_le_left _ _
  have hl : (s.take k).length = k := by rw [List.length_take]; omega
  unfold Wl.headS
  rw [h1, hl, show 128 - k = (127 - k) + 1 by omega, List.replicate_succ', List.setIfInBounds_toArray, ← List.append_assoc]
  congr 1
  have h2 : (List.take k s ++ List.replicate (127 - k) 0).length = 127 := by rw [List.length_append, List.length_replicate, hl]; omega
  generalize List.take k s ++ List.replicate (127 - k) 0 = A at h2 ⊢
  rw [List.map_append, List.map_append, List.set_append_right _ _ (by rw [List.length_map, h2]; omega), List.length_map, h2]
  rfl
theorem drop_fill {s : List UInt8} {k : Nat} (hk : Nat.min s.length 127 = k) : s.drop 127 = s.drop k := by
  rcases Nat.lt_or_ge s.length 127 with h | h
  · have : k = s.length := by rw [← hk]; exact Nat.min_eq_left (by omega)
    rw [this, List.drop_length, List.drop_of_length_le (by omega)]
  · have : k = 127 := by rw [← hk]; exact Nat.min_eq_right h
    rw [this]
theorem sect_fill {l : List UInt8} {k : Nat} (hk : Nat.min l.length 128 = k) : l.take k ++ List.replicate (128 - k) 0 = Wl.piece l ∧ l.drop k = l.drop 128 := by
  unfold Wl.piece
  rcases Nat.lt_or_ge l.length 128 with h | h
  · have : k = l.length := by rw [← hk]; exact Nat.min_eq_left (by omega)
    subst this
    rw [List.take_length, List.take_of_length_le (by omega)]
    exact ⟨rfl, by rw [List.drop_length, List.drop_of_length_le (by omega)]⟩
  · have : k = 128 := by rw [← hk]; exact Nat.min_eq_right h
    subst this
    rw [List.length_take, Nat.min_eq_left h]
    exact ⟨rfl, rfl⟩
end Go.Proofs.Ytnfgapdpnihicaa
