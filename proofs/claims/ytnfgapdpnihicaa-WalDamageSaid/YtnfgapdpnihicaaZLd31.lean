/- The walk over WalDamage. -/
import Derived.Test.YtnfgapdpnihicaaZFl31
set_option linter.unusedVariables false
set_option linter.unusedSimpArgs false
namespace Go.Proofs.Ytnfgapdpnihicaa
open Go Go.RowKit
open Wl

theorem damage_sector {rs : List (List UInt8)} {n a bit q : Nat} (hn : sizeL rs = n) (hC : (content rs).length ≤ 1200000000000) (ha : (Wire.encU (content rs).length).length = a) (hbit : bit < 8 * ((content rs).length + 4)) (hq : (placeR (a + bit / 8)).1 = q) : q < n := by
  have hss := stream_size rs
  have hn' : needs (stream rs).length = n := hn
  have hnb := needs_bd (stream rs).length
  have hn1 := needs_pos (stream rs).length
  rw [hn'] at hnb hn1
  obtain ⟨hp1, hp2, -⟩ := place_low hq
  generalize hc : content rs = c at *
  rw [ha] at hss
  have : a + bit / 8 < (stream rs).length := by omega
  unfold base at hp1
  split at hp1 <;> omega
theorem head_readU {rs : List (List UInt8)} (hC : (content rs).length ≤ 1200000000000) : Wire.readU (headS (stream rs)) 0 = ((content rs).length, ((Wire.encU (content rs).length).length : Int), 0) := by
  have hu := Wire.encU_len10 (n := (content rs).length) (by omega)
  have h5 : ∃ t, headS (stream rs) = Wire.encU (content rs).length ++ t := by
    have h1 : stream rs = Wire.encU (content rs).length ++ (content rs ++ sum4 (Wire.sumOf (content rs))) := by
      unfold stream Wire.encF
      rw [List.append_assoc]
    unfold headS
    rw [h1, List.take_append, List.take_of_length_le (by omega), List.append_assoc, List.append_assoc]
    exact ⟨_, rfl⟩
  obtain ⟨t, ht⟩ := h5
  rw [ht]
  have := readU_enc (n := (content rs).length) (by omega) [] t
  rw [List.nil_append, List.length_nil, Nat.zero_add] at this
  exact this
/-- What the damaged disk gives. -/
theorem damage_read {X : Dk} {rs : List (List UInt8)} {n a bit en q lim F bits : Nat} (hrn : rs.length ≤ 1048576) (hrr : ∀ r ∈ rs, r.length ≤ 1048576) (hne : rs ≠ []) (hX : (Dk.made 64).app 0 64 rs = (X, 0)) (hn : sizeL rs = n)
    (ha : (Wire.encU (content rs).length).length = a) (hbit : bit < 8 * ((content rs).length + 4)) (hen : en = if bit < 8 * (content rs).length then a + (content rs).length else a + (content rs).length + 4)
    (hq : (placeR (a + bit / 8)).1 = q) (hF : F = 8 * a + bit - 8 * base q) (hlim : lim = 8 * (min en (base q + roof q) - base q)) :
    ∃ (Y : Dk) (L : List (List UInt8)) (E : Nat) (c : Int), X.write q (Crc.flipE lim (X.sec.getD q []) F bits 32) = (Y, 0) ∧ Y.scan 0 64 = (L, E, c) ∧ (Crc.maskTo lim F bits 32 ≠ 0 → L = [] ∧ c = 40) ∧ (Crc.maskTo lim F bits 32 = 0 → c = 0) := by
  have hC := content_len hrn hrr
  obtain ⟨p1, p2, p3, p4, p5, p6⟩ := layout_plain hrn hrr hne hX
  have h0 := reg_made (n := 64) (f := 0) (m := 64) (by omega) (by omega) (by omega) (by omega)
  have hqn := damage_sector hn hC ha hbit hq
  rw [hn] at p3 p4
  have hql : q < X.sec.length := by omega
  have hg : X.sec.getD q [] = X.sec[q] := by rw [List.getD_eq_getElem?_getD, List.getElem?_eq_getElem hql]; rfl
  have hb : (Crc.flipE lim (X.sec.getD q []) F bits 32).length = 128 := by rw [Crc.flipE_length, hg]; exact p1.size q hql
  obtain ⟨w1, w2, w3⟩ := dk_write_ok p1 q hql _ hb
  have hput : X.write q (Crc.flipE lim (X.sec.getD q []) F bits 32) = ({ X with sec := X.sec.set q (Crc.flipE lim (X.sec.getD q []) F bits 32) }, 0) := by
    have := puts_free [(q, Crc.flipE lim (X.sec.getD q []) F bits 32)] p1 p6 p5 (fun x hx => by
      rw [List.mem_singleton] at hx
      subst hx
      exact ⟨hql, hb⟩)
    rw [Dk.puts_one] at this
    exact this
  by_cases hm : Crc.maskTo lim F bits 32 = 0
  · rw [Crc.flipE_none _ hm] at hput ⊢
    have hsame : X.sec.set q (X.sec.getD q []) = X.sec := by rw [hg]; exact List.set_getElem_self hql
    rw [hsame] at hput
    rcases app_law h0 rfl hrn hrr hX with ⟨-, -, h1⟩ | ⟨-, h1, -⟩ | ⟨-, -, -, -, h1⟩ | ⟨-, -, h3, h4, -, ⟨-, h6, h7, h8, h9⟩ | ⟨h1, -⟩⟩
    · omega
    · exact absurd h1 hne
    · omega
    · exact ⟨_, _, _, _, hput, h9.is p6, fun h => absurd hm h, fun _ => rfl⟩
    · omega
  · have hbad := (damage_plain (D := (Dk.made 64).sec) hn (by rw [← setAll_len (sched 0 n 64 (stream rs)), ← p4]; omega) p3 (by
      rw [← p4]
      intro x hx
      obtain ⟨i, hi, rfl⟩ := List.mem_iff_getElem.1 hx
      exact p1.size i hi) hC ha hbit hen hq hF hlim hm).2
    rw [← p4] at hbad
    rw [hput] at w1
    have hY : Dk.Ok { X with sec := X.sec.set q (Crc.flipE lim (X.sec.getD q []) F bits 32) } := by
      rw [show { X with sec := X.sec.set q (Crc.flipE lim (X.sec.getD q []) F bits 32) } = (X.wr q (Crc.flipE lim (X.sec.getD q []) F bits 32)).1 from congrArg Prod.fst w1]
      exact w2
    have hhd := sched_head (sec := (Dk.made 64).sec) (p := 0) (n := n) (e := 64) (s := stream rs) (by rw [← setAll_len (sched 0 n 64 (stream rs)), ← p4]; omega)
    rw [← p4] at hhd
    have hmk : marked (X.sec.set q (Crc.flipE lim (X.sec.getD q []) F bits 32)) 0 = true := by
      unfold marked
      rw [beq_iff_eq, List.getD_eq_getElem?_getD, List.getD_eq_getElem?_getD]
      by_cases hq0 : q = 0
      · subst hq0
        rw [List.getElem?_set_self hql, Option.getD_some, List.getD_eq_getElem?_getD, hhd, Option.getD_some]
        obtain ⟨A, hA⟩ : ∃ A, (stream rs).take 127 ++ List.replicate (127 - ((stream rs).take 127).length) 0 = A := ⟨_, rfl⟩
        have hAl : A.length = 127 := by rw [← hA, List.length_append, List.length_replicate, List.length_take]; omega
        unfold headS
        rw [hA, Crc.flipE_right _ _ (by rw [hAl, hlim]; unfold base roof; simp only [if_pos]; omega), List.getElem?_append_right (by rw [Crc.flipE_length, hAl]; omega), Crc.flipE_length, hAl]
        rfl
      · rw [List.getElem?_set_ne hq0, hhd]
        have := headS_mark (stream rs)
        rw [List.getD_eq_getElem?_getD] at this
        exact this
    have hscan : Dk.scan { X with sec := X.sec.set q (Crc.flipE lim (X.sec.getD q []) F bits 32) } 0 64 = ([], 0, 40) := by
      have hf : Dk.fits { X with sec := X.sec.set q (Crc.flipE lim (X.sec.getD q []) F bits 32) } 0 64 = true := by
        unfold Dk.fits
        rw [(Dk.valid_iff _).2 hY, Bool.true_and, decide_eq_true_eq]
        simp only [List.length_set]
        omega
      unfold Dk.scan
      rw [hf, if_neg (by decide)]
      simp only [p6]
      rw [if_neg (by decide), show (64 : Int).toNat = 63 + 1 from rfl, show (0 : Int).toNat = 0 from rfl, Nat.zero_add]
      unfold scanL
      rw [if_pos ⟨by omega, hmk⟩, hbad]
      rfl
    exact ⟨_, _, _, _, hput, hscan, fun _ => ⟨rfl, rfl⟩, fun h => absurd h hm⟩
end Go.Proofs.Ytnfgapdpnihicaa
