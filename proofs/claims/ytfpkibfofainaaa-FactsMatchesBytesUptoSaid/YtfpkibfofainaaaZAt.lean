/- Reading back at an offset: numbers, integers, strings, values; and what a proper beginning gives: plain. -/
import Derived.Test.YtfpkibfofainaaaZValR
set_option linter.unusedVariables false
set_option linter.unusedSimpArgs false
namespace Go.Proofs.Ytfpkibfofainaaa
open Go.RowKit

theorem readU_at {n : Nat} (hn : n < 2 ^ 64) (p t : List UInt8) (l : List UInt8) (hl : l = p ++ Wire.encU n ++ t) (k : Int) (hk : k = p.length) : Wire.readU l k = (n, ((p ++ Wire.encU n).length : Int), 0) := by
  subst hl hk
  unfold Wire.readU
  rw [if_neg (by simp only [List.length_append]; omega), Int.toNat_natCast, List.append_assoc, List.drop_left, Wire.dec_enc _ hn, List.length_append]
  simp only
  congr 2
theorem readI_at {n : Int} (h1 : -9223372036854775808 ≤ n) (h2 : n ≤ 9223372036854775807) (p t : List UInt8) (l : List UInt8) (hl : l = p ++ Wire.encI n ++ t) (k : Int) (hk : k = p.length) : Wire.readI l k = (n, ((p ++ Wire.encI n).length : Int), 0) := by
  unfold Wire.readI
  rw [readU_at (Wire.zig_lt h1 h2) p t l hl k hk]
  simp only [if_pos]
  rw [Wire.zag_zig]
  rfl
theorem readT_at {s : List UInt8} (hs : s.length < 2 ^ 64) (p t : List UInt8) (l : List UInt8) (hl : l = p ++ Wire.encT s ++ t) (k : Int) (hk : k = p.length) : Wire.readT l k = (s, ((p ++ Wire.encT s).length : Int), 0) := by
  subst hl hk
  unfold Wire.readT
  rw [if_neg (by simp only [List.length_append]; omega), Int.toNat_natCast, List.append_assoc, List.drop_left, Wire.decT_enc _ _ hs, List.length_append]
  simp only
  congr 2
theorem bytes_back (s : ByteArray) : (⟨s.data.toList.toArray⟩ : ByteArray) = s := by cases s; simp
theorem check_null {v : Vl} (h : v.check = 0) (hk : v.k = 0) : v.n = 0 ∧ v.s = ⟨#[]⟩ := by
  unfold Vl.check at h
  rw [if_neg (by omega), if_pos hk] at h
  split at h
  · rename_i h2; exact ⟨h2.2, size_zero h2.1⟩
  · cases h
theorem check_boolS {v : Vl} (h : v.check = 0) (hk : v.k = 1) : v.s = ⟨#[]⟩ := by
  unfold Vl.check at h
  rw [if_neg (by omega), if_neg (by omega), if_pos hk] at h
  split at h
  · rename_i h2; exact size_zero h2.1
  · cases h
theorem check_numS {v : Vl} (h : v.check = 0) (hk : v.k = 2 ∨ v.k = 3) : v.s = ⟨#[]⟩ := by
  unfold Vl.check at h
  rw [if_neg (by omega), if_neg (by omega), if_neg (by omega), if_pos hk] at h
  split at h
  · cases h
  · rename_i h2; exact size_zero (by omega)
theorem check_strN {v : Vl} (h : v.check = 0) (hk : v.k = 4 ∨ v.k = 5) : v.n = 0 := by
  unfold Vl.check at h
  rw [if_neg (by omega), if_neg (by omega), if_neg (by omega), if_neg (by omega)] at h
  by_cases h0 : v.n = 0
  · exact h0
  · rw [if_pos h0] at h; cases h
theorem readV_at {v : Vl} (hv : v.check = 0) (p t : List UInt8) (l : List UInt8) (hl : l = p ++ v.enc ++ t) (k : Int) (hk : k = p.length) : readV l k = (v, ((p ++ v.enc).length : Int), 0) := by
  have he : v.enc = UInt8.ofNat v.k.toNat :: v.body := by unfold Vl.enc; rw [if_pos hv]
  rw [he] at hl ⊢
  have hl1 : l = (p ++ [UInt8.ofNat v.k.toNat]) ++ v.body ++ t := by rw [hl]; simp
  have hlen : l.length = p.length + 1 + v.body.length + t.length := by rw [hl1]; simp; omega
  have hk1 : k + 1 = ((p ++ [UInt8.ofNat v.k.toNat]).length : Int) := by rw [hk]; simp
  have hget : l.getD k.toNat 0 = UInt8.ofNat v.k.toNat := by
    rw [hk, Int.toNat_natCast, List.getD_eq_getElem?_getD, hl]; simp
  unfold readV
  rw [if_neg (by omega), if_neg (by omega)]
  have hend : ((p ++ UInt8.ofNat v.k.toNat :: v.body).length : Int) = k + 1 + v.body.length := by
    rw [hk]; simp; omega
  rw [hend]
  have key : readV0 l k = (v, k + 1 + (v.body.length : Int), 0) → checked (readV0 l k) = (v, k + 1 + (v.body.length : Int), 0) := fun h => by
    rw [h]; unfold checked; simp [hv]
  apply key
  unfold readV0
  simp only
  rw [hget]
  obtain ⟨vk, vn, vs⟩ := v
  simp only at *
  rcases check_k hv with h | h | h | h | h | h <;> simp only at h <;> subst h
  · have hb : (Vl.body ⟨0, vn, vs⟩) = [] := rfl
    have hz : vn = 0 ∧ vs = ⟨#[]⟩ := check_null hv rfl
    obtain ⟨rfl, rfl⟩ := hz
    rw [hb, show (((UInt8.ofNat (0 : Int).toNat).toNat : Nat) : Int) = 0 from rfl, if_pos rfl]
    simp
  · have hb : (Vl.body ⟨1, vn, vs⟩) = [UInt8.ofNat vn.toNat] := rfl
    rw [hb] at hl hl1 hlen ⊢
    have h01 := check_bool hv rfl
    have hz : vs = ⟨#[]⟩ := check_boolS hv rfl
    subst hz
    simp only at h01
    have hg2 : l.getD (k.toNat + 1) 0 = UInt8.ofNat vn.toNat := by
      rw [hk, Int.toNat_natCast, List.getD_eq_getElem?_getD, hl1, List.getElem?_append_left (by simp), List.getElem?_append_right (by simp)]
      simp
    rw [hg2]
    have hne : ¬ k + 1 = (l.length : Int) := by rw [hlen, hk]; simp; omega
    rw [show (((UInt8.ofNat (1 : Int).toNat).toNat : Nat) : Int) = 1 from rfl, if_neg (by decide), if_pos rfl, if_neg hne]
    rcases h01 with rfl | rfl <;> rfl
  · have hb : (Vl.body ⟨2, vn, vs⟩) = Wire.encI vn := rfl
    have hn := check_num hv (.inl rfl)
    have hz : vs = ⟨#[]⟩ := check_numS hv (.inl rfl)
    subst hz
    simp only at hn
    rw [hb] at hl1 ⊢
    have hr := readI_at (by omega) (by omega) _ t l hl1 (k + 1) hk1
    rw [show (((UInt8.ofNat (2 : Int).toNat).toNat : Nat) : Int) = 2 from rfl, if_neg (by decide), if_neg (by decide), if_pos (.inl rfl), hr]
    simp only [List.length_append]
    rw [hk1]
    simp
  · have hb : (Vl.body ⟨3, vn, vs⟩) = Wire.encI vn := rfl
    have hn := check_num hv (.inr rfl)
    have hz : vs = ⟨#[]⟩ := check_numS hv (.inr rfl)
    subst hz
    simp only at hn
    rw [hb] at hl1 ⊢
    have hr := readI_at (by omega) (by omega) _ t l hl1 (k + 1) hk1
    rw [show (((UInt8.ofNat (3 : Int).toNat).toNat : Nat) : Int) = 3 from rfl, if_neg (by decide), if_neg (by decide), if_pos (.inr rfl), hr]
    simp only [List.length_append]
    rw [hk1]
    simp
  · have hb : (Vl.body ⟨4, vn, vs⟩) = Wire.encT vs.data.toList := rfl
    have hs := check_str hv (.inl rfl)
    have hz : vn = 0 := check_strN hv (.inl rfl)
    subst hz
    simp only at hs
    have hsl : vs.data.toList.length = vs.size := by simp
    rw [hb] at hl1 ⊢
    have hr := readT_at (by omega) _ t l hl1 (k + 1) hk1
    rw [show (((UInt8.ofNat (4 : Int).toNat).toNat : Nat) : Int) = 4 from rfl, if_neg (by decide), if_neg (by decide), if_neg (by decide), if_pos (.inl rfl), hr]
    simp only [List.length_append, bytes_back]
    rw [hk1]
    simp
  · have hb : (Vl.body ⟨5, vn, vs⟩) = Wire.encT vs.data.toList := rfl
    have hs := check_str hv (.inr rfl)
    have hz : vn = 0 := check_strN hv (.inr rfl)
    subst hz
    simp only at hs
    have hsl : vs.data.toList.length = vs.size := by simp
    rw [hb] at hl1 ⊢
    have hr := readT_at (by omega) _ t l hl1 (k + 1) hk1
    rw [show (((UInt8.ofNat (5 : Int).toNat).toNat : Nat) : Int) = 5 from rfl, if_neg (by decide), if_neg (by decide), if_neg (by decide), if_pos (.inr rfl), hr]
    simp only [List.length_append, bytes_back]
    rw [hk1]
    simp

/-! ### A proper beginning -/
theorem readU_cut {n : Nat} (hn : n < 2 ^ 64) (p : List UInt8) (j : Nat) (hj : j < (Wire.encU n).length) : Wire.readU (p ++ (Wire.encU n).take j) (p.length : Int) = (0, 0, 41) := by
  unfold Wire.readU
  rw [if_neg (by simp only [List.length_append]; omega), Int.toNat_natCast, List.drop_left, Wire.dec_short hn hj]
theorem readI_cut {n : Int} (h1 : -9223372036854775808 ≤ n) (h2 : n ≤ 9223372036854775807) (p : List UInt8) (j : Nat) (hj : j < (Wire.encI n).length) : (Wire.readI (p ++ (Wire.encI n).take j) (p.length : Int)).2.2 = 41 := by
  unfold Wire.readI
  unfold Wire.encI at hj ⊢
  rw [readU_cut (Wire.zig_lt h1 h2) p j hj]
  rfl
theorem readT_cut {s : List UInt8} (hs : s.length < 2 ^ 64) (p : List UInt8) (j : Nat) (hj : j < (Wire.encT s).length) : (Wire.readT (p ++ (Wire.encT s).take j) (p.length : Int)).2.2 = 41 := by
  unfold Wire.readT
  rw [if_neg (by simp only [List.length_append]; omega), Int.toNat_natCast, List.drop_left, Wire.decT_short hs hj]
theorem checked_err {x : Vl × Int × Int} (h : x.2.2 = 41) : (checked x).2.2 = 41 := by
  unfold checked; rw [if_neg (by rw [h]; decide)]; exact h
theorem readV_cut {v : Vl} (hv : v.check = 0) (p : List UInt8) (j : Nat) (hj : j < v.enc.length) : (readV (p ++ v.enc.take j) (p.length : Int)).2.2 = 41 := by
  have he : v.enc = UInt8.ofNat v.k.toNat :: v.body := by unfold Vl.enc; rw [if_pos hv]
  rw [he] at hj ⊢
  unfold readV
  cases j with
  | zero =>
    rw [List.take_zero, List.append_nil, if_neg (by omega), if_pos rfl]
  | succ j =>
    replace hj : j < v.body.length := by rw [List.length_cons] at hj; omega
    rw [List.take_succ_cons]
    obtain ⟨l, hl⟩ : ∃ l, p ++ UInt8.ofNat v.k.toNat :: v.body.take j = l := ⟨_, rfl⟩
    have hl1 : (p ++ [UInt8.ofNat v.k.toNat]) ++ v.body.take j = l := by rw [← hl]; simp
    have hlen : l.length = p.length + 1 + j := by rw [← hl1]; simp; omega
    have hk1 : (p.length : Int) + 1 = ((p ++ [UInt8.ofNat v.k.toNat]).length : Int) := by simp
    have hget : l.getD (p.length : Int).toNat 0 = UInt8.ofNat v.k.toNat := by
      rw [Int.toNat_natCast, List.getD_eq_getElem?_getD, ← hl]; simp
    rw [hl, if_neg (by omega), if_neg (by omega)]
    apply checked_err
    unfold readV0
    simp only
    rw [hget]
    obtain ⟨vk, vn, vs⟩ := v
    simp only at *
    rcases check_k hv with h | h | h | h | h | h <;> simp only at h <;> subst h
    · have hb : (Vl.body ⟨0, vn, vs⟩) = [] := rfl
      rw [hb] at hj; simp at hj
    · have hb : (Vl.body ⟨1, vn, vs⟩) = [UInt8.ofNat vn.toNat] := rfl
      rw [hb] at hj
      have hj0 : j = 0 := by simp at hj; omega
      subst hj0
      rw [show (((UInt8.ofNat (1 : Int).toNat).toNat : Nat) : Int) = 1 from rfl, if_neg (by decide), if_pos rfl, if_pos (by omega)]
    · have hb : (Vl.body ⟨2, vn, vs⟩) = Wire.encI vn := rfl
      have hn := check_num hv (.inl rfl)
      simp only at hn
      rw [hb] at hl1 hj
      have hr := readI_cut (n := vn) (by omega) (by omega) (p ++ [UInt8.ofNat (2 : Int).toNat]) j hj
      rw [hl1, ← hk1] at hr
      rw [show (((UInt8.ofNat (2 : Int).toNat).toNat : Nat) : Int) = 2 from rfl, if_neg (by decide), if_neg (by decide), if_pos (.inl rfl)]
      exact hr
    · have hb : (Vl.body ⟨3, vn, vs⟩) = Wire.encI vn := rfl
      have hn := check_num hv (.inr rfl)
      simp only at hn
      rw [hb] at hl1 hj
      have hr := readI_cut (n := vn) (by omega) (by omega) (p ++ [UInt8.ofNat (3 : Int).toNat]) j hj
      rw [hl1, ← hk1] at hr
      rw [show (((UInt8.ofNat (3 : Int).toNat).toNat : Nat) : Int) = 3 from rfl, if_neg (by decide), if_neg (by decide), if_pos (.inr rfl)]
      exact hr
    · have hb : (Vl.body ⟨4, vn, vs⟩) = Wire.encT vs.data.toList := rfl
      have hs := check_str hv (.inl rfl)
      simp only at hs
      have hsl : vs.data.toList.length = vs.size := by simp
      rw [hb] at hl1 hj
      have hr := readT_cut (s := vs.data.toList) (by omega) (p ++ [UInt8.ofNat (4 : Int).toNat]) j hj
      rw [hl1, ← hk1] at hr
      rw [show (((UInt8.ofNat (4 : Int).toNat).toNat : Nat) : Int) = 4 from rfl, if_neg (by decide), if_neg (by decide), if_neg (by decide), if_pos (.inl rfl)]
      exact hr
    · have hb : (Vl.body ⟨5, vn, vs⟩) = Wire.encT vs.data.toList := rfl
      have hs := check_str hv (.inr rfl)
      simp only at hs
      have hsl : vs.data.toList.length = vs.size := by simp
      rw [hb] at hl1 hj
      have hr := readT_cut (s := vs.data.toList) (by omega) (p ++ [UInt8.ofNat (5 : Int).toNat]) j hj
      rw [hl1, ← hk1] at hr
      rw [show (((UInt8.ofNat (5 : Int).toNat).toNat : Nat) : Int) = 5 from rfl, if_neg (by decide), if_neg (by decide), if_neg (by decide), if_pos (.inr rfl)]
      exact hr
end Go.Proofs.Ytfpkibfofainaaa
