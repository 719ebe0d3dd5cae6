/- Chapter 31 in plain Lean: what is appended to a region is read from it, whether the disk stops on the way or not. -/
import Derived.Test.YtnfgapdpnihicaaZWp31
import Derived.Test.YtnfgapdpnihicaaZGE
set_option linter.unusedVariables false
set_option linter.unusedSimpArgs false
namespace Go.Proofs.Ytnfgapdpnihicaa
open Wl

/-! ### Sectors that are set -/
def setAll (sec : List (List UInt8)) : List (Nat × List UInt8) → List (List UInt8)
  | [] => sec
  | x :: r => setAll (sec.set x.1 x.2) r
theorem setAll_len (l : List (Nat × List UInt8)) : ∀ sec, (setAll sec l).length = sec.length := by
  induction l with
  | nil => intro sec; rfl
  | cons x r ih => intro sec; unfold setAll; rw [ih, List.length_set]
theorem setAll_append (a b : List (Nat × List UInt8)) : ∀ sec, setAll sec (a ++ b) = setAll (setAll sec a) b := by
  induction a with
  | nil => intro sec; rfl
  | cons x r ih => intro sec; simp only [List.cons_append, setAll]; rw [ih]
theorem setAll_ne {j : Nat} (l : List (Nat × List UInt8)) (h : ∀ x ∈ l, x.1 ≠ j) : ∀ sec : List (List UInt8), (setAll sec l)[j]? = sec[j]? := by
  induction l with
  | nil => intro sec; rfl
  | cons x r ih =>
    intro sec
    unfold setAll
    rw [ih (fun y hy => h y (List.mem_cons_of_mem _ hy)), List.getElem?_set_ne (h x (List.mem_cons_self ..))]
theorem putAt_len (sec : List (List UInt8)) (i : Nat) (b : List UInt8) : (putAt sec i b).length = sec.length := by simp [putAt]
theorem putAt_full {sec : List (List UInt8)} {i : Nat} {b : List UInt8} (h : (sec.getD i []).length ≤ b.length) : putAt sec i b = sec.set i b := by
  unfold putAt
  rw [List.drop_of_length_le h, List.append_nil]
theorem getD_size {d : Dk} (hd : d.Ok) {i : Nat} (hi : i < d.sec.length) : (d.sec.getD i []).length = 128 := by
  rw [List.getD_eq_getElem?_getD, List.getElem?_eq_getElem hi]
  exact hd.size i hi
theorem write_wr {d : Dk} (hd : d.Ok) (i : Nat) (hi : i < d.sec.length) (b : List UInt8) (hb : b.length = 128) : d.write i b = d.wr i b := by
  unfold Dk.write
  rw [if_neg]
  · rfl
  · rintro (h | h | h | h)
    · rw [(Dk.valid_iff d).2 hd] at h; cases h
    · omega
    · omega
    · exact h hb
theorem wr_len {d : Dk} (i : Nat) (b : List UInt8) : (d.wr i b).1.sec.length = d.sec.length := by
  unfold Dk.wr
  split
  · rfl
  · split <;> simp [putAt]
/-- Writes that are all performed. -/
theorem puts_free (l : List (Nat × List UInt8)) : ∀ {d : Dk}, d.Ok → d.stopped = false → d.left = -1 → (∀ x ∈ l, x.1 < d.sec.length ∧ x.2.length = 128) → d.puts l = ({ d with sec := setAll d.sec l }, 0) := by
  induction l with
  | nil => intro d _ _ _ _; rfl
  | cons x r ih =>
    intro d hd hs hl hx
    obtain ⟨h1, h2⟩ := hx x (List.mem_cons_self ..)
    have e : d.write x.1 x.2 = ({ d with sec := d.sec.set x.1 x.2 }, 0) := by
      rw [write_wr hd _ h1 _ h2]
      unfold Dk.wr
      rw [if_neg (by simp [hs]), if_neg (by omega), if_neg (by omega), putAt_full (by rw [getD_size hd h1, h2]; exact Nat.le_refl _)]
    have ho : Dk.Ok { d with sec := d.sec.set x.1 x.2 } := by
      have := dk_ok_wr hd x.1 h1 x.2 h2
      rw [← write_wr hd _ h1 _ h2, e] at this
      exact this
    rw [Dk.puts_ok e, ih ho hs hl (fun y hy => by
      have := hx y (List.mem_cons_of_mem _ hy)
      simpa using this)]
    rfl
/-- Writes: all are performed, or the disk stops at one of them. -/
theorem puts_cases (l : List (Nat × List UInt8)) : ∀ {d D : Dk} {c : Int}, d.Ok → d.stopped = false → (∀ x ∈ l, x.1 < d.sec.length ∧ x.2.length = 128) → d.puts l = (D, c) →
    D.Ok ∧ D.sec.length = d.sec.length ∧ ((c = 0 ∧ D.stopped = false ∧ D.sec = setAll d.sec l ∧ (d.left = -1 → D.left = -1)) ∨ (c = 300 ∧ D.stopped = true ∧ 0 ≤ d.left ∧ ∃ (k : Nat) (hk : k < l.length) (t : Nat), t ≤ 128 ∧ D.sec = putAt (setAll d.sec (l.take k)) (l[k]).1 ((l[k]).2.take t))) := by
  induction l with
  | nil => intro d D c hd hs _ h; cases h; exact ⟨hd, rfl, .inl ⟨rfl, hs, rfl, id⟩⟩
  | cons x r ih =>
    intro d D c hd hs hx h
    obtain ⟨h1, h2⟩ := hx x (List.mem_cons_self ..)
    have ho := dk_ok_wr hd x.1 h1 x.2 h2
    have hw := write_wr hd x.1 h1 x.2 h2
    have hln := wr_len (d := d) x.1 x.2
    by_cases h0 : d.left = 0
    · have e : d.wr x.1 x.2 = ({ d with sec := putAt d.sec x.1 (x.2.take d.tear.toNat), stopped := true }, 300) := by
        unfold Dk.wr
        rw [if_neg (by simp [hs]), if_pos h0]
      rw [e] at ho hw hln
      rw [Dk.puts_bad hw (by decide)] at h
      cases h
      exact ⟨ho, hln, .inr ⟨rfl, rfl, by omega, 0, by simp, d.tear.toNat, by have := hd.tear2; omega, rfl⟩⟩
    · have e : d.wr x.1 x.2 = ({ d with sec := d.sec.set x.1 x.2, left := if 0 < d.left then d.left - 1 else d.left }, 0) := by
        unfold Dk.wr
        rw [if_neg (by simp [hs]), if_neg h0, putAt_full (by rw [getD_size hd h1, h2]; exact Nat.le_refl _)]
      rw [e] at ho hw hln
      rw [Dk.puts_ok hw] at h
      obtain ⟨a1, a2, a3⟩ := ih ho hs (fun y hy => by
        have := hx y (List.mem_cons_of_mem _ hy)
        simpa using this) h
      have hl1 := hd.left1
      refine ⟨a1, a2.trans hln, ?_⟩
      rcases a3 with ⟨rfl, b1, b2, b3⟩ | ⟨rfl, b1, b2, k, hk, t, ht, b3⟩
      · exact .inl ⟨rfl, b1, b2, fun h => b3 (by simp only; rw [if_neg (by omega)]; exact h)⟩
      · refine .inr ⟨rfl, b1, ?_, k + 1, by simp only [List.length_cons]; omega, t, ht, b3⟩
        simp only at b2
        split at b2
        · omega
        · exact b2

/-! ### What a batch's sectors hold -/
def pcs : Nat → List UInt8 → List (List UInt8)
  | 0, _ => []
  | k + 1, l => piece l :: pcs k (l.drop 128)
theorem pcs_len : ∀ k l, (pcs k l).length = k
  | 0, _ => rfl
  | k + 1, l => by unfold pcs; rw [List.length_cons, pcs_len]
theorem pcs_flat : ∀ k l, l.length ≤ 128 * k → (pcs k l).flatten = l ++ List.replicate (128 * k - l.length) 0
  | 0, l, h => by
    have : l = [] := List.length_eq_zero_iff.1 (by omega)
    subst this
    rfl
  | k + 1, l, h => by
    unfold pcs
    rw [List.flatten_cons, pcs_flat k _ (by rw [List.length_drop]; omega)]
    unfold piece
    rw [List.length_drop, List.length_take]
    rcases Nat.lt_or_ge l.length 128 with h1 | h1
    · rw [List.take_of_length_le (by omega), List.drop_of_length_le (by omega), List.nil_append, List.append_assoc, List.replicate_append_replicate]
      exact congrArg (fun n => _ ++ List.replicate n 0) (by omega)
    · rw [Nat.min_eq_left h1, Nat.sub_self, List.replicate_zero, List.append_nil, ← List.append_assoc, List.take_append_drop]
      exact congrArg (fun n => _ ++ List.replicate n 0) (by omega)
theorem secs_idx {p : Nat} : ∀ (i k : Nat) (l : List UInt8), ∀ x ∈ secs p i k l, p + i ≤ x.1 ∧ x.1 < p + i + k ∧ x.2.length = 128
  | i, 0, l, x, h => by unfold secs at h; cases h
  | i, k + 1, l, x, h => by
    unfold secs at h
    rcases List.mem_cons.1 h with rfl | h
    · exact ⟨Nat.le_refl _, by simp only; omega, piece_len _⟩
    · obtain ⟨h1, h2, h3⟩ := secs_idx (i + 1) k _ x h
      exact ⟨by omega, by omega, h3⟩
theorem secs_get {p : Nat} : ∀ (i k : Nat) (l : List UInt8) (sec : List (List UInt8)), p + i + k ≤ sec.length → ∀ j (h : j < k), (setAll sec (secs p i k l))[p + i + j]? = some ((pcs k l)[j]'(by rw [pcs_len]; exact h))
  | i, 0, l, sec, hs, j, h => absurd h (by omega)
  | i, k + 1, l, sec, hs, j, h => by
    unfold secs setAll
    cases j with
    | zero =>
      rw [setAll_ne _ (fun x hx => by have := secs_idx (i + 1) k _ x hx; omega), Nat.add_zero, List.getElem?_set_self (by omega)]
      simp [pcs]
    | succ j =>
      have := secs_get (p := p) (i + 1) k (l.drop 128) (sec.set (p + i) (piece l)) (by rw [List.length_set]; omega) j (by omega)
      rw [show p + i + (j + 1) = p + (i + 1) + j by omega, this]
      simp [pcs]
/-- What is written ahead of the head. -/
def init (p n e : Nat) (s : List UInt8) : List (Nat × List UInt8) := secs p 1 (n - 1) (s.drop 127) ++ (if p + n < e then [(p + n, zeroSec)] else [])
theorem sched_init (p n e : Nat) (s : List UInt8) : sched p n e s = init p n e s ++ [(p, headS s)] := by unfold sched init; rw [List.append_assoc]
theorem init_idx {p n e : Nat} {s : List UInt8} (hn : 1 ≤ n) (he : p + n ≤ e) : ∀ x ∈ init p n e s, p < x.1 ∧ x.1 < e ∧ x.2.length = 128 := by
  intro x hx
  unfold init at hx
  rcases List.mem_append.1 hx with hx | hx
  · obtain ⟨h1, h2, h3⟩ := secs_idx _ _ _ x hx
    exact ⟨by omega, by omega, h3⟩
  · split at hx
    · rename_i h
      rw [List.mem_singleton] at hx
      subst hx
      exact ⟨by simp only; omega, h, zeroSec_len⟩
    · cases hx
theorem sched_idx {p n e : Nat} {s : List UInt8} (hn : 1 ≤ n) (he : p + n ≤ e) : ∀ x ∈ sched p n e s, p ≤ x.1 ∧ x.1 < e ∧ x.2.length = 128 := by
  intro x hx
  rw [sched_init] at hx
  rcases List.mem_append.1 hx with hx | hx
  · obtain ⟨h1, h2, h3⟩ := init_idx hn he x hx
    exact ⟨by omega, h2, h3⟩
  · rw [List.mem_singleton] at hx
    subst hx
    exact ⟨Nat.le_refl _, by simp only; omega, headS_len _⟩

/-! ### What is read depends on the region -/
theorem tail_same {sec sec' : List (List UInt8)} {p m : Nat} (h : ∀ j, p ≤ j → j < p + m → sec'[j]? = sec[j]?) : (sec'.drop (p + 1)).take (m - 1) = (sec.drop (p + 1)).take (m - 1) := by
  apply List.ext_getElem?
  intro i
  rw [List.getElem?_take, List.getElem?_take, List.getElem?_drop, List.getElem?_drop]
  split
  · exact h _ (by omega) (by omega)
  · rfl
theorem getD_same {sec sec' : List (List UInt8)} {p : Nat} (h : sec'[p]? = sec[p]?) : sec'.getD p [] = sec.getD p [] := by
  rw [List.getD_eq_getElem?_getD, List.getD_eq_getElem?_getD, h]
theorem marked_same {sec sec' : List (List UInt8)} {p : Nat} (h : sec'[p]? = sec[p]?) : marked sec' p = marked sec p := by unfold marked; rw [getD_same h]
theorem batch_local {sec sec' : List (List UInt8)} {p e m : Nat} {rs : List (List UInt8)} (hb : batch sec p e = (m, rs, 0)) (hp : p < e) (h : ∀ j, p ≤ j → j < p + m → sec'[j]? = sec[j]?) : batch sec' p e = (m, rs, 0) := by
  have hm := batch_bd hb hp
  have hh := getD_same (h p (Nat.le_refl _) (by omega))
  rw [← hb]
  unfold batch at hb ⊢
  simp only [hh] at hb ⊢
  split at hb
  · cases hb
  · rename_i h1
    rw [if_neg h1, if_neg h1]
    split at hb
    · cases hb
    · rename_i h2
      rw [if_neg h2, if_neg h2]
      split at hb
      · cases hb
      · rename_i h3
        obtain ⟨o, ho⟩ : ∃ o, parts (List.take (Wire.readU (List.take 127 (sec.getD p [])) 0).fst (List.drop (Wire.readU (List.take 127 (sec.getD p [])) 0).snd.fst.toNat (List.take 127 (sec.getD p []) ++ (List.take (needs ((Wire.readU (List.take 127 (sec.getD p [])) 0).snd.fst.toNat + (Wire.readU (List.take 127 (sec.getD p [])) 0).fst + 4) - 1) (List.drop (p + 1) sec)).flatten))) = o := ⟨_, rfl⟩
        rw [ho] at hb
        cases o with
        | none => cases hb
        | some l =>
          simp only [got, Prod.mk.injEq] at hb
          have e1 := hb.1
          rw [← e1] at h
          rw [tail_same h]
theorem batch_same {sec sec' : List (List UInt8)} {p e : Nat} (hp : p < e) (h : ∀ j, p ≤ j → j < e → sec'[j]? = sec[j]?) : batch sec' p e = batch sec p e := by
  have hh := getD_same (h p (Nat.le_refl _) hp)
  unfold batch
  simp only [hh]
  split
  · rfl
  · split
    · rfl
    · rename_i h2
      rw [tail_same fun j h3 h4 => h j h3 (by omega)]
theorem scanL_same {sec sec' : List (List UInt8)} {e : Nat} : ∀ (k p : Nat), (∀ j, p ≤ j → j < e → sec'[j]? = sec[j]?) → scanL sec' e k p = scanL sec e k p
  | 0, p, _ => rfl
  | k + 1, p, h => by
    unfold scanL
    by_cases hp : p < e
    · rw [marked_same (h p (Nat.le_refl _) hp), batch_same hp h, scanL_same k (p + (batch sec p e).1) (fun j h1 h2 => h j (by omega) h2)]
    · rw [if_neg (fun h => hp h.1), if_neg (fun h => hp h.1)]
theorem Scans.more {sec sec' : List (List UInt8)} {e f : Nat} : ∀ (k p : Nat) {rs : List (List UInt8)} {E : Nat} {acc : List (List UInt8)}, scanL sec e k p = (rs, E, 0) → p ≤ e → (∀ j, p ≤ j → j < E → sec'[j]? = sec[j]?) → Scans sec' e f acc p → Scans sec' e f (acc ++ rs) E
  | 0, p, rs, E, acc, h, _, _, hs => by unfold scanL at h; cases h; rwa [List.append_nil]
  | k + 1, p, rs, E, acc, h, hp, ha, hs => by
    unfold scanL at h
    split at h
    · rename_i hc
      split at h
      · rename_i hb
        split at h
        · rename_i hz
          obtain ⟨⟨m, r1, c1⟩, hB⟩ : ∃ r, batch sec p e = r := ⟨_, rfl⟩
          rw [hB] at h hb hz
          simp only at h hb hz
          subst hb
          obtain ⟨⟨r2, E2, c2⟩, hR⟩ : ∃ r, scanL sec e k (p + m) = r := ⟨_, rfl⟩
          rw [hR] at h hz
          simp only at h hz
          subst hz
          simp only [Prod.mk.injEq] at h
          obtain ⟨rfl, rfl, -⟩ := h
          have hm := batch_bd hB hc.1
          have hE := scanL_le _ _ hR hm.2
          rw [← List.append_assoc]
          exact Scans.more k (p + m) hR hm.2 (fun j h1 h2 => ha j (by omega) h2) (hs.step hc.1 (by rw [marked_same (ha p (Nat.le_refl _) (by omega))]; exact hc.2) (batch_local hB hc.1 fun j h1 h2 => ha j h1 (by omega)))
        · rename_i hz
          simp only [Prod.mk.injEq] at h
          exact absurd h.2.2 hz
      · rename_i hb
        simp only [Prod.mk.injEq] at h
        exact absurd h.2.2 hb
    · cases h
      rwa [List.append_nil]
/-- Where a scan ends. -/
theorem scanL_end {sec : List (List UInt8)} {e : Nat} : ∀ (k p : Nat) {rs : List (List UInt8)} {E : Nat}, scanL sec e k p = (rs, E, 0) → p ≤ e → e - p ≤ k → ¬ (E < e ∧ marked sec E = true)
  | 0, p, rs, E, h, hp, hk => by unfold scanL at h; cases h; omega
  | k + 1, p, rs, E, h, hp, hk => by
    unfold scanL at h
    split at h
    · rename_i hc
      split at h
      · rename_i hb
        split at h
        · rename_i hz
          obtain ⟨⟨m, r1, c1⟩, hB⟩ : ∃ r, batch sec p e = r := ⟨_, rfl⟩
          rw [hB] at h hb hz
          simp only at h hb hz
          subst hb
          obtain ⟨⟨r2, E2, c2⟩, hR⟩ : ∃ r, scanL sec e k (p + m) = r := ⟨_, rfl⟩
          rw [hR] at h hz
          simp only at h hz
          subst hz
          simp only [Prod.mk.injEq] at h
          obtain ⟨rfl, rfl, -⟩ := h
          have hm := batch_bd hB hc.1
          exact scanL_end k (p + m) hR hm.2 (by omega)
        · rename_i hz
          simp only [Prod.mk.injEq] at h
          exact absurd h.2.2 hz
      · rename_i hb
        simp only [Prod.mk.injEq] at h
        exact absurd h.2.2 hb
    · rename_i hc
      cases h
      exact hc
/-- The same batches, and nothing behind them. -/
theorem scanL_keep {sec sec' : List (List UInt8)} {e p E : Nat} {rs : List (List UInt8)} (h : scanL sec e (e - p) p = (rs, E, 0)) (hp : p ≤ e) (ha : ∀ j, p ≤ j → j < E → sec'[j]? = sec[j]?) (hE : ¬ (E < e ∧ marked sec' E = true)) : scanL sec' e (e - p) p = (rs, E, 0) := by
  have := Scans.more (f := p) (acc := []) _ _ h hp ha (Scans.start _ _ _)
  rw [List.nil_append] at this
  exact this.stop hE

/-! ### A batch that was written is read -/
theorem readU_enc {n : Nat} (hn : n < 2 ^ 64) (a t : List UInt8) : Wire.readU (a ++ (Wire.encU n ++ t)) (a.length : Int) = (n, ((a.length + (Wire.encU n).length : Nat) : Int), 0) := by
  unfold Wire.readU
  rw [if_neg (by rw [List.length_append]; omega), Int.toNat_natCast, List.drop_left, Wire.dec_enc _ hn]
  simp
theorem readT_enc {s : List UInt8} (hn : s.length < 2 ^ 64) (a t : List UInt8) : Wire.readT (a ++ (Wire.encT s ++ t)) (a.length : Int) = (s, ((a.length + (Wire.encT s).length : Nat) : Int), 0) := by
  unfold Wire.readT
  rw [if_neg (by rw [List.length_append]; omega), Int.toNat_natCast, List.drop_left, Wire.decT_enc _ _ hn]
  simp
theorem loop_enc : ∀ (rs : List (List UInt8)) (a : List UInt8) (acc : List (List UInt8)), (∀ r ∈ rs, r.length < 2 ^ 64) → loop (a ++ rs.flatMap Wire.encT) rs.length (a.length : Int) acc = (acc ++ rs, ((a ++ rs.flatMap Wire.encT).length : Int), 0)
  | [], a, acc, _ => by simp [loop]
  | r :: rs, a, acc, h => by
    rw [List.flatMap_cons, List.length_cons, loop, readT_enc (h r (List.mem_cons_self ..)), if_pos rfl]
    have := loop_enc rs (a ++ Wire.encT r) (acc ++ [r]) (fun x hx => h x (List.mem_cons_of_mem _ hx))
    rw [List.length_append, List.append_assoc, List.append_assoc] at this
    exact this
theorem parts_content {rs : List (List UInt8)} (hn : rs.length < 2 ^ 64) (hr : ∀ r ∈ rs, r.length < 2 ^ 64) : parts (content rs) = some rs := by
  have h1 := readU_enc hn [] (rs.flatMap Wire.encT)
  rw [List.nil_append, List.length_nil, Nat.zero_add] at h1
  have h2 := loop_enc rs (Wire.encU rs.length) [] hr
  rw [List.nil_append] at h2
  unfold parts content
  rw [show ((0 : Nat) : Int) = 0 from rfl] at h1
  rw [h1]
  simp only
  rw [h2]
  simp
theorem headS_take (s : List UInt8) : (headS s).take 127 = s.take 127 ++ List.replicate (127 - (s.take 127).length) 0 := by
  unfold headS
  rw [List.take_append_of_le_length (by rw [List.length_append, List.length_replicate, List.length_take]; omega), List.take_of_length_le (by rw [List.length_append, List.length_replicate, List.length_take]; omega)]
theorem headS_mark (s : List UInt8) : (headS s).getD 127 0 = 165 := by
  unfold headS
  rw [List.getD_eq_getElem?_getD, List.getElem?_append_right (by rw [List.length_append, List.length_replicate, List.length_take]; omega), List.length_append, List.length_replicate, List.length_take, show 127 - (min 127 s.length + (127 - min 127 s.length)) = 0 by omega]
  rfl
theorem needs_bd (n : Nat) : n ≤ 127 + 128 * (needs n - 1) := by unfold needs; omega
theorem batch_written {sec : List (List UInt8)} {p e : Nat} {rs : List (List UInt8)} (hn : rs.length ≤ 1048576) (hr : ∀ r ∈ rs, r.length ≤ 1048576)
    (hh : sec[p]? = some (headS (stream rs))) (ht : (sec.drop (p + 1)).take (needs (stream rs).length - 1) = pcs (needs (stream rs).length - 1) ((stream rs).drop 127)) (he : p + needs (stream rs).length ≤ e) :
    batch sec p e = (needs (stream rs).length, rs, 0) := by
  obtain ⟨C, hC⟩ : ∃ C, content rs = C := ⟨_, rfl⟩
  have hcl : C.length ≤ 1200000000000 := by rw [← hC]; exact content_len hn hr
  have hpc : parts C = some rs := by rw [← hC]; exact parts_content (by omega) (fun r h => by have := hr r h; omega)
  have hs : stream rs = Wire.encU C.length ++ C ++ sum4 (Wire.sumOf C) := by unfold stream Wire.encF; rw [hC]
  generalize stream rs = s at *
  have hu := Wire.encU_len10 (n := C.length) (by omega)
  have h4 : (sum4 (Wire.sumOf C)).length = 4 := rfl
  have hsl : s.length = (Wire.encU C.length).length + C.length + 4 := by rw [hs, List.length_append, List.length_append, h4]
  have hb := needs_bd s.length
  have hnp := needs_pos s.length
  have hg : sec.getD p [] = headS s := by rw [List.getD_eq_getElem?_getD, hh]; rfl
  obtain ⟨H, hH⟩ : ∃ H, (headS s).take 127 = H := ⟨_, rfl⟩
  have hHl : H.length = 127 := by rw [← hH, List.length_take, headS_len]; omega
  have hb2 : H ++ (pcs (needs s.length - 1) (s.drop 127)).flatten = s ++ List.replicate (127 + 128 * (needs s.length - 1) - s.length) 0 := by
    rw [pcs_flat _ _ (by rw [List.length_drop]; omega), ← hH, headS_take, List.length_take, List.length_drop]
    rcases Nat.lt_or_ge s.length 127 with h1 | h1
    · rw [List.take_of_length_le (by omega), List.drop_of_length_le (by omega), List.nil_append, List.append_assoc, List.replicate_append_replicate]
      exact congrArg (fun n => _ ++ List.replicate n 0) (by omega)
    · rw [Nat.min_eq_left h1, Nat.sub_self, List.replicate_zero, List.append_nil, ← List.append_assoc, List.take_append_drop]
      exact congrArg (fun n => _ ++ List.replicate n 0) (by omega)
  have hru : Wire.readU H 0 = (C.length, ((Wire.encU C.length).length : Int), 0) := by
    have h5 : ∃ t, H = Wire.encU C.length ++ t := by
      rw [← hH, headS_take, hs, List.append_assoc, List.take_append, List.take_of_length_le (by omega)]
      exact ⟨_, List.append_assoc ..⟩
    obtain ⟨t, rfl⟩ := h5
    have := readU_enc (n := C.length) (by omega) [] t
    rw [List.nil_append, List.length_nil, Nat.zero_add] at this
    exact this
  unfold batch
  simp only [hg, hH, hru, Int.toNat_natCast]
  rw [← hsl, if_neg (by
    rintro (h | h)
    · exact h rfl
    · omega), if_neg (by omega), ht, hb2]
  have e1 : List.take C.length (List.drop (Wire.encU C.length).length (s ++ List.replicate (127 + 128 * (needs s.length - 1) - s.length) 0)) = C := by
    rw [hs, List.append_assoc, List.append_assoc, List.drop_left, List.take_left]
  have e2 : List.take 4 (List.drop ((Wire.encU C.length).length + C.length) (s ++ List.replicate (127 + 128 * (needs s.length - 1) - s.length) 0)) = sum4 (Wire.sumOf C) := by
    rw [hs, List.append_assoc, show (Wire.encU C.length).length + C.length = (Wire.encU C.length ++ C).length by rw [List.length_append], List.drop_left, List.take_append_of_le_length (by rw [h4]; exact Nat.le_refl _), List.take_of_length_le (by rw [h4]; exact Nat.le_refl _)]
  rw [e1, e2, if_neg (fun h => h rfl), hpc]
  rfl

/-! ### A region after an append -/
theorem after_all {sec : List (List UInt8)} {p e E : Nat} {old rs : List (List UInt8)} (hn : rs.length ≤ 1048576) (hr : ∀ r ∈ rs, r.length ≤ 1048576) (h : scanL sec e (e - p) p = (old, E, 0)) (hp : p ≤ e) (hel : e ≤ sec.length) (he : E + needs (stream rs).length ≤ e) :
    scanL (setAll sec (sched E (needs (stream rs).length) e (stream rs))) e (e - p) p = (old ++ rs, E + needs (stream rs).length, 0) := by
  have hpe := scanL_le _ _ h hp
  obtain ⟨n, hnn⟩ : ∃ n, needs (stream rs).length = n := ⟨_, rfl⟩
  have hn1 : 1 ≤ n := by rw [← hnn]; exact needs_pos _
  obtain ⟨X, hX⟩ : ∃ X, setAll sec (sched E n e (stream rs)) = X := ⟨_, rfl⟩
  rw [hnn] at he ⊢
  rw [hX]
  have hXE : X[E]? = some (headS (stream rs)) := by
    rw [← hX, sched_init, setAll_append]
    simp only [setAll]
    rw [List.getElem?_set_self (by rw [setAll_len]; omega)]
  have hlt : ∀ j, j < E → X[j]? = sec[j]? := fun j hj => by
    rw [← hX]
    exact setAll_ne _ (fun x hx => by have := sched_idx hn1 he x hx; omega) _
  have hXs : (X.drop (E + 1)).take (n - 1) = pcs (n - 1) ((stream rs).drop 127) := by
    have hXl : X.length = sec.length := by rw [← hX, setAll_len]
    apply List.ext_getElem?
    intro i
    rw [List.getElem?_take]
    split
    · rename_i hi
      rw [List.getElem?_drop, ← hX, sched_init, setAll_append]
      simp only [setAll]
      rw [List.getElem?_set_ne (by omega)]
      unfold init
      rw [setAll_append, setAll_ne _ (fun x hx => by
        split at hx
        · rw [List.mem_singleton] at hx
          subst hx
          simp only
          omega
        · cases hx)]
      rw [secs_get 1 (n - 1) _ sec (by omega) i hi, List.getElem?_eq_getElem]
    · rename_i hi
      rw [List.getElem?_eq_none (by rw [pcs_len]; omega)]
  have hbt : batch X E e = (n, rs, 0) := by
    have := batch_written (sec := X) (p := E) (e := e) hn hr hXE (by rw [hnn]; exact hXs) (by rw [hnn]; exact he)
    rw [hnn] at this
    exact this
  have hmk : marked X E = true := by
    unfold marked
    rw [show X.getD E [] = headS (stream rs) by rw [List.getD_eq_getElem?_getD, hXE]; rfl, headS_mark]
    rfl
  have hsc := Scans.more (sec' := X) (f := p) (acc := []) _ _ h hp (fun j _ hj => hlt j hj) (Scans.start _ _ _)
  rw [List.nil_append] at hsc
  refine (hsc.step (by omega) hmk hbt).stop ?_
  rintro ⟨h1, h2⟩
  have : X[E + n]? = some zeroSec := by
    rw [← hX, sched_init, setAll_append]
    simp only [setAll]
    rw [List.getElem?_set_ne (by omega)]
    unfold init
    rw [setAll_append, if_pos h1]
    simp only [setAll]
    rw [List.getElem?_set_self (by rw [setAll_len]; omega)]
  unfold marked at h2
  rw [show X.getD (E + n) [] = zeroSec by rw [List.getD_eq_getElem?_getD, this]; rfl] at h2
  revert h2
  decide
/-- The disk stops on the way: not a sector of the batches before is changed, and the head is the last. -/
theorem after_some {sec : List (List UInt8)} {p e E n : Nat} {old : List (List UInt8)} {s : List UInt8} (hn1 : 1 ≤ n) (h : scanL sec e (e - p) p = (old, E, 0)) (hp : p ≤ e) (hel : e ≤ sec.length) (hsz : ∀ i (h : i < sec.length), (sec[i]).length = 128) (he : E + n ≤ e) (k : Nat) (hk : k < (sched E n e s).length) (t : Nat) (ht : t ≤ 128) :
    (t = 128 ∧ putAt (setAll sec ((sched E n e s).take k)) ((sched E n e s)[k]).1 (((sched E n e s)[k]).2.take t) = setAll sec (sched E n e s)) ∨ scanL (putAt (setAll sec ((sched E n e s).take k)) ((sched E n e s)[k]).1 (((sched E n e s)[k]).2.take t)) e (e - p) p = (old, E, 0) := by
  have hpe := scanL_le _ _ h hp
  have hend := scanL_end _ _ h hp (Nat.le_refl _)
  have hEe : E < e := by omega
  have hmk : marked sec E = false := by
    cases hq : marked sec E with
    | false => rfl
    | true => exact absurd ⟨hEe, hq⟩ hend
  have hlen : (sched E n e s).length = (init E n e s).length + 1 := by rw [sched_init, List.length_append]; rfl
  have hkeep : ∀ X : List (List UInt8), (∀ j, j < E → X[j]? = sec[j]?) → (X.getD E []).getD 127 0 = (sec.getD E []).getD 127 0 → scanL X e (e - p) p = (old, E, 0) := fun X h1 h2 => scanL_keep h hp (fun j _ hj => h1 j hj) (fun h3 => by
    have h4 := h3.2
    unfold marked at h4 hmk
    rw [h2, hmk] at h4
    cases h4)
  have hidx : ∀ x ∈ (sched E n e s).take k, E < x.1 := fun x hx => by
    rw [sched_init, List.take_append_of_le_length (by omega)] at hx
    exact (init_idx hn1 he x (List.mem_of_mem_take hx)).1
  have hpre : ∀ j, j ≤ E → (setAll sec ((sched E n e s).take k))[j]? = sec[j]? := fun j hj => setAll_ne _ (fun x hx => by have := hidx x hx; omega) _
  by_cases hkl : k < (init E n e s).length
  · right
    have hx := init_idx hn1 he _ (List.getElem_mem hkl)
    have e1 : (sched E n e s)[k] = (init E n e s)[k] := by
      simp only [sched_init]
      rw [List.getElem_append_left hkl]
    rw [e1]
    have hj : ∀ j, j ≤ E → (putAt (setAll sec ((sched E n e s).take k)) (init E n e s)[k].1 (List.take t (init E n e s)[k].2))[j]? = sec[j]? := fun j hj => by
      unfold putAt
      rw [List.getElem?_set_ne (by omega)]
      exact hpre j hj
    refine hkeep _ (fun j h1 => hj j (by omega)) ?_
    rw [getD_same (hj E (Nat.le_refl _))]
  · obtain rfl : k = (init E n e s).length := by omega
    have e1 : (sched E n e s)[(init E n e s).length] = (E, headS s) := by
      simp only [sched_init]
      rw [List.getElem_append_right (Nat.le_refl _)]
      simp
    have e2 : (sched E n e s).take (init E n e s).length = init E n e s := by rw [sched_init, List.take_left]
    rw [e1]
    simp only
    have hgE : ((setAll sec ((sched E n e s).take (init E n e s).length)).getD E []) = sec.getD E [] := getD_same (hpre E (Nat.le_refl _))
    have hsE : (sec.getD E []).length = 128 := by
      rw [List.getD_eq_getElem?_getD, List.getElem?_eq_getElem (by omega)]
      exact hsz _ _
    rcases Nat.lt_or_ge t 128 with h1 | h1
    · right
      refine hkeep _ (fun j h1 => ?_) ?_
      · unfold putAt
        rw [List.getElem?_set_ne (by omega)]
        exact hpre j (by omega)
      · unfold putAt
        rw [hgE]
        rw [List.getD_eq_getElem?_getD (a := []), List.getElem?_set_self (by rw [setAll_len]; omega), Option.getD_some]
        have htl : (List.take t (headS s)).length = t := by rw [List.length_take, headS_len]; omega
        rw [List.getD_eq_getElem?_getD, List.getElem?_append_right (by rw [htl]; omega), htl, List.getElem?_drop, List.getD_eq_getElem?_getD (i := 127), show t + (127 - t) = 127 by omega]
    · left
      obtain rfl : t = 128 := by omega
      refine ⟨rfl, ?_⟩
      rw [List.take_of_length_le (l := headS s) (by rw [headS_len]; exact Nat.le_refl _), putAt_full (by rw [hgE, hsE, headS_len]; exact Nat.le_refl _), e2, sched_init, setAll_append]
      rfl
theorem putAt_out {sec : List (List UInt8)} {i j : Nat} {b : List UInt8} (h : i ≠ j) : (putAt sec i b)[j]? = sec[j]? := by unfold putAt; rw [List.getElem?_set_ne h]
/-- Writing a batch. -/
theorem puts_law {d D : Dk} {c : Int} {p e E : Nat} {old rs : List (List UInt8)} (hd : d.Ok) (hs : d.stopped = false) (hn : rs.length ≤ 1048576) (hr : ∀ r ∈ rs, r.length ≤ 1048576) (h : scanL d.sec e (e - p) p = (old, E, 0)) (hp : p ≤ e) (hel : e ≤ d.sec.length) (he : E + needs (stream rs).length ≤ e)
    (hw : d.puts (sched E (needs (stream rs).length) e (stream rs)) = (D, c)) :
    D.Ok ∧ D.sec.length = d.sec.length ∧ (∀ j, j < E ∨ e ≤ j → D.sec[j]? = d.sec[j]?) ∧
    ((c = 0 ∧ D.stopped = false ∧ (d.left = -1 → D.left = -1) ∧ D.sec = setAll d.sec (sched E (needs (stream rs).length) e (stream rs)) ∧ scanL D.sec e (e - p) p = (old ++ rs, E + needs (stream rs).length, 0)) ∨
     (c = 300 ∧ D.stopped = true ∧ 0 ≤ d.left ∧ (scanL D.sec e (e - p) p = (old, E, 0) ∨ scanL D.sec e (e - p) p = (old ++ rs, E + needs (stream rs).length, 0)))) := by
  have hn1 := needs_pos (stream rs).length
  have hall := after_all hn hr h hp hel he
  have hidx := sched_idx (s := stream rs) hn1 he
  obtain ⟨h1, h2, h3⟩ := puts_cases _ hd hs (fun x hx => by have := hidx x hx; exact ⟨by omega, this.2.2⟩) hw
  refine ⟨h1, h2, fun j hj => ?_, ?_⟩
  · rcases h3 with ⟨-, -, e1, -⟩ | ⟨-, -, -, k, hk, t, ht, e1⟩
    · rw [e1]
      exact setAll_ne _ (fun x hx => by have := hidx x hx; omega) _
    · rw [e1, putAt_out (by have := hidx _ (List.getElem_mem hk); omega)]
      exact setAll_ne _ (fun x hx => by have := hidx x (List.mem_of_mem_take hx); omega) _
  · rcases h3 with ⟨rfl, h4, e1, h5⟩ | ⟨rfl, h4, h5, k, hk, t, ht, e1⟩
    · exact .inl ⟨rfl, h4, h5, e1, by rw [e1]; exact hall⟩
    · refine .inr ⟨rfl, h4, h5, ?_⟩
      rcases after_some hn1 h hp hel hd.size he k hk t ht with ⟨-, h6⟩ | h6
      · right; rw [e1, h6]; exact hall
      · left; rw [e1]; exact h6
end Go.Proofs.Ytnfgapdpnihicaa
