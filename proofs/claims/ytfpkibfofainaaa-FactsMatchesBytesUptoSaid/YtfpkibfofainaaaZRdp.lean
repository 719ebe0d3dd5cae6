/- What facts.Read reads, and that it reads back what was appended: plain. -/
import Derived.Test.YtfpkibfofainaaaZAt
import Derived.Test.YtfpkibfofainaaaZPart
import Derived.Test.YtfpkibfofainaaaZFapp
import Derived.Test.YtfpkibfofainaaaZSame
set_option linter.unusedVariables false
set_option linter.unusedSimpArgs false
namespace Go.Proofs.Ytfpkibfofainaaa
open Go.RowKit

def Fc.zero : Fc := ⟨⟨#[]⟩, 0, 0, 0, ⟨#[]⟩, ⟨#[]⟩, 0, []⟩
/-- There are not enough bytes for so many values. -/
def manyE (l : List UInt8) (n : Nat) (s : Int × Int) : Int × Int := if s.2 = 0 ∧ (l.length : Int) - s.1 < n then (s.1, 41) else s
/-- The values, one after the other. -/
def rdVs (l : List UInt8) : Nat → List Vl → Int × Int → List Vl × Int × Int
  | 0, acc, s => (acc, s)
  | n + 1, acc, s => if s.2 = 0 then rdVs l n (acc ++ [(stV l s).1]) (stV l s).2 else (acc, s)
/-- The eight parts ahead of the values. -/
structure Hd where
  src : List UInt8
  seq : Int
  kind : Int
  ref : Int
  table : List UInt8
  key : List UInt8
  event : Int
  many : Nat
  s : Int × Int
def rdHd (l : List UInt8) (i : Int) : Hd :=
  let a := stT l (i, 0); let b := stI l a.2; let c := stI l b.2; let d := stI l c.2; let e := stT l d.2; let f := stT l e.2; let g := stI l f.2; let h := stU l g.2
  ⟨a.1, b.1, c.1, d.1, e.1, f.1, g.1, h.1, manyE l h.1 h.2⟩
def rdFc (l : List UInt8) (i : Int) : Fc × Int × Int :=
  let h := rdHd l i
  let r := rdVs l h.many [] h.s
  if r.2.2 = 0 then (⟨⟨h.src.toArray⟩, h.seq, h.kind, h.ref, ⟨h.table.toArray⟩, ⟨h.key.toArray⟩, h.event, r.1⟩, r.2.1, 0) else (Fc.zero, 0, r.2.2)

/-- All fields are values. -/
def Fc.valid (f : Fc) : Bool := f.fields.all fun v => decide (v.check = 0)
theorem valid_at {f : Fc} (h : f.valid = true) : ∀ v ∈ f.fields, v.check = 0 := fun v hv => by simpa using List.all_eq_true.1 h v hv
/-- A fact whose parts are no greater than what is read back. -/
def Fc.Fits (f : Fc) : Prop := f.Ints ∧ f.src.size < 2 ^ 64 ∧ f.table.size < 2 ^ 64 ∧ f.key.size < 2 ^ 64 ∧ f.fields.length < 2 ^ 64

theorem encV_pos {v : Vl} (h : v.check = 0) : 0 < v.enc.length := by unfold Vl.enc; rw [if_pos h]; simp
theorem encVs_len (l : List Vl) (h : ∀ v ∈ l, v.check = 0) : l.length ≤ (encVs l).length := by
  induction l with
  | nil => simp
  | cons v t ih =>
    have h1 := ih fun x hx => h x (List.mem_cons_of_mem _ hx)
    have h2 := encV_pos (h v List.mem_cons_self)
    unfold encVs at h1 ⊢
    rw [List.flatMap_cons, List.length_append, List.length_cons]
    omega
theorem stV_at {v : Vl} (hv : v.check = 0) (p t : List UInt8) (l : List UInt8) (hl : l = p ++ v.enc ++ t) : stV l ((p.length : Int), 0) = (v, ((p ++ v.enc).length : Int), 0) := by
  unfold stV; rw [if_pos rfl]; exact readV_at hv p t l hl _ rfl
theorem rdVs_at : ∀ (vs acc : List Vl) (p t l : List UInt8), (∀ v ∈ vs, v.check = 0) → l = p ++ encVs vs ++ t → rdVs l vs.length acc ((p.length : Int), 0) = (acc ++ vs, ((p ++ encVs vs).length : Int), 0)
  | [], acc, p, t, l, _, _ => by simp [rdVs, encVs]
  | v :: vs, acc, p, t, l, h, hl => by
    have e : encVs (v :: vs) = v.enc ++ encVs vs := by unfold encVs; rw [List.flatMap_cons]
    rw [e] at hl ⊢
    have hv := stV_at (h v List.mem_cons_self) p (encVs vs ++ t) l (by rw [hl]; simp)
    rw [List.length_cons, rdVs, if_pos rfl, hv]
    have := rdVs_at vs (acc ++ [v]) (p ++ v.enc) t l (fun x hx => h x (List.mem_cons_of_mem _ hx)) (by rw [hl]; simp)
    simp only at this ⊢
    rw [this]
    simp
theorem rdVs_keep (l : List UInt8) (n : Nat) (acc : List Vl) (s : Int × Int) (h : s.2 ≠ 0) : rdVs l n acc s = (acc, s) := by
  cases n with
  | zero => rfl
  | succ n => rw [rdVs, if_neg h]
theorem rdVs_cut : ∀ (vs acc : List Vl) (p : List UInt8) (j : Nat), (∀ v ∈ vs, v.check = 0) → j < (encVs vs).length → (rdVs (p ++ (encVs vs).take j) vs.length acc ((p.length : Int), 0)).2.2 = 41
  | [], acc, p, j, _, hj => by simp [encVs] at hj
  | v :: vs, acc, p, j, h, hj => by
    have e : encVs (v :: vs) = v.enc ++ encVs vs := by unfold encVs; rw [List.flatMap_cons]
    rw [e] at hj ⊢
    rw [List.length_cons, rdVs, if_pos rfl]
    by_cases hc : j < v.enc.length
    · rw [List.take_append_of_le_length (by omega)]
      have h1 := readV_cut (h v List.mem_cons_self) p j hc
      have h2 : (stV (p ++ v.enc.take j) ((p.length : Int), 0)).2.2 = 41 := by unfold stV; rw [if_pos rfl]; exact h1
      rw [rdVs_keep _ _ _ _ (by rw [h2]; decide)]
      exact h2
    · rw [List.take_append, List.take_of_length_le (by omega)]
      have hv := stV_at (h v List.mem_cons_self) p ((encVs vs).take (j - v.enc.length)) _ rfl
      rw [List.append_assoc] at hv
      rw [hv]
      have := rdVs_cut vs (acc ++ [v]) (p ++ v.enc) (j - v.enc.length) (fun x hx => h x (List.mem_cons_of_mem _ hx)) (by rw [List.length_append] at hj; omega)
      rw [List.append_assoc] at this
      exact this

section
variable {l : List UInt8}
theorem stT_at {s : List UInt8} (hs : s.length < 2 ^ 64) (p t : List UInt8) (hl : l = p ++ (Wire.encT s ++ t)) : stT l ((p.length : Int), 0) = (s, ((p ++ Wire.encT s).length : Int), 0) := by
  unfold stT; rw [if_pos rfl]; exact readT_at hs p t l (by rw [hl]; simp) _ rfl
theorem stI_at {n : Int} (hn : -9223372036854775808 ≤ n ∧ n ≤ 9223372036854775807) (p t : List UInt8) (hl : l = p ++ (Wire.encI n ++ t)) : stI l ((p.length : Int), 0) = (n, ((p ++ Wire.encI n).length : Int), 0) := by
  unfold stI; rw [if_pos rfl]; exact readI_at hn.1 hn.2 p t l (by rw [hl]; simp) _ rfl
theorem stU_at {n : Nat} (hn : n < 2 ^ 64) (p t : List UInt8) (hl : l = p ++ (Wire.encU n ++ t)) : stU l ((p.length : Int), 0) = (n, ((p ++ Wire.encU n).length : Int), 0) := by
  unfold stU; rw [if_pos rfl]; exact readU_at hn p t l (by rw [hl]; simp) _ rfl
theorem stT_err {s : Int × Int} (h : s.2 = 41) : (stT l s).2.2 = 41 := by unfold stT; rw [if_neg (by rw [h]; decide)]; exact h
theorem stI_err {s : Int × Int} (h : s.2 = 41) : (stI l s).2.2 = 41 := by unfold stI; rw [if_neg (by rw [h]; decide)]; exact h
theorem stU_err {s : Int × Int} (h : s.2 = 41) : (stU l s).2.2 = 41 := by unfold stU; rw [if_neg (by rw [h]; decide)]; exact h
theorem manyE_err {n : Nat} {s : Int × Int} (h : s.2 = 41) : (manyE l n s).2 = 41 := by unfold manyE; split <;> simp [h]
/-- The cut lies in this part, or behind it. -/
theorem cut_or (p e r : List UInt8) (j : Nat) : (j < e.length ∧ p ++ (e ++ r).take j = p ++ e.take j) ∨ (e.length ≤ j ∧ p ++ (e ++ r).take j = (p ++ e) ++ r.take (j - e.length)) := by
  by_cases h : j < e.length
  · exact .inl ⟨h, by rw [List.take_append_of_le_length (by omega)]⟩
  · exact .inr ⟨by omega, by rw [List.take_append, List.take_of_length_le (by omega), List.append_assoc]⟩
theorem stT_cut {s : List UInt8} (hs : s.length < 2 ^ 64) (p : List UInt8) (j : Nat) (hj : j < (Wire.encT s).length) (hl : l = p ++ (Wire.encT s).take j) : (stT l ((p.length : Int), 0)).2.2 = 41 := by
  subst hl; unfold stT; rw [if_pos rfl]; exact readT_cut hs p j hj
theorem stI_cut {n : Int} (hn : -9223372036854775808 ≤ n ∧ n ≤ 9223372036854775807) (p : List UInt8) (j : Nat) (hj : j < (Wire.encI n).length) (hl : l = p ++ (Wire.encI n).take j) : (stI l ((p.length : Int), 0)).2.2 = 41 := by
  subst hl; unfold stI; rw [if_pos rfl]; exact readI_cut hn.1 hn.2 p j hj
theorem stU_cut {n : Nat} (hn : n < 2 ^ 64) (p : List UInt8) (j : Nat) (hj : j < (Wire.encU n).length) (hl : l = p ++ (Wire.encU n).take j) : (stU l ((p.length : Int), 0)).2.2 = 41 := by
  subst hl; unfold stU; rw [if_pos rfl]; rw [readU_cut hn p j hj]
end
theorem rdFc_err {l : List UInt8} {i : Int} (h : (rdVs l (rdHd l i).many [] (rdHd l i).s).2.2 = 41) : (rdFc l i).2.2 = 41 := by
  unfold rdFc
  simp only
  rw [if_neg (by rw [h]; decide)]
  exact h
theorem rdVs_err {l : List UInt8} {n : Nat} {s : Int × Int} (h : s.2 = 41) : (rdVs l n [] s).2.2 = 41 := by
  rw [rdVs_keep _ _ _ _ (by rw [h]; decide)]; exact h
theorem enc_assoc (f : Fc) : f.enc = Wire.encT f.src.data.toList ++ (Wire.encI f.seq ++ (Wire.encI f.kind ++ (Wire.encI f.ref ++ (Wire.encT f.table.data.toList ++ (Wire.encT f.key.data.toList ++ (Wire.encI f.event ++ (Wire.encU f.fields.length ++ encVs f.fields))))))) := by
  unfold Fc.enc; simp only [List.append_assoc]
theorem bsize (s : ByteArray) : s.data.toList.length = s.size := by simp
theorem rdFc_at {f : Fc} (hv : f.valid = true) (hf : f.Fits) (p t : List UInt8) (l : List UInt8) (hl : l = p ++ f.enc ++ t) : rdFc l (p.length : Int) = (f, ((p ++ f.enc).length : Int), 0) := by
  obtain ⟨⟨i1, i2, i3, i4⟩, s1, s2, s3, s4⟩ := hf
  have hvs := encVs_len f.fields (valid_at hv)
  rw [enc_assoc] at hl ⊢
  have a := stT_at (l := l) (s := f.src.data.toList) (by rw [bsize]; exact s1) p (Wire.encI f.seq ++ (Wire.encI f.kind ++ (Wire.encI f.ref ++ (Wire.encT f.table.data.toList ++ (Wire.encT f.key.data.toList ++ (Wire.encI f.event ++ (Wire.encU f.fields.length ++ encVs f.fields)))))) ++ t) (by rw [hl]; simp only [List.append_assoc])
  have b := stI_at (l := l) (n := f.seq) i1 (p ++ Wire.encT f.src.data.toList) (Wire.encI f.kind ++ (Wire.encI f.ref ++ (Wire.encT f.table.data.toList ++ (Wire.encT f.key.data.toList ++ (Wire.encI f.event ++ (Wire.encU f.fields.length ++ encVs f.fields))))) ++ t) (by rw [hl]; simp only [List.append_assoc])
  have c := stI_at (l := l) (n := f.kind) i2 (p ++ Wire.encT f.src.data.toList ++ Wire.encI f.seq) (Wire.encI f.ref ++ (Wire.encT f.table.data.toList ++ (Wire.encT f.key.data.toList ++ (Wire.encI f.event ++ (Wire.encU f.fields.length ++ encVs f.fields)))) ++ t) (by rw [hl]; simp only [List.append_assoc])
  have d := stI_at (l := l) (n := f.ref) i3 (p ++ Wire.encT f.src.data.toList ++ Wire.encI f.seq ++ Wire.encI f.kind) (Wire.encT f.table.data.toList ++ (Wire.encT f.key.data.toList ++ (Wire.encI f.event ++ (Wire.encU f.fields.length ++ encVs f.fields))) ++ t) (by rw [hl]; simp only [List.append_assoc])
  have e := stT_at (l := l) (s := f.table.data.toList) (by rw [bsize]; exact s2) (p ++ Wire.encT f.src.data.toList ++ Wire.encI f.seq ++ Wire.encI f.kind ++ Wire.encI f.ref) (Wire.encT f.key.data.toList ++ (Wire.encI f.event ++ (Wire.encU f.fields.length ++ encVs f.fields)) ++ t) (by rw [hl]; simp only [List.append_assoc])
  have g := stT_at (l := l) (s := f.key.data.toList) (by rw [bsize]; exact s3) (p ++ Wire.encT f.src.data.toList ++ Wire.encI f.seq ++ Wire.encI f.kind ++ Wire.encI f.ref ++ Wire.encT f.table.data.toList) (Wire.encI f.event ++ (Wire.encU f.fields.length ++ encVs f.fields) ++ t) (by rw [hl]; simp only [List.append_assoc])
  have h := stI_at (l := l) (n := f.event) i4 (p ++ Wire.encT f.src.data.toList ++ Wire.encI f.seq ++ Wire.encI f.kind ++ Wire.encI f.ref ++ Wire.encT f.table.data.toList ++ Wire.encT f.key.data.toList) (Wire.encU f.fields.length ++ encVs f.fields ++ t) (by rw [hl]; simp only [List.append_assoc])
  have k := stU_at (l := l) (n := f.fields.length) s4 (p ++ Wire.encT f.src.data.toList ++ Wire.encI f.seq ++ Wire.encI f.kind ++ Wire.encI f.ref ++ Wire.encT f.table.data.toList ++ Wire.encT f.key.data.toList ++ Wire.encI f.event) (encVs f.fields ++ t) (by rw [hl]; simp only [List.append_assoc])
  have v := rdVs_at f.fields [] (p ++ Wire.encT f.src.data.toList ++ Wire.encI f.seq ++ Wire.encI f.kind ++ Wire.encI f.ref ++ Wire.encT f.table.data.toList ++ Wire.encT f.key.data.toList ++ Wire.encI f.event ++ Wire.encU f.fields.length) t l (valid_at hv) (by rw [hl]; simp only [List.append_assoc])
  obtain ⟨q, hq⟩ : ∃ q, p ++ Wire.encT f.src.data.toList ++ Wire.encI f.seq ++ Wire.encI f.kind ++ Wire.encI f.ref ++ Wire.encT f.table.data.toList ++ Wire.encT f.key.data.toList ++ Wire.encI f.event ++ Wire.encU f.fields.length = q := ⟨_, rfl⟩
  have hm : manyE l f.fields.length ((q.length : Int), 0) = ((q.length : Int), 0) := by
    unfold manyE
    rw [if_neg]
    rintro ⟨_, h⟩
    have : l.length = q.length + (encVs f.fields).length + t.length := by rw [hl, ← hq]; simp only [List.length_append]; omega
    simp only at h
    omega
  rw [hq] at k v
  have hh : rdHd l (p.length : Int) = ⟨f.src.data.toList, f.seq, f.kind, f.ref, f.table.data.toList, f.key.data.toList, f.event, f.fields.length, ((q.length : Int), 0)⟩ := by
    unfold rdHd
    simp only [a, b, c, d, e, g, h, k, hm]
  unfold rdFc
  rw [hh]
  simp only
  rw [v]
  simp only [List.nil_append, if_true, bytes_back]
  rw [show p ++ (Wire.encT f.src.data.toList ++ (Wire.encI f.seq ++ (Wire.encI f.kind ++ (Wire.encI f.ref ++ (Wire.encT f.table.data.toList ++ (Wire.encT f.key.data.toList ++ (Wire.encI f.event ++ (Wire.encU f.fields.length ++ encVs f.fields)))))))) = q ++ encVs f.fields from by rw [← hq]; simp only [List.append_assoc]]

theorem rdFc_cut {f : Fc} (hv : f.valid = true) (hf : f.Fits) (p : List UInt8) (j : Nat) (hj : j < f.enc.length) : (rdFc (p ++ f.enc.take j) (p.length : Int)).2.2 = 41 := by
  obtain ⟨⟨i1, i2, i3, i4⟩, s1, s2, s3, s4⟩ := hf
  rw [enc_assoc] at hj ⊢
  apply rdFc_err
  obtain ⟨l, hl⟩ : ∃ l, p ++ (Wire.encT f.src.data.toList ++ (Wire.encI f.seq ++ (Wire.encI f.kind ++ (Wire.encI f.ref ++ (Wire.encT f.table.data.toList ++ (Wire.encT f.key.data.toList ++ (Wire.encI f.event ++ (Wire.encU f.fields.length ++ encVs f.fields)))))))).take j = l := ⟨_, rfl⟩
  rw [hl]
  rcases cut_or p (Wire.encT f.src.data.toList) _ j with ⟨h1, h2⟩ | ⟨h1, h2⟩ <;> rw [hl] at h2
  · have := stT_cut (by rw [bsize]; exact s1) p j h1 h2
    exact rdVs_err (manyE_err (stU_err (stI_err (stT_err (stT_err (stI_err (stI_err (stI_err this))))))))
  have a := stT_at (by rw [bsize]; exact s1) p _ (h2.trans (List.append_assoc _ _ _))
  rw [List.length_append] at hj
  replace hj := Nat.sub_lt_left_of_lt_add h1 hj
  generalize j - (Wire.encT f.src.data.toList).length = j1 at hj h2
  clear h1 hl
  rcases cut_or (p ++ Wire.encT f.src.data.toList) (Wire.encI f.seq) _ j1 with ⟨h1, h3⟩ | ⟨h1, h3⟩ <;> rw [← h2] at h3
  · have := stI_cut i1 _ j1 h1 h3
    unfold rdHd
    simp only [a]
    exact rdVs_err (manyE_err (stU_err (stI_err (stT_err (stT_err (stI_err (stI_err this)))))))
  have b := stI_at i1 _ _ (h3.trans (List.append_assoc _ _ _))
  rw [List.length_append] at hj
  replace hj := Nat.sub_lt_left_of_lt_add h1 hj
  generalize j1 - (Wire.encI f.seq).length = j2 at hj h3
  clear h1 h2
  rcases cut_or (p ++ Wire.encT f.src.data.toList ++ Wire.encI f.seq) (Wire.encI f.kind) _ j2 with ⟨h1, h4⟩ | ⟨h1, h4⟩ <;> rw [← h3] at h4
  · have := stI_cut i2 _ j2 h1 h4
    unfold rdHd
    simp only [a, b]
    exact rdVs_err (manyE_err (stU_err (stI_err (stT_err (stT_err (stI_err this))))))
  have c := stI_at i2 _ _ (h4.trans (List.append_assoc _ _ _))
  rw [List.length_append] at hj
  replace hj := Nat.sub_lt_left_of_lt_add h1 hj
  generalize j2 - (Wire.encI f.kind).length = j3 at hj h4
  clear h1 h3
  rcases cut_or (p ++ Wire.encT f.src.data.toList ++ Wire.encI f.seq ++ Wire.encI f.kind) (Wire.encI f.ref) _ j3 with ⟨h1, h5⟩ | ⟨h1, h5⟩ <;> rw [← h4] at h5
  · have := stI_cut i3 _ j3 h1 h5
    unfold rdHd
    simp only [a, b, c]
    exact rdVs_err (manyE_err (stU_err (stI_err (stT_err (stT_err this)))))
  have d := stI_at i3 _ _ (h5.trans (List.append_assoc _ _ _))
  rw [List.length_append] at hj
  replace hj := Nat.sub_lt_left_of_lt_add h1 hj
  generalize j3 - (Wire.encI f.ref).length = j4 at hj h5
  clear h1 h4
  rcases cut_or (p ++ Wire.encT f.src.data.toList ++ Wire.encI f.seq ++ Wire.encI f.kind ++ Wire.encI f.ref) (Wire.encT f.table.data.toList) _ j4 with ⟨h1, h6⟩ | ⟨h1, h6⟩ <;> rw [← h5] at h6
  · have := stT_cut (by rw [bsize]; exact s2) _ j4 h1 h6
    unfold rdHd
    simp only [a, b, c, d]
    exact rdVs_err (manyE_err (stU_err (stI_err (stT_err this))))
  have e := stT_at (by rw [bsize]; exact s2) _ _ (h6.trans (List.append_assoc _ _ _))
  rw [List.length_append] at hj
  replace hj := Nat.sub_lt_left_of_lt_add h1 hj
  generalize j4 - (Wire.encT f.table.data.toList).length = j5 at hj h6
  clear h1 h5
  rcases cut_or (p ++ Wire.encT f.src.data.toList ++ Wire.encI f.seq ++ Wire.encI f.kind ++ Wire.encI f.ref ++ Wire.encT f.table.data.toList) (Wire.encT f.key.data.toList) _ j5 with ⟨h1, h7⟩ | ⟨h1, h7⟩ <;> rw [← h6] at h7
  · have := stT_cut (by rw [bsize]; exact s3) _ j5 h1 h7
    unfold rdHd
    simp only [a, b, c, d, e]
    exact rdVs_err (manyE_err (stU_err (stI_err this)))
  have g := stT_at (by rw [bsize]; exact s3) _ _ (h7.trans (List.append_assoc _ _ _))
  rw [List.length_append] at hj
  replace hj := Nat.sub_lt_left_of_lt_add h1 hj
  generalize j5 - (Wire.encT f.key.data.toList).length = j6 at hj h7
  clear h1 h6
  rcases cut_or (p ++ Wire.encT f.src.data.toList ++ Wire.encI f.seq ++ Wire.encI f.kind ++ Wire.encI f.ref ++ Wire.encT f.table.data.toList ++ Wire.encT f.key.data.toList) (Wire.encI f.event) _ j6 with ⟨h1, h8⟩ | ⟨h1, h8⟩ <;> rw [← h7] at h8
  · have := stI_cut i4 _ j6 h1 h8
    unfold rdHd
    simp only [a, b, c, d, e, g]
    exact rdVs_err (manyE_err (stU_err this))
  have h := stI_at i4 _ _ (h8.trans (List.append_assoc _ _ _))
  rw [List.length_append] at hj
  replace hj := Nat.sub_lt_left_of_lt_add h1 hj
  generalize j6 - (Wire.encI f.event).length = j7 at hj h8
  clear h1 h7
  rcases cut_or (p ++ Wire.encT f.src.data.toList ++ Wire.encI f.seq ++ Wire.encI f.kind ++ Wire.encI f.ref ++ Wire.encT f.table.data.toList ++ Wire.encT f.key.data.toList ++ Wire.encI f.event) (Wire.encU f.fields.length) _ j7 with ⟨h1, h9⟩ | ⟨h1, h9⟩ <;> rw [← h8] at h9
  · have := stU_cut s4 _ j7 h1 h9
    unfold rdHd
    simp only [a, b, c, d, e, g, h]
    exact rdVs_err (manyE_err this)
  have k := stU_at s4 _ _ (h9.trans (List.append_assoc _ _ _))
  rw [List.length_append] at hj
  replace hj := Nat.sub_lt_left_of_lt_add h1 hj
  generalize j7 - (Wire.encU f.fields.length).length = j8 at hj h9
  unfold rdHd
  simp only [a, b, c, d, e, g, h, k]
  generalize p ++ Wire.encT f.src.data.toList ++ Wire.encI f.seq ++ Wire.encI f.kind ++ Wire.encI f.ref ++ Wire.encT f.table.data.toList ++ Wire.encT f.key.data.toList ++ Wire.encI f.event ++ Wire.encU f.fields.length = q at *
  unfold manyE
  split
  · exact rdVs_err rfl
  · rw [h9]
    exact rdVs_cut f.fields [] q j8 (valid_at hv) hj
/-- No encoding is the beginning of another one. -/
theorem enc_prefix {f g : Fc} (hf : f.valid = true) (hg : g.valid = true) (ff : f.Fits) (fg : g.Fits) (t : List UInt8) (h : g.enc = f.enc ++ t) : f = g := by
  have h1 := rdFc_at hf ff [] t (f.enc ++ t) rfl
  have h2 := rdFc_at hg fg [] [] g.enc (by simp)
  rw [h] at h2
  rw [h1] at h2
  exact (Prod.mk.inj h2).1
end Go.Proofs.Ytfpkibfofainaaa
