/- Slices of calls (asoflaw30.Act), and the helpers of chapter 30's laws in the words of a walk's state. -/
import Derived.Test.YtkfikcppnbfmoaaChecked
import Derived.Test.YtkfikcppnbfmoaaEx30
set_option linter.unusedVariables false
namespace Go.Proofs.Ytkfikcppnbfmoaa
open Go.RowKit

structure ActL where
  kind : Int
  at_ : Int
  fill : UInt8
  size : Int
  left : Int
  tear : Int
@[reducible] def ActL.cells (a : ActL) : List Value := [.int .i64 a.kind, .int .i64 a.at_, .int .u8 (a.fill.toNat : Int), .int .i64 a.size, .int .i64 a.left, .int .i64 a.tear]
def IsActs (w : World) (v : Value) (l : List ActL) : Prop := IsRow 6 w v l.length (l.flatMap ActL.cells)
theorem Mono.acts (v : Value) (l : List ActL) : Mono (IsActs · v l) := fun _ _ h p => IsRow.sub p h

theorem flat_get {α : Type} (f : α → List Value) (sz : Nat) (l : List α) (hf : ∀ a ∈ l, (f a).length = sz) (i j : Nat) (hi : i < l.length) (hj : j < sz) : (l.flatMap f)[i * sz + j]? = (f l[i])[j]? := by
  induction l generalizing i with
  | nil => simp at hi
  | cons a t ih =>
    rw [List.flatMap_cons]
    have ha : (f a).length = sz := hf a (by simp)
    cases i with
    | zero => rw [Nat.zero_mul, Nat.zero_add, List.getElem?_append_left (by omega)]; rfl
    | succ i =>
      have h1 : (i + 1) * sz + j = sz + (i * sz + j) := by rw [Nat.add_mul]; omega
      rw [h1, List.getElem?_append_right (by omega), ha, Nat.add_sub_cancel_left]
      simpa using ih (fun b hb => hf b (by simp [hb])) i (by simpa using hi)
theorem flat_take {α : Type} (f : α → List Value) (sz : Nat) (l : List α) (hf : ∀ a ∈ l, (f a).length = sz) (n : Nat) : (l.flatMap f).take (n * sz) = (l.take n).flatMap f := by
  induction l generalizing n with
  | nil => simp
  | cons a t ih =>
    cases n with
    | zero => simp
    | succ n =>
      have ha : (f a).length = sz := hf a (by simp)
      rw [List.flatMap_cons, List.take_succ_cons, List.flatMap_cons, Nat.add_mul, Nat.one_mul, Nat.add_comm, ← ha, List.take_length_add_append, ha, ih (fun b hb => hf b (by simp [hb]))]
theorem flat_len {α : Type} (f : α → List Value) (sz : Nat) (l : List α) (hf : ∀ a ∈ l, (f a).length = sz) : (l.flatMap f).length = l.length * sz := by
  induction l with
  | nil => simp
  | cons a t ih => rw [List.flatMap_cons, List.length_append, hf a (by simp), ih (fun b hb => hf b (by simp [hb])), List.length_cons, Nat.add_mul]; omega

theorem IsActs.out {w : World} {v : Value} {l : List ActL} (h : IsActs w v l) : ∃ base cap, v = .slice base l.length cap ∧ l.length ≤ cap ∧ cap ≤ 9223372036854775807 ∧
    ∀ i (h : i < l.length), ∃ b off, base = some ⟨b, off, none⟩ ∧ w.cell? ⟨b, off + i * 6, none⟩ = some (.int .i64 (l[i]).kind) ∧ w.cell? ⟨b, off + i * 6 + 1, none⟩ = some (.int .i64 (l[i]).at_) ∧ w.cell? ⟨b, off + i * 6 + 2, none⟩ = some (.int .u8 ((l[i]).fill.toNat : Int)) ∧
      w.cell? ⟨b, off + i * 6 + 3, none⟩ = some (.int .i64 (l[i]).size) ∧ w.cell? ⟨b, off + i * 6 + 4, none⟩ = some (.int .i64 (l[i]).left) ∧ w.cell? ⟨b, off + i * 6 + 5, none⟩ = some (.int .i64 (l[i]).tear) := by
  obtain ⟨base, cap, rfl, hx, hl, hm, hn, hc⟩ := h
  unfold maxLen at hm
  refine ⟨base, cap, rfl, hl, by omega, fun i hi => ?_⟩
  have hf : ∀ a ∈ l, (ActL.cells a).length = 6 := fun _ _ => rfl
  obtain ⟨b, off, e, -⟩ := hc (i * 6) (by rw [hx]; omega)
  have key : ∀ j v, j < 6 → (ActL.cells l[i])[j]? = some v → w.cell? ⟨b, off + i * 6 + j, none⟩ = some v := fun j v hj hv => by
    obtain ⟨b', off', e', hcell⟩ := hc (i * 6 + j) (by rw [hx]; omega)
    rw [e] at e'
    cases e'
    have h1 := flat_get ActL.cells 6 l hf i j hi hj
    rw [hv, List.getElem?_eq_getElem (by rw [hx]; omega)] at h1
    rw [Nat.add_assoc, hcell, Option.some.inj h1]
  exact ⟨b, off, e, by simpa using key 0 _ (by omega) rfl, key 1 _ (by omega) rfl, key 2 _ (by omega) rfl, key 3 _ (by omega) rfl, key 4 _ (by omega) rfl, key 5 _ (by omega) rfl⟩
theorem IsActs.take {w : World} {v : Value} {n : Nat} {l : List ActL} (h : IsRow 6 w v n ((l.flatMap ActL.cells).take (n * 6))) (hn : n ≤ l.length) : IsActs w v (l.take n) := by
  rw [flat_take ActL.cells 6 l (fun _ _ => rfl)] at h
  unfold IsActs
  rwa [List.length_take, Nat.min_eq_left hn]

section
variable {w0 W : World} {os : List (Nat × Obj)} {fs : List (World → Prop)}
theorem few_s (h : St w0 W os fs) (v : Value) (l : List ActL) (m : Nat) (hv : IsActs (sm os W) v l) :
    Calls Try.prog 11 #[v, .int .i64 m] W fun e w' => ∃ bs q, e = .returned (.slice bs (l.take m).length q) ∧ St w0 w' os ((IsActs · (.slice bs (l.take m).length q) (l.take m)) :: fs) := by
  have hv' := hv
  obtain ⟨base, cap, rfl, -⟩ := hv'.out
  refine (few_val W base l.length cap (l.flatMap ActL.cells) m (IsRow.sub hv (mask_is _ _))).mono fun e w' ⟨he, hw⟩ => ?_
  subst hw
  have ht : IsActs (sm os W) (.slice base (min l.length m) cap) (l.take (min l.length m)) := IsActs.take (IsRow.take hv _ (by omega)) (by omega)
  have e : l.take (min l.length m) = l.take m := by
    rcases Nat.le_total l.length m with h | h
    · rw [Nat.min_eq_left h, List.take_length, List.take_of_length_le h]
    · rw [Nat.min_eq_right h]
  rw [e] at ht
  have hl : min l.length m = (l.take m).length := by rw [List.length_take, Nat.min_comm]
  rw [hl] at ht he
  exact ⟨base, cap, he, h.put (Mono.acts _ _) ht⟩
theorem small_s (h : St w0 W os fs) (n : Int) :
    Calls Try.prog 9 #[.int .i64 n] W fun e w' => e = .returned (.int .i64 (smallN n)) ∧ W = w' := small_any W n
end

theorem dk_write_ok {d : Dk} (hd : d.Ok) (i : Nat) (hi : i < d.sec.length) (b : List UInt8) (hb : b.length = 128) : d.write i b = d.wr i b ∧ (d.wr i b).1.Ok ∧ (d.wr i b).1.sec.length = d.sec.length := by
  refine ⟨?_, dk_ok_wr hd i hi b hb, ?_⟩
  · unfold Dk.write
    rw [if_neg]
    · rfl
    · rintro (h | h | h | h)
      · rw [(Dk.valid_iff d).2 hd] at h; cases h
      · omega
      · omega
      · exact h hb
  · unfold Dk.wr
    split
    · rfl
    · split <;> simp [putAt]
theorem dk_wr_free {d : Dk} (hs : d.stopped = false) (hl : d.left = -1) (i : Nat) (hi : i < d.sec.length) (h128 : (d.sec[i]).length = 128) (b : List UInt8) (hb : b.length = 128) : d.wr i b = ({ d with sec := d.sec.set i b }, 0) := by
  have hp : putAt d.sec i b = d.sec.set i b := by
    unfold putAt
    congr 1
    rw [List.drop_of_length_le]
    · simp
    · rw [List.getD_eq_getElem?_getD, List.getElem?_eq_getElem hi]
      simp only [Option.getD_some]
      omega
  unfold Dk.wr
  rw [if_neg (by simp [hs]), if_neg (by omega), if_neg (by omega), hp]
theorem dk_read_ok {d : Dk} (hd : d.Ok) (hs : d.stopped = false) (i : Nat) (hi : i < d.sec.length) : d.read i = (d.sec[i], 0) := by
  unfold Dk.read
  rw [if_neg, if_neg (by simp [hs])]
  · simp [hi]
  · rintro (h | h | h)
    · rw [(Dk.valid_iff d).2 hd] at h; cases h
    · omega
    · omega
theorem dk_restart_ok {d : Dk} (hd : d.Ok) : d.restart = { d with left := -1, tear := 0, stopped := false } ∧ d.restart.Ok := by
  have e : d.restart = { d with left := -1, tear := 0, stopped := false } := by simp [Dk.restart, (Dk.valid_iff d).2 hd]
  refine ⟨e, ?_⟩
  rw [e]
  exact ⟨hd.one, hd.many, hd.size, by simp, by simp, by simp, by simp, fun _ => rfl, fun h => by simp at h⟩
theorem dk_made_ok (n : Nat) (h1 : 1 ≤ n) (h2 : n ≤ 4096) : (Dk.made n).Ok ∧ Dk.new n = (Dk.made n, 0) := by
  refine ⟨⟨by simp [Dk.made]; omega, by simp [Dk.made]; omega, fun i hi => by simp [Dk.made], by simp [Dk.made], by simp [Dk.made], by simp [Dk.made], by simp [Dk.made], fun _ => rfl, fun h => by simp [Dk.made] at h⟩, ?_⟩
  unfold Dk.new
  rw [if_neg (by omega)]
  simp
theorem dk_fail_ok {d : Dk} (hd : d.Ok) (hs : d.stopped = false) (l t : Int) (hl : 0 ≤ l) (hl2 : l ≤ 1099511627776) (ht : 0 ≤ t) (ht2 : t ≤ 128) : d.fail l t = ({ d with left := l, tear := t }, 0) ∧ Dk.Ok { d with left := l, tear := t } := by
  refine ⟨?_, ⟨hd.one, hd.many, hd.size, by simp; omega, hl2, ht, ht2, fun h => by simp at h; omega, fun h => by simp [hs] at h⟩⟩
  unfold Dk.fail
  rw [if_neg, if_neg (by simp [hs])]
  rintro (h | h | h | h | h)
  · rw [(Dk.valid_iff d).2 hd] at h; cases h
  all_goals omega

end Go.Proofs.Ytkfikcppnbfmoaa
