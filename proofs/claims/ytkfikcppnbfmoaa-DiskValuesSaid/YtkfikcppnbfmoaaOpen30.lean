/- Opening the arguments of chapter 30's laws: a slice of calls. -/
import Derived.Test.YtkfikcppnbfmoaaOpen
import Derived.Test.YtkfikcppnbfmoaaActs
import Derived.Deep.Slices
import Derived.Deep.Fields
namespace Go.Proofs.Ytkfikcppnbfmoaa
open Go.ChangeShapes Go.WideShapes Go.ChangeAt Go.RowKit Go.Deep

noncomputable def actFields : Array Field := match Try.prog.underlying 33 with | some (.struct fs) => fs | _ => #[]
theorem act_under : Try.prog.underlying 33 = some (.struct actFields) := by kernel_rfl
theorem act_cells : Try.prog.cellsOf 33 = 6 := by kernel_rfl
theorem act_field (j : Nat) (hj : j < 6) : ∃ f, actFields[j]? = some f ∧ f.offset = j ∧ Try.prog.cellsOf f.type = 1 ∧ Try.prog.underlying f.type = some (.int (if j = 2 then .u8 else .i64)) := by
  match j, hj with
  | 0, _ => exact ⟨_, rfl, by kernel_rfl, by kernel_rfl, by kernel_rfl⟩
  | 1, _ => exact ⟨_, rfl, by kernel_rfl, by kernel_rfl, by kernel_rfl⟩
  | 2, _ => exact ⟨_, rfl, by kernel_rfl, by kernel_rfl, by kernel_rfl⟩
  | 3, _ => exact ⟨_, rfl, by kernel_rfl, by kernel_rfl, by kernel_rfl⟩
  | 4, _ => exact ⟨_, rfl, by kernel_rfl, by kernel_rfl, by kernel_rfl⟩
  | 5, _ => exact ⟨_, rfl, by kernel_rfl, by kernel_rfl, by kernel_rfl⟩
section
variable {H : Type} {enc : TypeId × Value → H} {W : World} {base : Nat} {spare : Nat → Bool} {held : Bool}
/-- Six cells that read as a call. -/
theorem act_of {n : Nat} {cs : List Value} {x : DataW H × List MemPlace} (h : DataW.trod enc Try.prog W base spare held n 33 cs = some x) : ∃ a : ActL, cs = a.cells := by
  obtain ⟨xs, m, _, _, hl, hxs, hf⟩ := DataW.trod_struct act_under h
  rw [act_cells] at hl
  have key : ∀ j, j < 6 → ∃ z : Int, cs[j]? = some (.int (if j = 2 then .u8 else .i64) z) ∧ (Lit.int (if j = 2 then .u8 else .i64) z).wf = true := fun j hj => by
    obtain ⟨f, h1, h2, h3, h4⟩ := act_field j hj
    have h5 := hf j f h1
    have hjs : j < xs.length := by rw [hxs]; exact (Array.getElem?_eq_some_iff.1 h1).1
    rw [h2, h3, List.getElem?_eq_getElem hjs] at h5
    obtain ⟨z, h6, _, h7⟩ := DataW.trod_int h4 h5
    refine ⟨z, ?_, h7⟩
    have h8 : ((cs.drop j).take 1)[0]? = some (.int (if j = 2 then .u8 else .i64) z) := by rw [h6]; rfl
    simpa using h8
  obtain ⟨z0, e0, _⟩ := key 0 (by omega)
  obtain ⟨z1, e1, _⟩ := key 1 (by omega)
  obtain ⟨z2, e2, w2⟩ := key 2 (by omega)
  obtain ⟨z3, e3, _⟩ := key 3 (by omega)
  obtain ⟨z4, e4, _⟩ := key 4 (by omega)
  obtain ⟨z5, e5, _⟩ := key 5 (by omega)
  clear key hf h
  revert e0 e1 e2 e3 e4 e5
  match cs, hl with
  | [c0, c1, c2, c3, c4, c5], _ =>
    intro e0 e1 e2 e3 e4 e5
    simp at e0 e1 e2 e3 e4 e5
    subst e0 e1 e2 e3 e4 e5
    exact ⟨⟨z0, z1, UInt8.ofNat z2.toNat, z3, z4, z5⟩, by simp only [ActL.cells]; rw [← u8_of_int (by simpa using w2)]⟩
theorem open_act {b0 : Nat} {v : Value} {d : DataW H} {ps : List MemPlace} (hval : Value.okWide Try.prog W .any base 33 v) (h : DataW.Trod enc Try.prog W b0 spare held 33 v d ps) : ∃ a : ActL, v = .agg a.cells.toArray := by
  obtain ⟨cs, rfl, _⟩ := okWide_struct act_under hval
  obtain ⟨fuel, hf⟩ := h
  obtain ⟨a, ha⟩ := act_of hf
  refine ⟨a, ?_⟩
  simp only [Value.cells] at ha
  rw [← ha]
theorem open_acts {b0 : Nat} {v : Value} {d : DataW H} {ps : List MemPlace} (hval : Value.okWide Try.prog W .any base 22 v) (h : DataW.Trod enc Try.prog W b0 spare held 22 v d ps) : ∃ l, IsActs W v l := by
  obtain ⟨a, len, cap, rfl⟩ := okWide_slice Try.underlying22 hval
  obtain ⟨fuel, hf⟩ := h
  rcases open_slice Try.underlying22 hf with ⟨hcs, _⟩ | ⟨x, l, c, m, n, D, Pl, hcs, _, hl, hm, hmm, _, hi⟩
  · simp [Value.cells] at hcs
    obtain ⟨rfl, rfl, rfl⟩ := hcs
    exact ⟨[], IsRow.nil 6 W⟩
  · simp [Value.cells] at hcs
    obtain ⟨rfl, rfl, rfl⟩ := hcs
    have hlm : len ≤ m := by rw [hmm]; split <;> omega
    have hex : ∀ i, i < len → ∃ a : ActL, ∀ j, j < 6 → W.cell? (x.add (i * 6 + j)) = a.cells[j]? := fun i hil => by
      obtain ⟨cs', h1, h2⟩ := hi i (by omega)
      rw [act_cells] at h1
      obtain ⟨a, rfl⟩ := act_of h2
      obtain ⟨_, _, h3⟩ := World.cells?_some h1
      exact ⟨a, fun j hj => by rw [← Go.Deep.add_add]; exact h3 j hj⟩
    obtain ⟨f, hF⟩ := choose_lt (α := Option ActL) (p := fun i a => ∃ b, a = some b ∧ ∀ j, j < 6 → W.cell? (x.add (i * 6 + j)) = b.cells[j]?) (fun i hil => by obtain ⟨a, ha⟩ := hex i hil; exact ⟨some a, a, rfl, ha⟩)
    have hlen : ((List.range len).map fun i => (f i).getD ⟨0, 0, 0, 0, 0, 0⟩).length = len := by simp
    refine ⟨(List.range len).map fun i => (f i).getD ⟨0, 0, 0, 0, 0, 0⟩, ?_⟩
    unfold IsActs
    have hfl : ∀ a ∈ (List.range len).map (fun i => (f i).getD ⟨0, 0, 0, 0, 0, 0⟩), (ActL.cells a).length = 6 := fun _ _ => rfl
    rw [hlen]
    refine ⟨_, _, rfl, by rw [flat_len ActL.cells 6 _ hfl, hlen], hl, hm, (fun h => by cases h), fun k hk => ?_⟩
    rw [flat_len ActL.cells 6 _ hfl, hlen] at hk
    have hq : k / 6 < len := by omega
    have hr : k % 6 < 6 := Nat.mod_lt _ (by omega)
    have hkk : k / 6 * 6 + k % 6 = k := by omega
    obtain ⟨b, hb, hc⟩ := hF (k / 6) hq
    have h1 := hc (k % 6) hr
    rw [hkk] at h1
    have h2 := flat_get ActL.cells 6 _ hfl (k / 6) (k % 6) (by rw [hlen]; exact hq) hr
    rw [hkk] at h2
    simp only [List.getElem_map, List.getElem_range, hb, Option.getD_some] at h2
    rw [← h2, List.getElem?_eq_getElem (by rw [flat_len ActL.cells 6 _ hfl, hlen]; exact hk)] at h1
    obtain ⟨b, off, spot⟩ := x
    have hspot : spot = none := by
      have := World.cell?_spot h1
      unfold Addr.add at this
      split at this
      · exact this
      · obtain ⟨b0, hb0, hc0⟩ := hF 0 (by omega)
        have h0 := hc0 0 (by omega)
        have := World.cell?_spot (h0.trans rfl)
        simpa [Addr.add] using this
    subst hspot
    refine ⟨b, off, rfl, ?_⟩
    rw [Addr.add_lit] at h1
    exact h1
end
#print axioms act_field
end Go.Proofs.Ytkfikcppnbfmoaa
