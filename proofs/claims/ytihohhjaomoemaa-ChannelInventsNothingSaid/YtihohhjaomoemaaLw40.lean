/- Small steps that several laws of chapter 40 take. -/
import Derived.Test.YtihohhjaomoemaaLq40
import Derived.Test.YtihohhjaomoemaaRegL
set_option linter.unusedVariables false
namespace Go.Proofs.Ytihohhjaomoemaa
open Go Go.RowKit

theorem IsSeq.pksS {w : World} {b off : Nat} {n cap : Nat} {l : List Pk} (h : IsSeq 11 rdPk w (.slice (some ⟨b, off, none⟩) n cap) l) (i : Nat) (hi : i < l.length) :
    ∃ vb vq, IsVals w (.slice vb (l[i]).fact.fields.length vq) (l[i]).fact.fields ∧ w.rangeAt b (off + i * 11) ((l[i]).cellsA (.slice vb (l[i]).fact.fields.length vq)).toList := by
  obtain ⟨_, _, vb, vq, e, h1, h2⟩ := h.pks i hi
  cases e
  exact ⟨vb, vq, h1, h2⟩
theorem samePk_p {w0 W : World} {os : List (Nat × Obj)} {fs : List (World → Prop)} (h : St w0 W os fs) (a b : Pk) {ab bb : Option Addr} {aq bq n m : Nat} (ha : IsVals W (.slice ab n aq) a.fact.fields) (han : a.fact.fields.length = n) (hb : IsVals W (.slice bb m bq) b.fact.fields) (hbm : b.fact.fields.length = m) {r : Bool} (hr : decide (a = b) = r) :
    Calls Try.prog 13 #[a.val (.slice ab n aq), b.val (.slice bb m bq)] W fun e w' => ∃ v, e = .returned v ∧ St w0 w' os ((pVal (.bool r)).p v :: fs) := by
  subst han hbm hr
  exact Calls.pV h (samePk_any W a b ab bb aq bq ha hb)
theorem send_ok0 {l S : List Pk} {p : Pk} (h : sendR l p = (S, 0)) : S = l ++ [p] ∧ l.length < 1024 := by
  unfold sendR at h
  split at h
  · cases h
  · split at h
    · cases h
    · cases h; exact ⟨rfl, by omega⟩
theorem copy_ok0 {l S : List Pk} {n : Int} (h : copyR l n = (S, 0)) : ∃ (i : Nat) (hi : i < l.length), n = (i : Int) ∧ S = l ++ [l[i]] ∧ l.length < 1024 := by
  by_cases hin : 0 ≤ n ∧ n < l.length
  · obtain ⟨i, rfl, hi⟩ : ∃ i : Nat, n = (i : Int) ∧ i < l.length := ⟨n.toNat, by omega, by omega⟩
    rw [copyR_in hi] at h
    obtain ⟨h1, h2⟩ := send_ok0 h
    exact ⟨i, hi, rfl, h1, h2⟩
  · rw [copyR_out hin] at h
    cases h
/-- A block that is no longer looked after stays as it is. -/
theorem St.shut {w0 W : World} {g : Nat} {cs : Array Value} {t : TypeId} {os : List (Nat × Obj)} {fs : List (World → Prop)} (h : St w0 W ((g, .cells cs t (0, 0)) :: os) fs) : St w0 W os (IsCells g cs :: fs) := by
  have hn : g ∉ keys os := (List.nodup_cons.1 h.nodup).1
  refine (h.loose (os1 := [])).put (Mono.cells _ _) (isCells_of (t := t) ?_)
  exact (mask_block _ _ _ (by simp [inL, hn])).trans (h.at_ 0 rfl)
theorem cell_at {W : World} {g : Nat} {a : Value} {t : TypeId} (h : W.heap[g]? = some (.cells #[a] t (0, 0))) : W.cell? ⟨g, 0, none⟩ = some a := by rw [cell_of_row _ _ _ _ _ _ h]; rfl
end Go.Proofs.Ytihohhjaomoemaa
