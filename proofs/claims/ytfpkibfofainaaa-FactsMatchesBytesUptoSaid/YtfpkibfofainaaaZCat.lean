/- Catalogs: what is read of them, and the walk over catalog.Table. -/
import Derived.Test.YtfpkibfofainaaaZFct
import Derived.Deep.CutRange
set_option linter.unusedVariables false
namespace Go.Proofs.Ytfpkibfofainaaa
open Go.RowKit

/-- A field of a table: its name, its type's kind and entity kind. -/
structure Fd where
  name : ByteArray
  kind : Int
  of : ByteArray
structure Tb where
  name : ByteArray
  entity : ByteArray
  fields : List Fd
  keep : Int
instance : Inhabited Fd := ⟨⟨⟨#[]⟩, 0, ⟨#[]⟩⟩⟩
def Tb.zero : Tb := ⟨⟨#[]⟩, ⟨#[]⟩, [], 0⟩
instance : Inhabited Tb := ⟨Tb.zero⟩
def rdFd : Rd Fd := fun _ cs a => ∃ u, cs = [.string a.name, .int .i64 a.kind, u, .string a.of] ∧ u.oneCell' = true
theorem rdFd_up : rdFd.Up := fun _ _ _ _ _ h => h
abbrev IsFds (w : World) (v : Value) (l : List Fd) : Prop := IsSeq 4 rdFd w v l
@[reducible] def Tb.row (t : Tb) (b : Option Addr) (q : Nat) : List Value := [.string t.name, .string t.entity, .slice b t.fields.length q, .int .i64 t.keep]
def rdTb : Rd Tb := fun w cs t => ∃ b q, cs = t.row b q ∧ IsFds w (.slice b t.fields.length q) t.fields
theorem rdTb_up : rdTb.Up := fun _ _ _ _ k ⟨b, q, h1, h2⟩ => ⟨b, q, h1, h2.sub rdFd_up k⟩
abbrev IsTbs (w : World) (v : Value) (l : List Tb) : Prop := IsSeq 4 rdTb w v l
def findTb (l : List Tb) (name : ByteArray) : Option Tb := l.find? fun t => decide (t.name = name)

theorem IsSeq.row4 {α : Type} {R : Rd α} {w : World} {base : Option Addr} {n cap : Nat} {l : List α} (h : IsSeq 4 R w (.slice base n cap) l) (i : Nat) (hi : i < l.length) :
    ∃ b off c0 c1 c2 c3, base = some ⟨b, off, none⟩ ∧ R w [c0, c1, c2, c3] l[i] ∧ w.cell? ⟨b, off + i * 4, none⟩ = some c0 ∧ w.cell? ⟨b, off + i * 4 + 1, none⟩ = some c1 ∧ w.cell? ⟨b, off + i * 4 + 2, none⟩ = some c2 ∧ w.cell? ⟨b, off + i * 4 + 3, none⟩ = some c3 := by
  obtain ⟨b, off, cs, h1, h2, h3, h4⟩ := h.at_ (by omega) i hi
  match cs, h2 with
  | [c0, c1, c2, c3], _ =>
    refine ⟨b, off, c0, c1, c2, c3, h1, h4, ?_, ?_, ?_, ?_⟩
    · simpa using h3 0 (by omega)
    · have := h3 1 (by omega); rw [← Nat.add_assoc] at this; exact this
    · have := h3 2 (by omega); rw [← Nat.add_assoc] at this; exact this
    · have := h3 3 (by omega); rw [← Nat.add_assoc] at this; exact this
theorem IsSeq.row3 {α : Type} {R : Rd α} {w : World} {base : Option Addr} {n cap : Nat} {l : List α} (h : IsSeq 3 R w (.slice base n cap) l) (i : Nat) (hi : i < l.length) :
    ∃ b off c0 c1 c2, base = some ⟨b, off, none⟩ ∧ R w [c0, c1, c2] l[i] ∧ w.cell? ⟨b, off + i * 3, none⟩ = some c0 ∧ w.cell? ⟨b, off + i * 3 + 1, none⟩ = some c1 ∧ w.cell? ⟨b, off + i * 3 + 2, none⟩ = some c2 := by
  obtain ⟨b, off, cs, h1, h2, h3, h4⟩ := h.at_ (by omega) i hi
  match cs, h2 with
  | [c0, c1, c2], _ =>
    refine ⟨b, off, c0, c1, c2, h1, h4, ?_, ?_, ?_⟩
    · simpa using h3 0 (by omega)
    · have := h3 1 (by omega); rw [← Nat.add_assoc] at this; exact this
    · have := h3 2 (by omega); rw [← Nat.add_assoc] at this; exact this
theorem oneN {l : List Value} (h : ∀ v ∈ l, v.oneCell' = true) : (l.toArray).all (·.oneCell') = true := by
  rw [Array.all_eq_true_iff_forall_mem]
  intro x hx
  exact h x (by simpa using hx)
theorem results_cell1 {P : Program} {fn : Func} {p u1 : Tmp} {ty : TypeId} (h : fn.results = #[.cell p ty, .tmp u1]) (tmps : Array Value) (w : World) (g : Nat) (t : TypeId) (cs : Array Value) (fr : Nat × Nat) (d : TypeDesc)
    (hp : tmps.getD p undef = .pointer (some ⟨g, 0, none⟩)) (hg : w.heap[g]? = some (.cells cs t fr))
    (hu : P.underlying ty = some d) (hd : (match d with | .struct _ | .array _ _ => true | _ => false) = true) (hi : (P.info? ty).map (·.size) = some cs.size) :
    (results fn tmps).run P w = .ok (.tuple #[.agg cs, tmps.getD u1 undef]) w := by
  unfold results
  simp only [h]
  have hp' : tmps[p]?.getD undef = .pointer (some ⟨g, 0, none⟩) := by simpa using hp
  simp [hp', asAddr, run_loadVar_row w g t ty cs fr d hg hu hd hi]
theorem tb_info : (Try.prog.info? 51).map (·.size) = some 4 := by kernel_rfl
theorem ret_tb {fn : Func} {R : Ending → World → Prop} {a : Act} {w : World} {p u1 : Tmp} (g : Nat) (c0 c1 c2 c3 : Value) (h : fn.results = #[.cell p 51, .tmp u1]) (hp : a.tmps.getD p undef = .pointer (some ⟨g, 0, none⟩))
    (hg : w.heap[g]? = some (.cells #[c0, c1, c2, c3] 51 (0, 0))) (hd : a.defers = []) (hR : R (.returned (.tuple #[.agg #[c0, c1, c2, c3], a.tmps.getD u1 undef])) w) : bodyPost Try.prog fn R .ret a w :=
  bodyPost_ret (results_cell1 h _ _ g 51 _ (0, 0) _ hp hg Try.underlying51 rfl tb_info) hd hR
theorem tb_one (a b : ByteArray) (s : Option Addr) (n q : Nat) (k : Int) : (#[.string a, .string b, .slice s n q, .int .i64 k] : Array Value).all (·.oneCell') = true :=
  oneN (l := [.string a, .string b, .slice s n q, .int .i64 k]) fun v hv => by
    simp only [List.mem_cons, List.not_mem_nil, or_false] at hv
    rcases hv with rfl | rfl | rfl | rfl <;> rfl

set_option maxRecDepth 8000 in
set_option maxHeartbeats 4000000 in
theorem table_any (w : World) (S : Nat → Bool) (tb : Option Addr) (tq : Nat) (tl : List Tb) (u1 u2 u3 : Value) (name : ByteArray) (ht : IsTbs (mask S w) (.slice tb tl.length tq) tl) :
    Calls Try.prog 22 #[.agg #[.slice tb tl.length tq, u1, u2, u3], .string name] w fun e w' => ∃ b q, e = .returned (.tuple #[.agg (((findTb tl name).getD Tb.zero).row b q).toArray, .bool (findTb tl name).isSome]) ∧
      IsFds (mask S w') (.slice b ((findTb tl name).getD Tb.zero).fields.length q) ((findTb tl name).getD Tb.zero).fields ∧ Below w.heap.size w w' := by
  obtain ⟨r, hr⟩ : ∃ r, findTb tl name = r := ⟨_, rfl⟩
  have HR := Lib.hid hr
  rw [hr]
  clear hr
  obtain ⟨n, hn⟩ : ∃ n, tl.length = n := ⟨_, rfl⟩
  have hn63 : n ≤ 9223372036854775807 := by obtain ⟨_, _, e, q1, q2, -⟩ := ht.shape; unfold maxLen at q2; omega
  rw [hn] at ht ⊢
  have HN := Lib.hid hn
  clear hn
  have HT0 := Lib.hid ht
  have h0 := ((St.start w).box (.cells #[.slice tb n tq, u1, u2, u3] 45)).alloc (.cells #[.string ⟨#[]⟩, .string ⟨#[]⟩, .slice none 0 0, .int .i64 0] 51)
  rw [al_size] at h0
  go_enter Try.func22, Try.ntmps22
  go_wp2_with fail
  obtain ⟨g, hg⟩ : ∃ g, w.heap.size + 1 = g := ⟨_, rfl⟩
  rw [hg] at h0 ⊢
  have HG := Lib.hid hg
  clear hg
  go_loopw [11] (fun c wr => ∃ k : Nat, k ≤ n ∧ c = .int .i64 k ∧ (∀ i (h : i < tl.length), i < k → tl[i].name ≠ name) ∧ St w wr [(g, .cells #[.string ⟨#[]⟩, .string ⟨#[]⟩, .slice none 0 0, .int .i64 0] 51)] []) (fun c _ => n - (intOf c).toNat)
  case atStart => exact ⟨0, by omega, rfl, fun i _ h => absurd h (Nat.not_lt_zero _), h0⟩
  case round =>
    clear h0
    obtain ⟨k, hk, rfl, hno, hst⟩ := hrel
    have HNO := Lib.hid hno
    clear hno
    by_cases hlt : k < n
    · have hkl : k < tl.length := by rw [HN.out]; exact hlt
      obtain ⟨b, off, c0, c1, c2, c3, rfl, ⟨fb, fq, hrow, hfd⟩, x0, x1, x2, x3⟩ := HT0.out.row4 k hkl
      obtain ⟨t, ht⟩ : ∃ t, tl[k] = t := ⟨_, rfl⟩
      rw [ht] at hrow hfd
      simp only [Tb.row, List.cons.injEq, and_true] at hrow
      obtain ⟨rfl, rfl, rfl, rfl⟩ := hrow
      replace x0 := Sub.below hst.below rfl _ _ (mask_is _ _ _ _ x0)
      replace x1 := Sub.below hst.below rfl _ _ (mask_is _ _ _ _ x1)
      replace x2 := Sub.below hst.below rfl _ _ (mask_is _ _ _ _ x2)
      replace x3 := Sub.below hst.below rfl _ _ (mask_is _ _ _ _ x3)
      have HFD := Lib.hid hfd
      have HT := Lib.hid ht
      clear hfd ht
      obtain ⟨m, hm⟩ : ∃ m, t.fields.length = m := ⟨_, rfl⟩
      rw [hm] at x2 HFD
      have HM := Lib.hid hm
      clear hm
      obtain ⟨tn, te, tf, tk⟩ := t
      simp only at *
      have hst2 := hst.box (.cells #[.string tn, .string te, .slice fb m fq, .int .i64 tk] 51)
      by_cases heq : tn = name
      · subst heq
        have hr : r = some ⟨tn, te, tf, tk⟩ := by
          rw [← HR.out]
          unfold findTb
          rw [List.find?_eq_some_iff_getElem]
          exact ⟨by simp, k, hkl, HT.out, fun j hj => by simpa using HNO.out j (by omega) hj⟩
        have HR2 := Lib.hid hr
        clear hr
        go_wp2_with (refine wpList_store_row rfl 51 (.tmp 4) (.tmp 19) rfl _ #[.string tn, .string te, .slice fb m fq, .int .i64 tk] rfl rfl 51 _ (hst2.at_ 0 rfl) tb_info rfl (tb_one _ _ _ _ _ _) ?_)
        have h9 := hst2.setRow (os1 := []) (cs' := #[.string tn, .string te, .slice fb m fq, .int .i64 tk])
        refine ret_tb g _ _ _ _ rfl rfl (h9.at_ 0 rfl) rfl ?_
        rw [HR2.out]
        refine ⟨fb, fq, ?_, ?_, h9.below⟩
        · simp only [Option.getD_some, Tb.row, HM.out]; rfl
        · simp only [Option.getD_some]; rw [HM.out]; exact HFD.out.sub rdFd_up (mask_below h9.below rfl)
      · have hne : (tn.toList == name.toList) = false := by
          rw [ByteArray.toList_eq, ByteArray.toList_eq]
          have : ¬ tn.data.toList = name.data.toList := fun e => heq (by cases tn; cases name; simpa using e)
          simpa using this
        go_wp2_with fail
        go_roundw
        case rel =>
          refine ⟨k + 1, by omega, by go_num, fun i hi h => ?_, hst2⟩
          rcases Nat.lt_succ_iff_lt_or_eq.1 h with h | rfl
          · exact HNO.out i hi h
          · rw [HT.out]; exact heq
        case measure => simp [intOf]; omega
    · obtain rfl : k = n := by omega
      have hr : r = none := by
        rw [← HR.out]
        unfold findTb
        rw [List.find?_eq_none]
        intro x hx
        obtain ⟨i, hi, rfl⟩ := List.getElem_of_mem hx
        simpa using HNO.out i hi (by rw [← HN.out]; exact hi)
      have HR2 := Lib.hid hr
      clear hr
      go_wp2_with (refine wpList_store_row rfl 51 (.tmp 4) (.tmp 21) rfl _ #[.string ⟨#[]⟩, .string ⟨#[]⟩, .slice none 0 0, .int .i64 0] rfl rfl 51 _ (hst.at_ 0 rfl) tb_info rfl (tb_one _ _ _ _ _ _) ?_)
      have h9 := hst.setRow (os1 := []) (cs' := #[.string ⟨#[]⟩, .string ⟨#[]⟩, .slice none 0 0, .int .i64 0])
      refine ret_tb g _ _ _ _ rfl rfl (h9.at_ 0 rfl) rfl ?_
      rw [HR2.out]
      exact ⟨none, 0, rfl, IsSeq.nil 4 rdFd _, h9.below⟩
end Go.Proofs.Ytfpkibfofainaaa
