/- Chapter 31 in plain Lean: Append at a region that is in order; the example's disks. -/
import Derived.Test.YtnfgapdpnihicaaZPw31
import Derived.Test.YtnfgapdpnihicaaZTx31
import Derived.Test.YtnfgapdpnihicaaZGB
import Derived.Deep.MidRow
set_option linter.unusedVariables false
set_option linter.unusedSimpArgs false
namespace Go.Proofs.Ytnfgapdpnihicaa
open Wl

/-- A region that is in order: its records, and where it ends. -/
structure Dk.Reg (d : Dk) (p k : Nat) (old : List (List UInt8)) (E : Nat) : Prop where
  ok : d.Ok
  one : 1 ≤ k
  fit : p + k ≤ d.sec.length
  scan : scanL d.sec (p + k) k p = (old, E, 0)
theorem Dk.Reg.lo {d : Dk} {p k E : Nat} {old : List (List UInt8)} (h : d.Reg p k old E) : p ≤ E ∧ E ≤ p + k := scanL_le _ _ h.scan (by omega)
theorem Dk.Reg.end_ {d : Dk} {p k E : Nat} {old : List (List UInt8)} (h : d.Reg p k old E) : ¬ (E < p + k ∧ marked d.sec E = true) := scanL_end _ _ h.scan (by omega) (by omega)
theorem Dk.Reg.is {d : Dk} {p k E : Nat} {old : List (List UInt8)} (h : d.Reg p k old E) (hs : d.stopped = false) : d.scan p k = (old, E, 0) := by
  have hf : d.fits p k = true := by
    unfold Dk.fits
    rw [(Dk.valid_iff d).2 h.ok, Bool.true_and, decide_eq_true_eq]
    have := h.one
    have := h.fit
    omega
  unfold Dk.scan
  rw [hf, if_neg (by decide), hs, if_neg (by decide), Int.toNat_natCast, Int.toNat_natCast]
  exact h.scan
theorem Dk.Reg.of {d : Dk} {f m : Int} {old : List (List UInt8)} {E : Nat} (h : d.scan f m = (old, E, 0)) : ∃ p k : Nat, f = p ∧ m = k ∧ d.stopped = false ∧ d.Reg p k old E := by
  obtain ⟨h1, h2, p, k, h3, h4, h5, h6, -, -, h7⟩ := Dk.scan_ok h
  exact ⟨p, k, h3, h4, h2, h1, h5, h6, h7⟩
/-- Nothing but the sectors counts. -/
theorem Dk.Reg.sec {d D : Dk} {p k E : Nat} {old : List (List UInt8)} (h : d.Reg p k old E) (ho : D.Ok) (hs : D.sec = d.sec) : D.Reg p k old E := ⟨ho, h.one, by rw [hs]; exact h.fit, by rw [hs]; exact h.scan⟩
/-- Nothing but the sectors of the region counts. -/
theorem Dk.Reg.far {d D : Dk} {p k E : Nat} {old : List (List UInt8)} (h : d.Reg p k old E) (ho : D.Ok) (hl : D.sec.length = d.sec.length) (hs : ∀ j, p ≤ j → j < p + k → D.sec[j]? = d.sec[j]?) : D.Reg p k old E :=
  ⟨ho, h.one, by rw [hl]; exact h.fit, by rw [scanL_same _ _ hs]; exact h.scan⟩
theorem Dk.Reg.restart {d : Dk} {p k E : Nat} {old : List (List UInt8)} (h : d.Reg p k old E) : d.restart.Reg p k old E ∧ d.restart.stopped = false ∧ d.restart.sec = d.sec ∧ d.restart.left = -1 := by
  obtain ⟨e, ho⟩ := dk_restart_ok h.ok
  exact ⟨h.sec ho (by rw [e]), by rw [e], by rw [e], by rw [e]⟩
/-- A new disk's region. -/
theorem reg_made {n f m : Nat} (h1 : 1 ≤ n) (h2 : n ≤ 4096) (h3 : 1 ≤ m) (h4 : f + m ≤ n) : (Dk.made n).Reg f m [] f := by
  refine ⟨(dk_made_ok n h1 h2).1, h3, by simpa [Dk.made] using h4, scanL_stop ?_ _⟩
  rintro ⟨h5, h6⟩
  unfold marked at h6
  rw [show (Dk.made n).sec.getD f [] = List.replicate 128 0 by
    rw [List.getD_eq_getElem?_getD]
    simp only [Dk.made]
    rw [List.getElem?_replicate, if_pos (by omega)]
    rfl] at h6
  revert h6
  decide
/-- How many sectors a batch takes. -/
def sizeL (rs : List (List UInt8)) : Nat := needs (stream rs).length
theorem sizeL_pos (rs : List (List UInt8)) : 1 ≤ sizeL rs := needs_pos _
theorem app_long {d : Dk} {p k E : Nat} {old rs : List (List UInt8)} (h : d.Reg p k old E) (hs : d.stopped = false) (hl : long rs = true) : d.app p k rs = (Dk.zero, 2) := by
  have hf : d.fits p k = true := by
    unfold Dk.fits
    rw [(Dk.valid_iff d).2 h.ok, Bool.true_and, decide_eq_true_eq]
    have := h.one
    have := h.fit
    omega
  unfold Dk.app
  rw [hf, if_neg (by decide), hs, if_neg (by decide), hl, if_pos rfl]
theorem app_nil {d : Dk} {p k E : Nat} {old : List (List UInt8)} (h : d.Reg p k old E) (hs : d.stopped = false) : d.app p k [] = (d, 0) := by
  have hf : d.fits p k = true := by
    unfold Dk.fits
    rw [(Dk.valid_iff d).2 h.ok, Bool.true_and, decide_eq_true_eq]
    have := h.one
    have := h.fit
    omega
  unfold Dk.app
  rw [hf, if_neg (by decide), hs, if_neg (by decide), if_neg (by simp [Wl.long]), h.is hs, if_neg (fun h => h rfl), if_pos List.length_nil]
theorem app_rest {d : Dk} {p k E : Nat} {old rs : List (List UInt8)} (h : d.Reg p k old E) (hs : d.stopped = false) (hl : long rs = false) (hn : rs ≠ []) : d.app p k rs = if p + k < E + sizeL rs then (Dk.zero, 310) else d.puts (sched E (sizeL rs) (p + k) (stream rs)) := by
  have hf : d.fits p k = true := by
    unfold Dk.fits
    rw [(Dk.valid_iff d).2 h.ok, Bool.true_and, decide_eq_true_eq]
    have := h.one
    have := h.fit
    omega
  have hlo := h.lo
  unfold Dk.app
  rw [hf, if_neg (by decide), hs, if_neg (by decide), hl, if_neg (by decide), h.is hs, if_neg (fun h => h rfl), if_neg (fun h => hn (List.length_eq_zero_iff.1 h))]
  unfold sizeL
  by_cases hc : p + k < E + needs (stream rs).length
  · rw [if_pos hc, if_pos (by simp only; omega)]
  · rw [if_neg hc, if_neg (by simp only; omega), show ((p : Int) + (k : Int)).toNat = p + k by omega]
/-- What Append makes of a region that is in order. -/
theorem app_law {d D : Dk} {c : Int} {p k E : Nat} {old rs : List (List UInt8)} (h : d.Reg p k old E) (hs : d.stopped = false) (hn : rs.length ≤ 1048576) (hr : ∀ r ∈ rs, r.length ≤ 1048576) (hw : d.app p k rs = (D, c)) :
    (long rs = true ∧ D = Dk.zero ∧ c = 2) ∨ (long rs = false ∧ rs = [] ∧ D = d ∧ c = 0) ∨ (long rs = false ∧ rs ≠ [] ∧ p + k < E + sizeL rs ∧ D = Dk.zero ∧ c = 310) ∨
    (long rs = false ∧ rs ≠ [] ∧ E + sizeL rs ≤ p + k ∧ D.sec.length = d.sec.length ∧ (∀ j, j < E ∨ p + k ≤ j → D.sec[j]? = d.sec[j]?) ∧
      ((c = 0 ∧ D.stopped = false ∧ (d.left = -1 → D.left = -1) ∧ D.sec = setAll d.sec (sched E (sizeL rs) (p + k) (stream rs)) ∧ D.Reg p k (old ++ rs) (E + sizeL rs)) ∨
       (c = 300 ∧ D.stopped = true ∧ 0 ≤ d.left ∧ (D.Reg p k old E ∨ D.Reg p k (old ++ rs) (E + sizeL rs))))) := by
  cases hl : long rs with
  | true =>
    rw [app_long h hs hl] at hw
    cases hw
    exact .inl ⟨rfl, rfl, rfl⟩
  | false =>
    right
    by_cases hne : rs = []
    · subst hne
      rw [app_nil h hs] at hw
      cases hw
      exact .inl ⟨rfl, rfl, rfl, rfl⟩
    · right
      rw [app_rest h hs hl hne] at hw
      split at hw
      · rename_i hc
        cases hw
        exact .inl ⟨rfl, hne, hc, rfl, rfl⟩
      · rename_i hc
        right
        have hsc := h.scan
        rw [show k = p + k - p by omega] at hsc
        rw [show p + (p + k - p) = p + k by omega] at hsc
        obtain ⟨h1, h2, h3, h4⟩ := puts_law h.ok hs hn hr hsc (by omega) h.fit (by unfold sizeL at hc; omega) hw
        rw [show p + k - p = k by omega] at h4
        refine ⟨rfl, hne, by omega, h2, h3, ?_⟩
        rcases h4 with ⟨rfl, a1, a2, a3, a4⟩ | ⟨rfl, a1, a2, a3⟩
        · exact .inl ⟨rfl, a1, a2, a3, h1, h.one, by rw [h2]; exact h.fit, a4⟩
        · refine .inr ⟨rfl, a1, a2, ?_⟩
          rcases a3 with a3 | a3
          · exact .inl ⟨h1, h.one, by rw [h2]; exact h.fit, a3⟩
          · exact .inr ⟨h1, h.one, by rw [h2]; exact h.fit, a3⟩
/-- A disk that never stops. -/
theorem app_free {d : Dk} {p k E : Nat} {old rs : List (List UInt8)} (h : d.Reg p k old E) (hs : d.stopped = false) (hf : d.left = -1) (hn : rs.length ≤ 1048576) (hr : ∀ r ∈ rs, r.length ≤ 1048576) (hl : long rs = false) (hne : rs ≠ []) (hroom : E + sizeL rs ≤ p + k) :
    d.app p k rs = ({ d with sec := setAll d.sec (sched E (sizeL rs) (p + k) (stream rs)) }, 0) ∧ Dk.Reg { d with sec := setAll d.sec (sched E (sizeL rs) (p + k) (stream rs)) } p k (old ++ rs) (E + sizeL rs) := by
  have hw : d.app p k rs = ({ d with sec := setAll d.sec (sched E (sizeL rs) (p + k) (stream rs)) }, 0) := by
    rw [app_rest h hs hl hne, if_neg (by omega)]
    refine puts_free _ h.ok hs hf fun x hx => ?_
    have := sched_idx (sizeL_pos rs) hroom x hx
    have := h.fit
    exact ⟨by omega, by omega⟩
  refine ⟨hw, ?_⟩
  rcases app_law h hs hn hr hw with ⟨h1, -⟩ | ⟨-, h1, -⟩ | ⟨-, -, h1, -⟩ | ⟨-, -, -, -, -, ⟨-, -, -, -, h1⟩ | ⟨h1, -⟩⟩
  · rw [hl] at h1; cases h1
  · exact absurd h1 hne
  · omega
  · exact h1
  · exact absurd h1 (by decide)

/-! ### Sizes -/
theorem stream_size (rs : List (List UInt8)) : (stream rs).length = (Wire.encU (content rs).length).length + (content rs).length + 4 := by
  unfold stream Wire.encF
  rw [List.length_append, List.length_append]
  rfl
theorem content_nil : (content []).length = 1 := by unfold content; simp [Wire.encU_small]
theorem content_one (r : List UInt8) : (content [r]).length = 1 + (Wire.encU r.length).length + r.length := by unfold content; simp [Wire.encU_small, Wire.encT]; omega
theorem size_nil : sizeL [] = 1 := by unfold sizeL; rw [stream_size, content_nil, Wire.encU_small (by decide)]; rfl
theorem size_120 : sizeL [List.replicate 120 0] = 1 := by unfold sizeL; rw [stream_size, content_one, List.length_replicate, Wire.encU_small (n := 120) (by decide), Wire.encU_small (by decide)]; rfl
theorem size_121 : sizeL [List.replicate 121 0] = 2 := by unfold sizeL; rw [stream_size, content_one, List.length_replicate, Wire.encU_small (n := 121) (by decide), Wire.encU_small (by decide)]; rfl
theorem size_400 : sizeL [List.replicate 400 0] = 4 := by unfold sizeL; rw [stream_size, content_one, List.length_replicate, Wire.encU_big (n := 400) (by decide), Wire.encU_small (n := 400 / 128) (by decide), List.length_cons, List.length_singleton, Wire.encU_big (by decide), Wire.encU_small (by decide)]; rfl
theorem size_d : sizeL [[100]] = 1 := by unfold sizeL; rw [stream_size, content_one, List.length_singleton, Wire.encU_small (n := 1) (by decide), Wire.encU_small (by decide)]; rfl
theorem size_ab : sizeL [[97], [98, 99]] = 1 := by
  have : (content [[97], [98, 99]]).length = 6 := by unfold content; simp [Wire.encU_small, Wire.encT]
  unfold sizeL
  rw [stream_size, this, Wire.encU_small (by decide)]
  rfl

/-! ### The example's disks -/
theorem putAt_zero {sec : List (List UInt8)} {i : Nat} {b : List UInt8} : putAt sec i b = sec.set i (b ++ (sec.getD i []).drop b.length) := rfl
theorem ex_torn {d T : Dk} {old : List (List UInt8)} (h : d.Reg 2 4 old 3) (hs : d.stopped = false) (hT : T = { d with left := 0, tear := 127 }) : ∃ Y, T.app 2 4 [[100]] = (Y, 300) ∧ Y.Reg 2 4 old 3 := by
  have hTO : T.Ok := by
    obtain ⟨e, ok⟩ := dk_fail_ok h.ok hs 0 127 (by omega) (by omega) (by omega) (by omega)
    rw [hT]; exact ok
  have hTR : T.Reg 2 4 old 3 := h.sec hTO (by rw [hT])
  have hTs : T.stopped = false := by rw [hT]; exact hs
  have hsd : sched 3 1 6 (stream [[100]]) = [(4, zeroSec), (3, headS (stream [[100]]))] := rfl
  have hfit := h.fit
  have hsl : T.sec.length = d.sec.length := by rw [hT]
  have hw : T.write ((4 : Nat) : Int) zeroSec = ({ T with sec := putAt T.sec 4 (zeroSec.take 127), stopped := true }, 300) := by
    rw [(dk_write_ok hTO 4 (by omega) zeroSec zeroSec_len).1]
    unfold Dk.wr
    rw [hT]
    simp [hs]
  have hap : T.app 2 4 [[100]] = ({ T with sec := putAt T.sec 4 (zeroSec.take 127), stopped := true }, 300) := by
    have h1 := app_rest hTR hTs (rs := [[100]]) rfl (by simp)
    rw [size_d, if_neg (by omega), hsd, Dk.puts_bad hw (by decide)] at h1
    exact h1
  refine ⟨_, hap, ?_⟩
  rcases app_law hTR hTs (by simp) (by simp) hap with ⟨h1, -⟩ | ⟨-, h1, -⟩ | ⟨-, -, h1, -⟩ | ⟨-, -, -, h5, -, ⟨h1, -⟩ | ⟨-, -, -, h2⟩⟩
  · cases h1
  · cases h1
  · rw [size_d] at h1; omega
  · cases h1
  · have hYO : Dk.Ok { T with sec := putAt T.sec 4 (zeroSec.take 127), stopped := true } := by
      rcases h2 with h2 | h2
      · exact h2.ok
      · exact h2.ok
    refine ⟨hYO, h.one, by rw [h5]; exact hTR.fit, ?_⟩
    have hsc := hTR.scan
    rcases after_some (n := 1) (s := stream [[100]]) (by omega) (show scanL T.sec 6 (6 - 2) 2 = (old, 3, 0) from hsc) (by omega) (by omega) hTO.size (by omega) 0 (by rw [hsd]; decide) 127 (by omega) with ⟨h3, -⟩ | h3
    · cases h3
    · exact h3
theorem ex_whole {d T : Dk} {old : List (List UInt8)} (h : d.Reg 2 4 old 3) (hs : d.stopped = false) (hT : T = { d with left := 1, tear := 128 }) : ∃ Y, T.app 2 4 [[100]] = (Y, 300) ∧ Y.Reg 2 4 (old ++ [[100]]) 4 := by
  have hTO : T.Ok := by
    obtain ⟨e, ok⟩ := dk_fail_ok h.ok hs 1 128 (by omega) (by omega) (by omega) (by omega)
    rw [hT]; exact ok
  have hTR : T.Reg 2 4 old 3 := h.sec hTO (by rw [hT])
  have hTs : T.stopped = false := by rw [hT]; exact hs
  have hsd : sched 3 1 6 (stream [[100]]) = [(4, zeroSec), (3, headS (stream [[100]]))] := rfl
  have hfit := h.fit
  have hsl : T.sec.length = d.sec.length := by rw [hT]
  obtain ⟨U, hU⟩ : ∃ U : Dk, { T with sec := T.sec.set 4 zeroSec, left := 0 } = U := ⟨_, rfl⟩
  have hw : T.write ((4 : Nat) : Int) zeroSec = (U, 0) := by
    rw [(dk_write_ok hTO 4 (by omega) zeroSec zeroSec_len).1]
    unfold Dk.wr
    rw [if_neg (by simp [hTs]), if_neg (by rw [hT]; exact (by decide : ¬ (1 : Int) = 0)), putAt_full (by rw [getD_size hTO (by omega), zeroSec_len]; exact Nat.le_refl _), ← hU]
    have : T.left = 1 := by rw [hT]
    simp [this]
  have hUO : U.Ok := by
    have := dk_ok_wr hTO 4 (by omega) zeroSec zeroSec_len
    rw [← (dk_write_ok hTO 4 (by omega) zeroSec zeroSec_len).1, hw] at this
    exact this
  have hUl : U.sec.length = T.sec.length := by rw [← hU]; simp
  have hw2 : U.write ((3 : Nat) : Int) (headS (stream [[100]])) = ({ U with sec := putAt U.sec 3 ((headS (stream [[100]])).take 128), stopped := true }, 300) := by
    rw [(dk_write_ok hUO 3 (by omega) _ (headS_len _)).1]
    unfold Dk.wr
    have h1 : U.stopped = false := by rw [← hU]; exact hTs
    have h2 : U.left = 0 := by rw [← hU]
    have h3 : U.tear = 128 := by rw [← hU, hT]
    rw [h1, h2, h3]
    rfl
  have hap : T.app 2 4 [[100]] = ({ U with sec := putAt U.sec 3 ((headS (stream [[100]])).take 128), stopped := true }, 300) := by
    have h1 := app_rest hTR hTs (rs := [[100]]) rfl (by simp)
    rw [size_d, if_neg (by omega), hsd, Dk.puts_ok hw, Dk.puts_bad hw2 (by decide)] at h1
    exact h1
  refine ⟨_, hap, ?_⟩
  rcases app_law hTR hTs (by simp) (by simp) hap with ⟨h1, -⟩ | ⟨-, h1, -⟩ | ⟨-, -, h1, -⟩ | ⟨-, -, -, h5, -, ⟨h1, -⟩ | ⟨-, -, -, h2⟩⟩
  · cases h1
  · cases h1
  · rw [size_d] at h1; omega
  · cases h1
  · have hYO : Dk.Ok { U with sec := putAt U.sec 3 ((headS (stream [[100]])).take 128), stopped := true } := by
      rcases h2 with h2 | h2
      · exact h2.ok
      · exact h2.ok
    refine ⟨hYO, h.one, by rw [h5]; exact hTR.fit, ?_⟩
    have hall := after_all (rs := [[100]]) (by simp) (by simp) (show scanL T.sec 6 (6 - 2) 2 = (old, 3, 0) from hTR.scan) (by omega) (by omega) (by have := size_d; unfold sizeL at this; omega)
    have hsz := size_d
    unfold sizeL at hsz
    rw [hsz, hsd] at hall
    have hsec : putAt U.sec 3 ((headS (stream [[100]])).take 128) = setAll T.sec [(4, zeroSec), (3, headS (stream [[100]]))] := by
      rw [List.take_of_length_le (by rw [headS_len]; exact Nat.le_refl _), putAt_full (by rw [getD_size hUO (by omega), headS_len]; exact Nat.le_refl _), ← hU]
      rfl
    show scanL (putAt U.sec 3 ((headS (stream [[100]])).take 128)) 6 4 2 = _
    rw [hsec]
    exact hall
/-- The example's disks. -/
theorem ex_plain : ∃ D1 T Y T2 Y2 : Dk, (Dk.made 6).scan 2 4 = ([], 2, 0) ∧ (Dk.made 6).app 2 4 [[97], [98, 99]] = (D1, 0) ∧ D1.scan 2 4 = ([[97], [98, 99]], 3, 0) ∧ D1.app 2 4 [List.replicate 400 0] = (Dk.zero, 310) ∧ D1.fail 0 127 = (T, 0) ∧ T.app 2 4 [[100]] = (Y, 300) ∧ Y.restart.scan 2 4 = ([[97], [98, 99]], 3, 0) ∧
    D1.fail 1 128 = (T2, 0) ∧ T2.app 2 4 [[100]] = (Y2, 300) ∧ Y2.restart.scan 2 4 = ([[97], [98, 99], [100]], 4, 0) := by
  have h0 := reg_made (n := 6) (f := 2) (m := 4) (by omega) (by omega) (by omega) (by omega)
  obtain ⟨e1, R1⟩ := app_free h0 rfl rfl (rs := [[97], [98, 99]]) (by simp) (by simp) rfl (by simp) (by rw [size_ab]; omega)
  generalize hD1 : ({ Dk.made 6 with sec := setAll (Dk.made 6).sec (sched 2 (sizeL [[97], [98, 99]]) (2 + 4) (stream [[97], [98, 99]])) } : Dk) = D1 at e1 R1
  have s1 : D1.stopped = false := by rw [← hD1]; rfl
  rw [size_ab, List.nil_append] at R1
  have hf : D1.app ((2 : Nat) : Int) ((4 : Nat) : Int) [List.replicate 400 0] = (Dk.zero, 310) := by
    rw [app_rest R1 s1 (rs := [List.replicate 400 0]) ?_ (List.cons_ne_nil _ _), size_400, if_pos (by omega)]
    unfold Wl.long
    rw [List.any_cons, List.any_nil, List.length_replicate]
    decide
  obtain ⟨f1, ok1⟩ := dk_fail_ok R1.ok s1 0 127 (by omega) (by omega) (by omega) (by omega)
  obtain ⟨f2, ok2⟩ := dk_fail_ok R1.ok s1 1 128 (by omega) (by omega) (by omega) (by omega)
  obtain ⟨Y, y1, y2⟩ := ex_torn R1 s1 rfl
  obtain ⟨Y2, z1, z2⟩ := ex_whole R1 s1 rfl
  obtain ⟨r1, r2, -⟩ := y2.restart
  obtain ⟨r3, r4, -⟩ := z2.restart
  exact ⟨D1, _, Y, _, Y2, h0.is rfl, e1, R1.is s1, hf, f1, y1, r1.is r2, f2, z1, r3.is r4⟩
end Go.Proofs.Ytnfgapdpnihicaa
/- The contracts of chapter 31 in the words of a walk's state. -/
set_option linter.unusedVariables false
set_option linter.unusedSimpArgs false
namespace Go.Proofs.Ytnfgapdpnihicaa
open Go Go.RowKit

theorem IsLists.shape {w : World} {v : Value} {l : List (List UInt8)} (h : IsLists w v l) : ∃ b q, v = .slice b l.length q := by
  obtain ⟨b, q, rfl, -⟩ := h.out
  exact ⟨b, q, rfl⟩
def pDk (D : Dk) : Pd := ⟨fun v w => ∃ b q, v = dkS b q D ∧ IsDk w (dkS b q D) D, fun _ _ _ h ⟨b, q, e, k⟩ => ⟨b, q, e, k.sub h⟩⟩
def pDkT (D : Dk) (x : Int) : Pd := ⟨fun v w => ∃ b q, v = .tuple #[dkS b q D, .int .i64 x] ∧ IsDk w (dkS b q D) D, fun _ _ _ h ⟨b, q, e, k⟩ => ⟨b, q, e, k.sub h⟩⟩
def pLs (l : List (List UInt8)) : Pd := ⟨fun v w => ∃ b q, v = .slice b l.length q ∧ IsLists w (.slice b l.length q) l, fun _ _ _ h ⟨b, q, e, k⟩ => ⟨b, q, e, k.sub h⟩⟩
def pLsT (l : List (List UInt8)) (x : Int) : Pd := ⟨fun v w => ∃ b q, v = .tuple #[.slice b l.length q, .int .i64 x] ∧ IsLists w (.slice b l.length q) l, fun _ _ _ h ⟨b, q, e, k⟩ => ⟨b, q, e, k.sub h⟩⟩
/-- A slice that was made with its elements. -/
def pRow (n : Nat) (xs : List Value) : Pd := ⟨fun v w => ∃ g, v = .slice (some ⟨g, 0, none⟩) n n ∧ IsRow 1 w (.slice (some ⟨g, 0, none⟩) n n) n xs, fun _ _ _ h ⟨g, e, k⟩ => ⟨g, e, k.sub h⟩⟩
section
variable {w0 W : World} {os : List (Nat × Obj)} {fs : List (World → Prop)}
theorem St.newRow (h : St w0 W os fs) (n : Nat) (xs : List Value) (T : TypeId) (hl : xs.length = n) (hn : n ≤ maxLen) : St w0 (W.alloc (.cells xs.toArray T (0, 0))) os ((pRow n xs).p (.slice (some ⟨W.heap.size, 0, none⟩) n n) :: fs) := by
  have h1 := h.alloc (.cells xs.toArray T (0, 0))
  have hS : inL (keys os) W.heap.size = false := inL_no.2 fun hm => Nat.lt_irrefl _ (h.lt _ hm)
  refine (St.loose (os1 := []) h1).put ((pRow n xs).mono _) ⟨_, rfl, IsRow.block (t := T) ?_ (by omega) hn⟩
  exact (mask_block _ _ _ hS).trans (heap_alloc_new _ _)
theorem app_s (h : St w0 W os fs) {v rv : Value} {d D : Dk} {f m c : Int} {rs : List (List UInt8)} (hc : d.app f m rs = (D, c)) (hf : -9223372036854775808 ≤ f ∧ f ≤ 9223372036854775807) (hm : -9223372036854775808 ≤ m ∧ m ≤ 9223372036854775807) (hv : IsDk (sm os W) v d) (hr : IsLists W rv rs) (hn : rs.length ≤ 1048576) (hl : ∀ r ∈ rs, r.length ≤ 1048576) :
    Calls Try.prog 21 #[v, .int .i64 f, .int .i64 m, rv] W fun e w' => ∃ bs q, e = .returned (.tuple #[dkS bs q D, .int .i64 c]) ∧ St w0 w' os ((IsDk · (dkS bs q D) D) :: fs) := by
  have hx := append_any W (inL (keys os)) h.ltS v d hv f m hf hm rv rs hr hn hl
  rw [hc] at hx
  refine hx.mono fun e w' ⟨v', he, hd, hb⟩ => ?_
  obtain ⟨bs, q, rfl⟩ := hd.shape
  exact ⟨bs, q, he, (h.call hb).put (Mono.dk _ _) hd⟩
theorem app_p (h : St w0 W os fs) {v rv : Value} {d D : Dk} {f m c : Int} {rs : List (List UInt8)} (hc : d.app f m rs = (D, c)) (hf : -9223372036854775808 ≤ f ∧ f ≤ 9223372036854775807) (hm : -9223372036854775808 ≤ m ∧ m ≤ 9223372036854775807) (hv : IsDk (sm os W) v d) (hr : IsLists W rv rs) (hn : rs.length ≤ 1048576) (hl : ∀ r ∈ rs, r.length ≤ 1048576) :
    Calls Try.prog 21 #[v, .int .i64 f, .int .i64 m, rv] W fun e w' => ∃ v, e = .returned v ∧ St w0 w' os ((pDkT D c).p v :: fs) :=
  (app_s h hc hf hm hv hr hn hl).mono fun e w' ⟨bs, q, he, hs⟩ => ⟨_, he, hs.head (pDkT D c) _ fun hx => ⟨bs, q, rfl, hx⟩⟩
theorem fmt_s (h : St w0 W os fs) {v : Value} {d D : Dk} {f m c : Int} (hc : d.format f m = (D, c)) (hf : -9223372036854775808 ≤ f ∧ f ≤ 9223372036854775807) (hm : -9223372036854775808 ≤ m ∧ m ≤ 9223372036854775807) (hv : IsDk (sm os W) v d) :
    Calls Try.prog 19 #[v, .int .i64 f, .int .i64 m] W fun e w' => ∃ bs q, e = .returned (.tuple #[dkS bs q D, .int .i64 c]) ∧ St w0 w' os ((IsDk · (dkS bs q D) D) :: fs) := by
  have hx := format_any W (inL (keys os)) h.ltS v d hv f m hf hm
  rw [hc] at hx
  refine hx.mono fun e w' ⟨v', he, hd, hb⟩ => ?_
  obtain ⟨bs, q, rfl⟩ := hd.shape
  exact ⟨bs, q, he, (h.call hb).put (Mono.dk _ _) hd⟩
theorem read_s (h : St w0 W os fs) {v : Value} {d : Dk} {f m c : Int} {l : List (List UInt8)} {E : Nat} (hc : d.scan f m = (l, E, c)) (hf : -9223372036854775808 ≤ f ∧ f ≤ 9223372036854775807) (hm : -9223372036854775808 ≤ m ∧ m ≤ 9223372036854775807) (hv : IsDk W v d) :
    Calls Try.prog 14 #[v, .int .i64 f, .int .i64 m] W fun e w' => ∃ b q, e = .returned (.tuple #[.slice b l.length q, .int .i64 c]) ∧ St w0 w' os ((IsLists · (.slice b l.length q) l) :: fs) := by
  have hx := walRead_any W (inL (keys os)) h.ltS v d hv f m hf hm
  rw [hc] at hx
  refine hx.mono fun e w' ⟨v', he, hd, hb⟩ => ?_
  obtain ⟨b, q, rfl⟩ := hd.shape
  exact ⟨b, q, he, (h.call hb).put (Mono.lists _ _) hd⟩
theorem read_p (h : St w0 W os fs) {v : Value} {d : Dk} {f m c : Int} {l : List (List UInt8)} {E : Nat} (hc : d.scan f m = (l, E, c)) (hf : -9223372036854775808 ≤ f ∧ f ≤ 9223372036854775807) (hm : -9223372036854775808 ≤ m ∧ m ≤ 9223372036854775807) (hv : IsDk W v d) :
    Calls Try.prog 14 #[v, .int .i64 f, .int .i64 m] W fun e w' => ∃ v, e = .returned v ∧ St w0 w' os ((pLsT l c).p v :: fs) :=
  (read_s h hc hf hm hv).mono fun e w' ⟨bs, q, he, hs⟩ => ⟨_, he, hs.head (pLsT l c) _ fun hx => ⟨bs, q, rfl, hx⟩⟩
theorem room_s (h : St w0 W os fs) {v : Value} {d : Dk} {f m c R : Int} {l : List (List UInt8)} {E : Nat} (hc : d.scan f m = (l, E, c)) (hR : (if c = 0 then f + m - E else 0) = R) (hf : -9223372036854775808 ≤ f ∧ f ≤ 9223372036854775807) (hm : -9223372036854775808 ≤ m ∧ m ≤ 9223372036854775807) (hv : IsDk W v d) :
    Calls Try.prog 16 #[v, .int .i64 f, .int .i64 m] W fun e w' => e = .returned (.tuple #[.int .i64 R, .int .i64 c]) ∧ St w0 w' os fs := by
  have hx := walRoom_any W v d hv f m hf hm
  rw [hc] at hx
  simp only at hx
  rw [hR] at hx
  exact hx.mono fun e w' ⟨he, hb⟩ => ⟨he, h.call hb⟩
theorem fail_s (h : St w0 W os fs) {v : Value} {d D : Dk} {l t x : Int} (hc : d.fail l t = (D, x)) (hv : IsDk (sm os W) v d) :
    Calls Try.prog 29 #[v, .int .i64 l, .int .i64 t] W fun e w' => ∃ bs q, e = .returned (.tuple #[dkS bs q D, .int .i64 x]) ∧ St w0 w' os ((IsDk · (dkS bs q D) D) :: fs) := by
  have hx := fail_any (inL (keys os)) W v d l t hv
  rw [hc] at hx
  refine hx.mono fun e w' ⟨v', he, hd, hb⟩ => ?_
  obtain ⟨bs, q, rfl⟩ := hd.shape
  exact ⟨bs, q, he, (h.call hb).put (Mono.dk _ _) hd⟩
theorem restart_s (h : St w0 W os fs) {v : Value} {d D : Dk} (hc : d.restart = D) (hv : IsDk (sm os W) v d) :
    Calls Try.prog 30 #[v] W fun e w' => ∃ bs q, e = .returned (dkS bs q D) ∧ St w0 w' os ((IsDk · (dkS bs q D) D) :: fs) := by
  have hx := restart_any (inL (keys os)) W v d hv
  rw [hc] at hx
  refine hx.mono fun e w' ⟨v', he, hd, hb⟩ => ?_
  obtain ⟨bs, q, rfl⟩ := hd.shape
  exact ⟨bs, q, he, (h.call hb).put (Mono.dk _ _) hd⟩
theorem refRestart_s (h : St w0 W os fs) {v : Value} {d D : Dk} (hc : d.restart = D) (hv : IsDk (sm os W) v d) :
    Calls Try.prog 26 #[v] W fun e w' => ∃ bs q, e = .returned (dkS bs q D) ∧ St w0 w' os ((IsDk · (dkS bs q D) D) :: fs) := by
  have hx := refRestart_all (inL (keys os)) W v d hv
  rw [hc] at hx
  refine hx.mono fun e w' ⟨v', he, hd, hb⟩ => ?_
  obtain ⟨bs, q, rfl⟩ := hd.shape
  exact ⟨bs, q, he, (h.call hb).put (Mono.dk _ _) hd⟩
theorem write_s (h : St w0 W os fs) {v bv : Value} {d D : Dk} {i x : Int} {b : List UInt8} (hc : d.write i b = (D, x)) (hv : IsDk (sm os W) v d) (hb : IsBytes W bv b) :
    Calls Try.prog 35 #[v, .int .i64 i, bv] W fun e w' => ∃ bs q, e = .returned (.tuple #[dkS bs q D, .int .i64 x]) ∧ St w0 w' os ((IsDk · (dkS bs q D) D) :: fs) := by
  have hx := write_call (inL (keys os)) W h.ltS v d i bv b hv hb
  rw [hc] at hx
  refine hx.mono fun e w' ⟨v', he, hd, hb⟩ => ?_
  obtain ⟨bs, q, rfl⟩ := hd.shape
  exact ⟨bs, q, he, (h.call hb).put (Mono.dk _ _) hd⟩
theorem empty_s (h : St w0 W os fs) (n f m : Nat) (h1 : 1 ≤ n) (h2 : n ≤ 4096) (h3 : 1 ≤ m) (h4 : f + m ≤ n) {D : Dk} (hD : Dk.made n = D) :
    Calls Try.prog 31 #[.int .i64 n, .int .i64 f, .int .i64 m] W fun e w' => ∃ bs q, e = .returned (.tuple #[dkS bs q D, .bool true]) ∧ St w0 w' os ((IsDk · (dkS bs q D) D) :: fs) := by
  have hx := empty_any W (inL (keys os)) h.ltS n f m h1 h2 h3 h4
  rw [hD] at hx
  refine hx.mono fun e w' ⟨v', he, hd, hb⟩ => ?_
  obtain ⟨bs, q, rfl⟩ := hd.shape
  exact ⟨bs, q, he, (h.call hb).put (Mono.dk _ _) hd⟩
theorem texts_p (h : St w0 W os fs) {v : Value} {n : Nat} (ss : List ByteArray) {l : List (List UInt8)} (hl : ss.map (·.data.toList) = l) (hn : ss.length = n) (hv : IsRow 1 W v n (ss.map Value.string)) (hb : n ≤ 1048576) (hs : ∀ s ∈ ss, s.size ≤ 1048576) :
    Calls Try.prog 39 #[v] W fun e w' => ∃ v, e = .returned v ∧ St w0 w' os ((pLs l).p v :: fs) := by
  subst hl hn
  refine (texts_any W (inL (keys os)) h.ltS v ss hv hb hs).mono fun e w' ⟨b, q, he, hd, hbl⟩ => ?_
  exact ⟨_, he, (h.call hbl).put ((pLs _).mono _) ⟨b, q, by rw [List.length_map], by rw [List.length_map]; exact hd⟩⟩
theorem joined_s (h : St w0 W os fs) {va vb : Value} {a b l : List (List UInt8)} (hl : a ++ b = l) (ha : IsLists (sm os W) va a) (hb : IsLists (sm os W) vb b) (hn : a.length + b.length ≤ 1099511627776) :
    Calls Try.prog 28 #[va, vb] W fun e w' => ∃ b q, e = .returned (.slice b l.length q) ∧ St w0 w' os ((IsLists · (.slice b l.length q) l) :: fs) := by
  subst hl
  exact (joined_any W (inL (keys os)) h.ltS va vb a b ha hb hn).mono fun e w' ⟨g, q, he, hd, hbl⟩ => ⟨g, q, he, (h.call hbl).put (Mono.lists _ _) hd⟩
theorem joined_p (h : St w0 W os fs) {va vb : Value} {a b l : List (List UInt8)} (hl : a ++ b = l) (ha : IsLists (sm os W) va a) (hb : IsLists (sm os W) vb b) (hn : a.length + b.length ≤ 1099511627776) :
    Calls Try.prog 28 #[va, vb] W fun e w' => ∃ v, e = .returned v ∧ St w0 w' os ((pLs l).p v :: fs) :=
  (joined_s h hl ha hb hn).mono fun e w' ⟨bs, q, he, hs⟩ => ⟨_, he, hs.head (pLs l) _ fun hx => ⟨bs, q, rfl, hx⟩⟩
theorem same_s (h : St w0 W os fs) {va vb : Value} {a b : List (List UInt8)} {r : Bool} (hr : decide (a = b) = r) (ha : IsLists W va a) (hb : IsLists W vb b) :
    Calls Try.prog 18 #[va, vb] W fun e w' => e = .returned (.bool r) ∧ St w0 w' os fs := by
  subst hr
  exact (sameL_any W va vb a b ha hb).mono fun e w' ⟨he, hb⟩ => ⟨he, h.call hb⟩
theorem same_p (h : St w0 W os fs) {va vb : Value} {a b : List (List UInt8)} {r : Bool} (hr : decide (a = b) = r) (ha : IsLists W va a) (hb : IsLists W vb b) :
    Calls Try.prog 18 #[va, vb] W fun e w' => ∃ v, e = .returned v ∧ St w0 w' os ((pVal (.bool r)).p v :: fs) :=
  (same_s h hr ha hb).mono fun e w' ⟨he, hs⟩ => ⟨_, he, hs.put ((pVal _).mono _) rfl⟩
theorem small_s (h : St w0 W os fs) {v rv : Value} {d : Dk} {rs : List (List UInt8)} {r : Bool} (hr : smallB d rs = r) (hv : IsDk W v d) (hrs : IsLists W rv rs) :
    Calls Try.prog 13 #[v, rv] W fun e w' => e = .returned (.bool r) ∧ St w0 w' os fs := by
  subst hr
  exact (smallL_any W v d hv rv rs hrs).mono fun e w' ⟨he, hb⟩ => ⟨he, h.call hb⟩
theorem sectors_s (h : St w0 W os fs) {rv : Value} {rs : List (List UInt8)} {n : Nat} (hr : sizeL rs = n) (hrs : IsLists W rv rs) (hn : rs.length ≤ 1048576) (hl : ∀ r ∈ rs, r.length ≤ 1048576) :
    Calls Try.prog 24 #[rv] W fun e w' => e = .returned (.int .i64 n) ∧ St w0 w' os fs := by
  subst hr
  exact (sectors_any W rv rs hrs hn hl).mono fun e w' ⟨he, hb⟩ => ⟨he, h.call hb⟩
theorem sectors_p (h : St w0 W os fs) {rv : Value} {rs : List (List UInt8)} {n : Int} (hr : (sizeL rs : Int) = n) (hrs : IsLists W rv rs) (hn : rs.length ≤ 1048576) (hl : ∀ r ∈ rs, r.length ≤ 1048576) :
    Calls Try.prog 24 #[rv] W fun e w' => ∃ v, e = .returned v ∧ St w0 w' os ((pVal (.int .i64 n)).p v :: fs) := by
  subst hr
  exact (sectors_s h rfl hrs hn hl).mono fun e w' ⟨he, hs⟩ => ⟨_, he, hs.put ((pVal _).mono _) rfl⟩
end
end Go.Proofs.Ytnfgapdpnihicaa
/- Small steps of chapter 31's laws: a disk's variable is loaded, slices are made. -/
set_option linter.unusedVariables false
set_option linter.unusedSimpArgs false
namespace Go.Proofs.Ytnfgapdpnihicaa
open Go Go.RowKit

theorem Mono.range (b o : Nat) (cs : List Value) : Mono (fun x => x.rangeAt b o cs) := fun _ _ h p j v hj => h _ _ (p j v hj)
theorem IsCells.range {w : World} {g : Nat} {cs : Array Value} (h : IsCells g cs w) : w.rangeAt g 0 cs.toList := fun j v hj => by rw [Nat.zero_add]; exact h j v (by simpa using hj)
theorem run_load_mid {P : Program} {ρ : Operand → Value} {o : Oper} {W : World} {ty : TypeId} {x : Operand} {b off : Nat} {cs : List Value} {d : TypeDesc} (ho : o.op = .load ty x) (hx : ρ x = .pointer (some ⟨b, off, none⟩)) (hc : W.rangeAt b off cs)
    (hu : P.underlying ty = some d) (hd : d.isRow = true) (hi : (P.info? ty).map (·.size) = some cs.length) : (execOp ρ o).run P W = .ok (.value (.agg cs.toArray)) W := by
  unfold execOp
  simp only [ho, hx, Instr.loadAt, Instr.sureAddr, Sem.run_bind, Sem.run_pure, Result.andThen_ok, run_loadVar_mid W b off ty cs d hc hu hd hi]

theorem run_makeB (W : World) (n : Nat) (hn : n ≤ 1048576) : (Instr.makeSlice 42 (.int .i64 n) (.int .i64 n)).run Try.prog W = .ok (.slice (some ⟨W.heap.size, 0, none⟩) n n) (W.alloc (.cells (List.map u8v (List.replicate n 0)).toArray 5)) := by
  have h := run_make_row' (P := Try.prog) 42 5 (.int .u8 0) 1 Try.underlying42 byte_info rfl .i64 .i64 n (by omega) (by omega) W
  have e : madeCells #[Value.int .u8 0] n = (List.map u8v (List.replicate n 0)).toArray := by
    apply Array.toList_inj.1
    rw [toList_madeCells_one]
    simp [u8v]
  rw [← e]
  exact h
theorem run_mk_op {ρ : Operand → Value} {o : Oper} {W : World} {x y : Operand} {n : Nat} (ho : o.op = .makeSlice 42 x y) (hx : ρ x = .int .i64 n) (hy : ρ y = .int .i64 n) (hn : n ≤ 1048576) : (execOp ρ o).run Try.prog W = .ok (.value (.slice (some ⟨W.heap.size, 0, none⟩) n n)) (W.alloc (.cells (List.map u8v (List.replicate n 0)).toArray 5)) := by
  unfold execOp
  simp only [ho, hx, hy, Sem.run_bind, run_makeB W n hn, Result.andThen_ok, Sem.run_pure]
section
variable {w0 W : World} {os : List (Nat × Obj)} {F : List (World → Prop)}
/-- Bytes that were made. -/
def pMd (n : Nat) (l : List UInt8) : Pd := ⟨fun v w => ∃ g, v = .slice (some ⟨g, 0, none⟩) n n ∧ IsBytes w (.slice (some ⟨g, 0, none⟩) n n) l, fun _ _ _ h ⟨g, e, k⟩ => ⟨g, e, k.sub h⟩⟩
/-- A slice of bytes 0 that was made. -/
theorem St.newB (h : St w0 W os F) {l : List UInt8} {n : Nat} (hl : l.length = n) (hn : n ≤ maxLen) (T : TypeId) : St w0 (W.alloc (.cells (l.map u8v).toArray T (0, 0))) os ((pMd n l).p (.slice (some ⟨W.heap.size, 0, none⟩) n n) :: F) := by
  subst hl
  have h1 := h.alloc (.cells (l.map u8v).toArray T (0, 0))
  have hS : inL (keys os) W.heap.size = false := inL_no.2 fun hm => Nat.lt_irrefl _ (h.lt _ hm)
  refine (St.loose (os1 := []) h1).put ((pMd l.length l).mono _) ⟨_, rfl, sec_bytes (t := T) ?_ rfl hn⟩
  exact (mask_block _ _ _ hS).trans (heap_alloc_new _ _)
/-- A list of one record that was made. -/
theorem St.newOne (h : St w0 W os F) {u : Value} {l : List UInt8} (hu : IsBytes (sm os W) u l) (T : TypeId) : St w0 (W.alloc (.cells #[u] T (0, 0))) os ((pLs [l]).p (.slice (some ⟨W.heap.size, 0, none⟩) 1 1) :: F) := by
  have h1 := (h.put (P := (IsBytes · u l)) (Mono.bytes _ _) hu).newRow 1 [u] T rfl (by unfold maxLen; omega)
  obtain ⟨g, e, hr⟩ := h1.get 0 rfl
  cases e
  exact (h1.pop.pop).put ((pLs [l]).mono _) ⟨_, _, rfl, lists_of hr (Elems.one (a := l) rfl ⟨u, rfl, h1.get 1 rfl⟩) rfl⟩
end
end Go.Proofs.Ytnfgapdpnihicaa
/- Chapter 31 in plain Lean: what the laws ask, on a disk that is not stopped. -/
set_option linter.unusedVariables false
set_option linter.unusedSimpArgs false
namespace Go.Proofs.Ytnfgapdpnihicaa
open Wl

/-- A region in order, on a disk that never stops. -/
structure Dk.Live (d : Dk) (p k : Nat) (old : List (List UInt8)) (E : Nat) : Prop where
  reg : d.Reg p k old E
  runs : d.stopped = false
  free : d.left = -1
theorem Dk.Live.is {d : Dk} {p k E : Nat} {old : List (List UInt8)} (h : d.Live p k old E) : d.scan p k = (old, E, 0) := h.reg.is h.runs
theorem live_made {n f m : Nat} (h1 : 1 ≤ n) (h2 : n ≤ 4096) (h3 : 1 ≤ m) (h4 : f + m ≤ n) : (Dk.made n).Live f m [] f := ⟨reg_made h1 h2 h3 h4, rfl, rfl⟩
/-- Where the region ends behind an append. -/
def endL (E : Nat) (rs : List (List UInt8)) : Nat := if rs = [] then E else E + sizeL rs
theorem live_app {d D : Dk} {c : Int} {p k E : Nat} {old rs : List (List UInt8)} (h : d.Live p k old E) (hn : rs.length ≤ 1048576) (hr : ∀ r ∈ rs, r.length ≤ 1048576) (hw : d.app p k rs = (D, c)) :
    (c = 0 ∧ long rs = false ∧ endL E rs ≤ p + k ∧ D.Live p k (old ++ rs) (endL E rs) ∧ D.sec.length = d.sec.length ∧ (∀ j, j < p ∨ p + k ≤ j → D.sec[j]? = d.sec[j]?)) ∨ (c = 2 ∧ long rs = true) ∨ (c = 310 ∧ long rs = false ∧ rs ≠ [] ∧ p + k < endL E rs) := by
  have hlo := h.reg.lo
  rcases app_law h.reg h.runs hn hr hw with ⟨h1, -, h2⟩ | ⟨h1, rfl, rfl, rfl⟩ | ⟨h1, h3, h4, -, rfl⟩ | ⟨h1, h2, h3, h4, h5, ⟨rfl, a1, a2, -, a4⟩ | ⟨-, -, a3, -⟩⟩
  · exact .inr (.inl ⟨h2, h1⟩)
  · refine .inl ⟨rfl, h1, by unfold endL; rw [if_pos rfl]; exact hlo.2, ?_, rfl, fun _ _ => rfl⟩
    unfold endL
    rw [if_pos rfl, List.append_nil]
    exact h
  · exact .inr (.inr ⟨rfl, h1, h3, by unfold endL; rw [if_neg h3]; exact h4⟩)
  · refine .inl ⟨rfl, h1, by unfold endL; rw [if_neg h2]; exact h3, ?_, h4, fun j hj => h5 j (by omega)⟩
    unfold endL
    rw [if_neg h2]
    exact ⟨a4, a1, a2 h.free⟩
  · have := h.free
    omega

/-! ### WalBatches -/
theorem long_take {rs : List (List UInt8)} (n : Nat) (h : long rs = true) : long (rs.take n) = true ∨ long (rs.drop n) = true := by
  unfold Wl.long at *
  rw [← List.take_append_drop n rs, List.any_append, Bool.or_eq_true] at h
  exact h
theorem batches_plain {l : List (List UInt8)} {k : Nat} (hl : l.length ≤ 1048576) (hr : ∀ r ∈ l, r.length ≤ 1048576) (hne : l ≠ []) {D1 D2 D3 : Dk} {c1 c2 c3 : Int} (h1 : (Dk.made 100).app 10 80 l = (D1, c1)) (h2 : (Dk.made 100).app 10 80 (l.take k) = (D2, c2))
    (h3 : (c2 = 0 ∧ D2.app 10 80 (l.drop k) = (D3, c3)) ∨ (c2 ≠ 0 ∧ D3 = D2 ∧ c3 = c2)) : (c1 ≠ 0 → c3 = 0 → c1 = 310) ∧ (c1 = 0 → c3 = 0 → ∃ E1 E3, D1.scan 10 80 = (l, E1, 0) ∧ D3.scan 10 80 = (l, E3, 0)) := by
  have h0 := live_made (n := 100) (f := 10) (m := 80) (by omega) (by omega) (by omega) (by omega)
  have ht : ∀ r ∈ l.take k, r.length ≤ 1048576 := fun r h => hr r (List.mem_of_mem_take h)
  have hd : ∀ r ∈ l.drop k, r.length ≤ 1048576 := fun r h => hr r (List.mem_of_mem_drop h)
  have htl : (l.take k).length ≤ 1048576 := by rw [List.length_take]; omega
  have hdl : (l.drop k).length ≤ 1048576 := by rw [List.length_drop]; omega
  have e3 : c3 = 0 → c2 = 0 ∧ D2.app 10 80 (l.drop k) = (D3, 0) := fun hc => by
    rcases h3 with ⟨a, b⟩ | ⟨a, -, b⟩
    · exact ⟨a, by rw [b, hc]⟩
    · exact absurd (b.symm.trans hc) a
  have halves : c3 = 0 → long l = false ∧ ∃ E3, D3.Live 10 80 l E3 := fun hc => by
    obtain ⟨hc2, hap⟩ := e3 hc
    rcases live_app h0 htl ht h2 with ⟨-, g1, -, g2, -⟩ | ⟨hx, -⟩ | ⟨hx, -⟩
    · rcases live_app g2 hdl hd hap with ⟨-, g3, -, g4, -⟩ | ⟨hx, -⟩ | ⟨hx, -⟩
      · rw [List.nil_append, List.take_append_drop] at g4
        refine ⟨?_, _, g4⟩
        cases hq : long l with
        | false => rfl
        | true =>
          rcases long_take k hq with h | h
          · rw [g1] at h; cases h
          · rw [g3] at h; cases h
      · cases hx
      · cases hx
    · omega
    · omega
  refine ⟨fun ha hc => ?_, fun ha hc => ?_⟩
  · obtain ⟨hlg, -⟩ := halves hc
    rcases live_app h0 hl hr h1 with ⟨hx, -⟩ | ⟨-, hx⟩ | ⟨hx, -⟩
    · exact absurd hx ha
    · rw [hlg] at hx; cases hx
    · exact hx
  · obtain ⟨-, E3, g3⟩ := halves hc
    rcases live_app h0 hl hr h1 with ⟨-, -, -, g1, -⟩ | ⟨hx, -⟩ | ⟨hx, -⟩
    · rw [List.nil_append] at g1
      exact ⟨_, _, g1.is, g3.is⟩
    · omega
    · omega

/-! ### WalRetries -/
def rep : Nat → List (List UInt8) → List (List UInt8)
  | 0, _ => []
  | m + 1, r => rep m r ++ r
theorem rep_len (r : List (List UInt8)) : ∀ m, (rep m r).length = m * r.length
  | 0 => by simp [rep]
  | m + 1 => by unfold rep; rw [List.length_append, rep_len r m, Nat.succ_mul]
theorem rep_get {r : List (List UInt8)} (hr : 0 < r.length) : ∀ m i (h : i < (rep m r).length), (rep m r)[i] = r[i % r.length]'(Nat.mod_lt _ hr)
  | 0, i, h => absurd h (by simp [rep])
  | m + 1, i, h => by
    by_cases hi : i < (rep m r).length
    · have := rep_get hr m i hi
      simp only [rep]
      rw [List.getElem_append_left hi, this]
    · simp only [rep]
      rw [List.getElem_append_right (by omega)]
      have hl := rep_len r m
      have hlt : i - (rep m r).length < r.length := by
        have h2 : i < (rep m r ++ r).length := h
        rw [List.length_append] at h2
        omega
      have e : i % r.length = i - (rep m r).length := by
        have : i = r.length * m + (i - (rep m r).length) := by rw [Nat.mul_comm]; omega
        conv => lhs; rw [this]
        rw [Nat.mul_add_mod, Nat.mod_eq_of_lt hlt]
      simp only [e]
/-- One attempt: the batch is there once more, or the disk stopped and it is there as often as before. -/
theorem retries_plain {d T X : Dk} {c : Int} {m E : Nat} {r : List (List UInt8)} {a b : Int} (hd : d.Live 0 64 (rep m r) E) (hn : r.length ≤ 1048576) (hr : ∀ x ∈ r, x.length ≤ 1048576) (hT : d.fail a b = (T, 0)) (hX : T.app 0 64 r = (X, c)) (hne : r ≠ []) (hc : c = 0 ∨ c = 300) :
    ∃ m' E', X.restart.Live 0 64 (rep m' r) E' ∧ (m' = m + 1 ∨ (m' = m ∧ c ≠ 0)) := by
  have hTT : T = { d with left := a, tear := b } ∧ T.Ok := by
    unfold Dk.fail at hT
    split at hT
    · cases hT
    · rename_i h1
      rw [if_neg (by simp [hd.runs])] at hT
      cases hT
      exact ⟨rfl, hd.reg.ok.one, hd.reg.ok.many, hd.reg.ok.size, by (show -1 ≤ a; omega), by (show a ≤ 1099511627776; omega), by (show 0 ≤ b; omega), by (show b ≤ 128; omega), fun h => by simp only at h; omega, fun h => by simp [hd.runs] at h⟩
  obtain ⟨hT1, hTO⟩ := hTT
  have hTR : T.Reg 0 64 (rep m r) E := hd.reg.sec hTO (by rw [hT1])
  have hTs : T.stopped = false := by rw [hT1]; exact hd.runs
  have key : ∀ {m' E'}, X.Reg 0 64 (rep m' r) E' → X.restart.Live 0 64 (rep m' r) E' := fun h => by
    obtain ⟨h1, h2, -, h3⟩ := h.restart
    exact ⟨h1, h2, h3⟩
  rcases app_law hTR hTs hn hr hX with ⟨-, -, h1⟩ | ⟨-, h1, -⟩ | ⟨-, -, -, -, h1⟩ | ⟨-, -, -, -, -, ⟨rfl, -, -, -, h1⟩ | ⟨rfl, -, -, h1 | h1⟩⟩
  · omega
  · exact absurd h1 hne
  · omega
  · exact ⟨m + 1, _, key h1, .inl rfl⟩
  · exact ⟨m, _, key h1, .inr ⟨rfl, by decide⟩⟩
  · exact ⟨m + 1, _, key h1, .inl rfl⟩

/-! ### WalRegions -/
/-- Both regions. -/
structure Dk.Two (d : Dk) (x y : List (List UInt8)) : Prop where
  lo : ∃ E, d.Live 0 40 x E
  hi : ∃ E, d.Live 40 40 y E
theorem two_lo {d D : Dk} {x y rs : List (List UInt8)} (h : d.Two x y) (hn : rs.length ≤ 1048576) (hr : ∀ r ∈ rs, r.length ≤ 1048576) (hw : d.app 0 40 rs = (D, 0)) : D.Two (x ++ rs) y := by
  obtain ⟨⟨E, h1⟩, E2, h2⟩ := h
  rcases live_app h1 hn hr hw with ⟨-, -, -, g1, g2, g3⟩ | ⟨hx, -⟩ | ⟨hx, -⟩
  · exact ⟨⟨_, g1⟩, E2, h2.reg.far g1.reg.ok g2 (fun j _ _ => g3 j (by omega)), g1.runs, g1.free⟩
  · cases hx
  · cases hx
theorem two_hi {d D : Dk} {x y rs : List (List UInt8)} (h : d.Two x y) (hn : rs.length ≤ 1048576) (hr : ∀ r ∈ rs, r.length ≤ 1048576) (hw : d.app 40 40 rs = (D, 0)) : D.Two x (y ++ rs) := by
  obtain ⟨⟨E, h1⟩, E2, h2⟩ := h
  rcases live_app h2 hn hr hw with ⟨-, -, -, g1, g2, g3⟩ | ⟨hx, -⟩ | ⟨hx, -⟩
  · exact ⟨⟨E, h1.reg.far g1.reg.ok g2 (fun j _ _ => g3 j (by omega)), g1.runs, g1.free⟩, _, g1⟩
  · cases hx
  · cases hx
theorem two_made : (Dk.made 80).Two [] [] := ⟨⟨_, live_made (by omega) (by omega) (by omega) (by omega)⟩, _, live_made (by omega) (by omega) (by omega) (by omega)⟩
end Go.Proofs.Ytnfgapdpnihicaa
