/- Plain words of the layer 34: a line, by the document. No condition. -/
import Derived.Test.YtmcopafdooejjaaDoorPx
namespace Go.Eng
set_option linter.unusedVariables false
set_option linter.unusedSimpArgs false
theorem head45 (w : List UInt8) : w.head? = some 45 ↔ (0 < w.length ∧ ((w.getD 0 0).toNat : Int) = 45) := by
  cases w with
  | nil => simp
  | cons b l =>
    simp only [List.head?_cons, Option.some.injEq, List.length_cons, Nat.zero_lt_succ, true_and, List.getD_cons_zero]
    constructor
    · rintro rfl; rfl
    · intro h; exact UInt8.toNat_inj.1 (by have : (45 : UInt8).toNat = 45 := rfl; omega)
theorem allB_no {f : Nat → Bool} {m j : Nat} (hj : j < m) (h : f j = false) : ¬ allB f m = true := by
  unfold allB
  rw [decide_eq_true_eq]
  intro h2
  have := h2 j hj
  rw [h] at this; cases this
theorem allB_next {f : Nat → Bool} {j : Nat} (h1 : allB f j = true) (h2 : f j = true) : allB f (j + 1) = true := by rw [allB_step, h1, h2]; rfl
theorem num_in {W : List (List UInt8)} {M : List Int} (h : numsOk W M) {i : Nat} (hi : i < M.length) : 0 ≤ num W M i ∧ num W M i ≤ M.getD i 0 := by
  rw [num_get h hi]
  have h2 := h.2 i (by rw [h.1]; exact hi)
  obtain ⟨n, hn⟩ := Option.isSome_iff_exists.1 h2
  rw [hn]
  exact numP_in hn
theorem smp_neg {V : List (List UInt8)} {j : Nat} {n : Int} (hj : j < V.length) (hc : (V.getD j []).head? = some 45) (hn : numP (V.getD j []).tail 32768 = some n) : 0 - n = (smpL V).getD j 0 ∧ smpF V j = true := by
  rw [smpL_get hj]
  unfold smpF
  have : sampleP (V.getD j []) = some (-n) := by unfold sampleP; rw [if_pos hc, hn]; rfl
  rw [this]; exact ⟨by simp, rfl⟩
theorem smp_neg_no {V : List (List UInt8)} {j : Nat} (hc : (V.getD j []).head? = some 45) (hn : numP (V.getD j []).tail 32768 = none) : smpF V j = false := by
  unfold smpF
  have : sampleP (V.getD j []) = none := by unfold sampleP; rw [if_pos hc, hn]; rfl
  rw [this]; rfl
theorem smp_pos {V : List (List UInt8)} {j : Nat} {n : Int} (hj : j < V.length) (hc : ¬ (V.getD j []).head? = some 45) (hn : numP (V.getD j []) 32767 = some n) : n = (smpL V).getD j 0 ∧ smpF V j = true := by
  rw [smpL_get hj]
  unfold smpF
  rw [sampleP_pos hc, hn]; exact ⟨rfl, rfl⟩
theorem smp_pos_no {V : List (List UInt8)} {j : Nat} (hc : ¬ (V.getD j []).head? = some 45) (hn : numP (V.getD j []) 32767 = none) : smpF V j = false := by
  unfold smpF
  rw [sampleP_pos hc, hn]; rfl
theorem slt_yes {V : List (List UInt8)} {j : Nat} {q s : SlotP} (hj : j < V.length) (hs : slotP (V.getD j []) = some s) (hq : ∀ s, slotP (V.getD j []) = some s → q = s) : q = (sltL V).getD j (0, 0, 0, 0) ∧ sltF V j = true := by
  rw [sltL_get hj, hs, hq s hs]
  unfold sltF
  rw [hs]; exact ⟨rfl, rfl⟩
theorem slt_no {V : List (List UInt8)} {j : Nat} (hs : slotP (V.getD j []) = none) : sltF V j = false := by unfold sltF; rw [hs]; rfl
theorem word_len {l u : List UInt8} {w : List UInt8} {V : List (List UInt8)} (h : cutB 32 l = w :: V) (hu : u ∈ w :: V) : u.length ≤ l.length := cutB_word (by rw [h]; exact hu)
theorem getD_mem {V : List (List UInt8)} {j : Nat} (h : j < V.length) : V.getD j [] ∈ V := by
  rw [List.getD_eq_getElem?_getD, List.getElem?_eq_getElem h]; exact List.getElem_mem h
end Go.Eng
