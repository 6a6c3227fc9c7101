/- Plain words of the layer 9: windows, waves of samples, samples of waves. No program in sight. No condition. -/
import Derived.Test.YtjmnidcfgkdhcaaPe
namespace Go.Eng
set_option linter.unusedVariables false
set_option linter.unusedSimpArgs false

/-- A window's first half. -/
def halfL (n : Nat) : List Int := List.replicate (n / 4) 0 ++ slopeL (n / 2) ++ List.replicate (n / 4) 32767
def winL (n : Nat) : List Int := halfL n ++ (halfL n).reverse
theorem halfL_len {n : Nat} (hn : n = 40 ∨ n = 60 ∨ n = 80 ∨ n = 120) : (halfL n).length = n := by
  unfold halfL; rw [List.length_append, List.length_append, List.length_replicate, List.length_replicate, slopeL_len]; omega
theorem halfL_get {n i : Nat} (hn : n = 40 ∨ n = 60 ∨ n = 80 ∨ n = 120) (hi : i < n) : (halfL n).getD i 0 = if i < n / 4 then 0 else if i < n / 4 + n / 2 then (slopeL (n / 2)).getD (i - n / 4) 0 else 32767 := by
  unfold halfL
  simp only [List.getD_eq_getElem?_getD, List.append_assoc, List.getElem?_append, List.length_replicate, slopeL_len, List.getElem?_replicate]
  by_cases h1 : i < n / 4
  · rw [if_pos h1, if_pos h1]; simp [h1]
  · rw [if_neg h1, if_neg h1]
    by_cases h2 : i - n / 4 < n / 2
    · rw [if_pos h2, if_pos (by omega)]
    · rw [if_neg h2, if_pos (by omega), if_neg (by omega)]; rfl
theorem winL_len {n : Nat} (hn : n = 40 ∨ n = 60 ∨ n = 80 ∨ n = 120) : (winL n).length = 2 * n := by
  unfold winL; rw [List.length_append, List.length_reverse, halfL_len hn]; omega
theorem halfL_in (n : Nat) : in16 (halfL n) := by
  intro a ha
  rcases List.mem_append.1 ha with h | h
  · rcases List.mem_append.1 h with h | h
    · rw [List.eq_of_mem_replicate h]; omega
    · obtain ⟨i, hi, rfl⟩ := List.mem_map.1 h
      rw [List.mem_range] at hi
      have := sin_in (2 * i + 1) (show (0 : Int) < 8 * (n / 2 : Nat) by omega)
      omega
  · rw [List.eq_of_mem_replicate h]; omega
theorem winL_in (n : Nat) : in16 (winL n) := by
  intro a ha
  rcases List.mem_append.1 ha with h | h
  · exact halfL_in n a h
  · exact halfL_in n a (List.mem_reverse.1 h)
/-- A window on its way: from both ends on. -/
def wstate (n i : Nat) : List Int := (halfL n).take i ++ (List.replicate (2 * n - 2 * i) 0 ++ ((halfL n).take i).reverse)
theorem wstate_0 (n : Nat) : wstate n 0 = List.replicate (2 * n) 0 := by simp [wstate]
theorem wstate_end {n : Nat} (hn : n = 40 ∨ n = 60 ∨ n = 80 ∨ n = 120) : wstate n n = winL n := by
  unfold wstate winL
  rw [List.take_of_length_le (Nat.le_of_eq (halfL_len hn)), Nat.sub_self, List.replicate_zero, List.nil_append]
theorem wstate_len {n i : Nat} (hn : n = 40 ∨ n = 60 ∨ n = 80 ∨ n = 120) (hi : i ≤ n) : (wstate n i).length = 2 * n := by
  unfold wstate; simp only [List.length_append, List.length_take, List.length_replicate, List.length_reverse, halfL_len hn]; omega
theorem wstate_step {n i : Nat} (hn : n = 40 ∨ n = 60 ∨ n = 80 ∨ n = 120) (hi : i < n) : ((wstate n i).set i ((halfL n).getD i 0)).set (2 * n - 1 - i) ((halfL n).getD i 0) = wstate n (i + 1) := by
  unfold wstate
  have hl : ((halfL n).take i).length = i := by rw [List.length_take, halfL_len hn]; omega
  rw [List.set_append_right _ _ (by omega), hl, Nat.sub_self]
  have e1 : List.replicate (2 * n - 2 * i) (0 : Int) = 0 :: (List.replicate (2 * n - 2 * (i + 1)) 0 ++ [0]) := by
    rw [show 2 * n - 2 * i = (2 * n - 2 * (i + 1)) + 1 + 1 by omega, List.replicate_succ, List.replicate_succ']
  rw [e1, List.cons_append, List.set_cons_zero]
  rw [List.set_append_right _ _ (by omega), hl, show 2 * n - 1 - i - i = (2 * n - 2 * (i + 1)) + 1 by omega, List.set_cons_succ, List.append_assoc, List.set_append_right _ _ (by rw [List.length_replicate]; omega), List.length_replicate, Nat.sub_self]
  have e2 : (halfL n).take (i + 1) = (halfL n).take i ++ [(halfL n).getD i 0] := by
    rw [List.take_add_one]; simp [show i < (halfL n).length by rw [halfL_len hn]; omega]
  rw [e2, List.reverse_append]
  simp
/-- The cosine of place j and wave k. -/
def lapC (n j k : Nat) : Int := cosI ((2 * j + 1 + n) * (2 * k + 1)) (8 * n)
theorem lap_arg {n j k : Nat} (hn : n = 40 ∨ n = 60 ∨ n = 80 ∨ n = 120) (hj : j < 2 * n) (hk : k < n) : 0 ≤ (2 * (j : Int) + 1 + n) * (2 * k + 1) ∧ (2 * (j : Int) + 1 + n) * (2 * k + 1) ≤ 200000 := by
  have h1 : 0 ≤ (2 * (j : Int) + 1 + n) * (2 * k + 1) := Int.mul_nonneg (by omega) (by omega)
  have := prod_in (x := 2 * (j : Int) + 1 + n) (y := 2 * (k : Int) + 1) (X := 601) (Y := 241) (by omega) (by omega)
  exact ⟨h1, by omega⟩
theorem lap_ix {n j k : Nat} (hn : n = 40 ∨ n = 60 ∨ n = 80 ∨ n = 120) (hj : j < 2 * n) (hk : k < n) : (turnL (8 * n)).getD ((2 * (j : Int) + 1 + n) * (2 * k + 1) % (8 * n)).toNat 0 = lapC n j k ∧ 0 ≤ (2 * (j : Int) + 1 + n) * (2 * k + 1) % (8 * n) ∧ (2 * (j : Int) + 1 + n) * (2 * k + 1) % (8 * n) < ((turnL (8 * n)).length : Nat) := by
  have h0 := (lap_arg hn hj hk).1
  unfold lapC
  generalize (2 * (j : Int) + 1 + n) * (2 * k + 1) = c at h0 ⊢
  have h1 := Int.emod_nonneg c (show (8 * (n : Int)) ≠ 0 by omega)
  have h2 := Int.emod_lt_of_pos c (show (0 : Int) < 8 * n by omega)
  rw [turnL_len]
  refine ⟨?_, h1, by omega⟩
  rw [turnL_get (by omega), show (((c % (8 * (n : Int))).toNat : Nat) : Int) = c % (8 * n) by omega]
  unfold cosI
  rw [show ((8 * n : Nat) : Int) = 8 * (n : Int) by omega, Int.emod_emod_of_dvd _ (Int.dvd_refl _)]
theorem lapC_in {n : Nat} (hn : n = 40 ∨ n = 60 ∨ n = 80 ∨ n = 120) (j k : Nat) : -32768 ≤ lapC n j k ∧ lapC n j k ≤ 32767 := by
  have := cos_in ((2 * (j : Int) + 1 + n) * (2 * k + 1)) (show (0 : Int) < 8 * n by omega)
  unfold lapC; omega
def lapA (s : List Int) (n j : Nat) : Int := roundI (s.getD j 0 * (winL n).getD j 0) 15
theorem lapA_in {s : List Int} (hs : in16 s) (n j : Nat) : (-1073741824 ≤ s.getD j 0 * (winL n).getD j 0 ∧ s.getD j 0 * (winL n).getD j 0 ≤ 1073741824) ∧ -40000 ≤ lapA s n j ∧ lapA s n j ≤ 40000 := by
  have := prod_in (x := s.getD j 0) (y := (winL n).getD j 0) (X := 32768) (Y := 32768) (by have := hs.get j; omega) (by have := (winL_in n).get j; omega)
  refine ⟨by omega, ?_⟩
  unfold lapA; rw [roundI15]; omega
def lapP (s : List Int) (n k j : Nat) : Int := lapA s n j * lapC n j k
theorem lapP_in {s : List Int} (hs : in16 s) {n : Nat} (hn : n = 40 ∨ n = 60 ∨ n = 80 ∨ n = 120) (k j : Nat) : -1400000000 ≤ lapP s n k j ∧ lapP s n k j ≤ 1400000000 := by
  have := prod_in (x := lapA s n j) (y := lapC n j k) (X := 40000) (Y := 32768) (lapA_in hs n j).2 (by have := lapC_in hn j k; omega)
  unfold lapP; omega
def lapI (s : List Int) (n k : Nat) : Int := rsat (sumN (lapP s n k) (2 * n)) 15
def lapL (s : List Int) (n : Nat) : List Int := (List.range n).map (lapI s n)
theorem lapL_len (s : List Int) (n : Nat) : (lapL s n).length = n := by simp [lapL]
theorem lapL_get {s : List Int} {n k : Nat} (h : k < n) : (lapL s n).getD k 0 = lapI s n k := by simp [lapL, h]
def aL (s : List Int) (n : Nat) : List Int := (List.range (2 * n)).map (lapA s n)
theorem aL_len (s : List Int) (n : Nat) : (aL s n).length = 2 * n := by simp [aL]
theorem aL_get {s : List Int} {n k : Nat} (h : k < 2 * n) : (aL s n).getD k 0 = lapA s n k := by simp [aL, h]
theorem lapL_zero {s : List Int} {n : Nat} (h : ∀ i, s.getD i 0 = 0) : lapL s n = List.replicate n 0 := by
  unfold lapL
  have hi : ∀ k, lapI s n k = 0 := fun k => by
    unfold lapI
    rw [sumN_0 _ fun j _ => by
      unfold lapP lapA
      rw [h, Int.zero_mul, show roundI 0 15 = 0 from by rw [roundI15]; rfl, Int.zero_mul]]
    exact rsat_0 _
  rw [List.map_congr_left (g := fun _ => (0 : Int)) fun i _ => hi i, List.map_const', List.length_range]
/-- A block of numbers, what isn't there 0. -/
def padL (xs : List Int) (at_ n : Nat) : List Int := (List.range n).map fun i => xs.getD (at_ + i) 0
theorem padL_len (xs : List Int) (a n : Nat) : (padL xs a n).length = n := by simp [padL]
theorem padL_get {xs : List Int} {a n i : Nat} (h : i < n) : (padL xs a n).getD i 0 = xs.getD (a + i) 0 := by simp [padL, h]
theorem padL_in16 {xs : List Int} (h : in16 xs) (a n : Nat) : in16 (padL xs a n) := by
  intro x hx
  obtain ⟨i, _, rfl⟩ := List.mem_map.1 hx
  exact h.get _
theorem padL_in32 {xs : List Int} (h : in32 xs) (a n : Nat) : in32 (padL xs a n) := by
  intro x hx
  obtain ⟨i, _, rfl⟩ := List.mem_map.1 hx
  exact h.get _
theorem padL_end {xs : List Int} {a n i : Nat} (hi : i ≤ n) (h : ¬ (i < n ∧ a + i < xs.length)) : (padL xs a n).take i ++ List.replicate (n - i) 0 = padL xs a n := by
  apply List.ext_getElem
  · rw [List.length_append, List.length_take, padL_len, List.length_replicate]; omega
  · intro k h1 h2
    rw [padL_len] at h2
    rw [List.getElem_append]
    split
    · rw [List.getElem_take]
    · rename_i h3
      rw [List.length_take, padL_len] at h3
      rw [List.getElem_replicate]
      simp [padL]
      rw [List.getElem?_eq_none (by omega)]
      rfl
end Go.Eng
