/- Plain words of the layer 3: sines. No program in sight. No condition. -/
import Derived.Test.YtmcopafdooejjaaDoorPa
namespace Go.Eng
set_option linter.unusedVariables false
set_option linter.unusedSimpArgs false

def partI (n d : Int) : Int := n * d / 1073741824
def heightI (n den : Int) : Int := (if den ≤ 4 * n then 2 * den - 4 * n else 4 * n) * 1073741824 / den
def curveU (t u : Int) : Int := partI (1686629713 - partI (693598668 - partI (85569306 - partI (5026995 - partI 172272 u) u) u) u) t
def curveI (t : Int) : Int := if 32767 < roundI (curveU t (partI t t)) 15 then 32767 else roundI (curveU t (partI t t)) 15
def sgnI (n den : Int) (below : Bool) : Int := if below then -curveI (heightI n den) else curveI (heightI n den)
/-- The sine of num parts of den, as a number of 16 bits. -/
def sinI (num den : Int) : Int := if den ≤ 2 * (num % den) then sgnI (2 * (num % den) - den) (2 * den) true else sgnI (2 * (num % den)) (2 * den) false
def cosI (num den : Int) : Int := sinI (4 * (num % den) + den) (4 * den)

theorem quo_nn {p q : Int} (h0 : 0 ≤ p) (h1 : 0 < q) (h2 : p ≤ 9223372036854775807) : IntKind.i64.wrap (p.tdiv q) = p / q := by
  rw [Int.tdiv_eq_ediv_of_nonneg h0]
  have := Int.ediv_nonneg h0 (Int.le_of_lt h1)
  have := Int.ediv_le_self q h0
  exact IntWalk.i64_in _ (by omega)
theorem quo_nnu {p q : Int} (h0 : 0 ≤ p) (h1 : 0 < q) (h2 : p ≤ 18446744073709551615) : IntKind.u64.wrap (p.tdiv q) = p / q := by
  rw [Int.tdiv_eq_ediv_of_nonneg h0]
  have := Int.ediv_nonneg h0 (Int.le_of_lt h1)
  have := Int.ediv_le_self q h0
  exact IntWalk.u64_in _ (by omega)
theorem tmod_neg {n d : Int} (hd : 0 < d) (h : n.tmod d < 0) : n.tmod d + d = n % d := by
  have h0 : ¬ 0 ≤ n := fun h0 => by have := Int.tmod_nonneg d h0; omega
  rw [Int.tmod_eq_emod] at h ⊢
  have hnd : ¬ (0 ≤ n ∨ d ∣ n) := by
    rintro (h1 | h1)
    · exact h0 h1
    · rw [Int.emod_eq_zero_of_dvd h1] at h
      simp [h1] at h
  rw [if_neg hnd]
  have : (d.natAbs : Int) = d := by omega
  omega
theorem tmod_pos {n d : Int} (hd : 0 < d) (h : ¬ n.tmod d < 0) : n.tmod d = n % d := by
  rw [Int.tmod_eq_emod] at h ⊢
  split
  · simp
  · rename_i hnd
    rw [if_neg hnd] at h
    have := Int.emod_lt_of_pos n hd
    have : (d.natAbs : Int) = d := by omega
    omega
theorem tmod_in (n : Int) {d : Int} (hd : 0 < d) : -d ≤ n.tmod d ∧ n.tmod d < d := by
  have h1 := Int.emod_lt_of_pos n hd
  have h2 := Int.emod_nonneg n (show d ≠ 0 by omega)
  by_cases h : n.tmod d < 0
  · have := tmod_neg hd h; omega
  · have := tmod_pos hd h; omega
theorem tmod_emod (n : Int) {d : Int} (hd : 0 < d) : n.tmod d % d = n % d := by
  by_cases h : n.tmod d < 0
  · have h1 := tmod_neg hd h
    rw [← Int.emod_emod_of_dvd n (Int.dvd_refl d), ← h1]
    simp
  · rw [tmod_pos hd h, Int.emod_emod_of_dvd _ (Int.dvd_refl d)]

theorem partI_in (c u : Int) (hc : 0 ≤ c) (hu : 0 ≤ u ∧ u ≤ 1073741824) : 0 ≤ partI c u ∧ partI c u ≤ c ∧ 0 ≤ c * u ∧ c * u ≤ c * 1073741824 := by
  have h1 : 0 ≤ c * u := Int.mul_nonneg hc hu.1
  have h2 : c * u ≤ c * 1073741824 := Int.mul_le_mul_of_nonneg_left hu.2 hc
  exact ⟨Int.ediv_nonneg h1 (by decide), by unfold partI; omega, h1, h2⟩

def sineTab : List Int := [5026995, 85569306, 693598668, 1686629713]
def pS (u : Int) : Nat → Int
  | 0 => 172272
  | i + 1 => sineTab.getD i 0 - partI (pS u i) u
theorem pS_in {u : Int} (hu : 0 ≤ u ∧ u ≤ 1073741824) : ∀ i, i ≤ 4 → 0 ≤ pS u i ∧ pS u i ≤ 1686629713 ∧ partI (pS u i) u ≤ pS u i ∧ 0 ≤ partI (pS u i) u ∧ 0 ≤ pS u i * u ∧ pS u i * u ≤ pS u i * 1073741824 ∧ (i < 4 → pS u i ≤ sineTab.getD i 0 ∧ sineTab.getD i 0 ≤ 1686629713)
  | 0, _ => by have := partI_in 172272 u (by decide) hu; simp only [pS] at this ⊢; simp [sineTab]; omega
  | i + 1, hi => by
    have h0 := pS_in hu i (by omega)
    have h1 : pS u (i + 1) = sineTab.getD i 0 - partI (pS u i) u := rfl
    have h2 := h0.2.2.2.2.2.2 (by omega)
    have h3 := partI_in (pS u (i + 1)) u (by omega) hu
    refine ⟨by omega, by omega, by omega, by omega, h3.2.2.1, h3.2.2.2, fun hl => ?_⟩
    have h4 : pS u (i + 1) ≤ sineTab.getD i 0 := by omega
    have : i = 0 ∨ i = 1 ∨ i = 2 := by omega
    rcases this with rfl | rfl | rfl <;> (simp [sineTab] at h4 ⊢; omega)
theorem pS_curve (t u : Int) : partI (pS u 4) t = curveU t u := rfl

theorem roundI_eq {n s : Int} (h : 1 ≤ s ∧ s ≤ 62) : roundI n s = n / 2 ^ s.toNat + n / 2 ^ (s.toNat - 1) % 2 := by
  have : clampI s 0 62 = s := clamp_of_in (by omega) (by omega)
  unfold roundI
  rw [this, if_neg (by omega)]
theorem roundI15 (n : Int) : roundI n 15 = n / 32768 + n / 16384 % 2 := roundI_eq (by omega)

theorem height_in {n den : Int} (h0 : 0 ≤ n) (h1 : 2 * n ≤ den) (hd : 0 < den) : 0 ≤ heightI n den ∧ heightI n den ≤ 1073741824 := by
  unfold heightI
  have : 0 ≤ (if den ≤ 4 * n then 2 * den - 4 * n else 4 * n) ∧ (if den ≤ 4 * n then 2 * den - 4 * n else 4 * n) ≤ den := by split <;> omega
  refine ⟨Int.ediv_nonneg (by omega) (by omega), ?_⟩
  apply Int.le_of_lt_add_one
  rw [Int.ediv_lt_iff_lt_mul hd]
  generalize (if den ≤ 4 * n then 2 * den - 4 * n else 4 * n) = r at this ⊢
  omega
theorem height_scale {n den : Int} (hd : 0 < den) : heightI (2 * n) (2 * den) = heightI n den := by
  unfold heightI
  have : (if 2 * den ≤ 4 * (2 * n) then 2 * (2 * den) - 4 * (2 * n) else 4 * (2 * n)) * 1073741824 = 2 * ((if den ≤ 4 * n then 2 * den - 4 * n else 4 * n) * 1073741824) := by
    by_cases h : den ≤ 4 * n
    · rw [if_pos (by omega), if_pos h]; omega
    · rw [if_neg (by omega), if_neg h]; omega
  rw [this, Int.mul_ediv_mul_of_pos _ _ (by decide)]

theorem curveU_in {t u : Int} (ht : 0 ≤ t ∧ t ≤ 1073741824) (hu : 0 ≤ u ∧ u ≤ 1073741824) : 0 ≤ curveU t u ∧ curveU t u ≤ 1686629713 := by
  rw [← pS_curve]
  have h1 := pS_in hu 4 (by omega)
  have h2 := partI_in (pS u 4) t h1.1 ht
  omega
theorem curve_in {t : Int} (ht : 0 ≤ t ∧ t ≤ 1073741824) : 0 ≤ curveI t ∧ curveI t ≤ 32767 ∧ 0 ≤ roundI (curveU t (partI t t)) 15 ∧ roundI (curveU t (partI t t)) 15 ≤ 1686629713 := by
  have h1 := partI_in t t ht.1 ht
  have h2 := curveU_in ht (show 0 ≤ partI t t ∧ partI t t ≤ 1073741824 by omega)
  unfold curveI
  rw [roundI15]
  generalize curveU t (partI t t) = x at h2 ⊢
  split <;> omega
theorem sgn_in {n den : Int} (h0 : 0 ≤ n) (h1 : 2 * n ≤ den) (hd : 0 < den) (b : Bool) : -32767 ≤ sgnI n den b ∧ sgnI n den b ≤ 32767 := by
  have := curve_in (height_in h0 h1 hd)
  unfold sgnI
  split <;> omega
theorem sin_in (num : Int) {den : Int} (hd : 0 < den) : -32767 ≤ sinI num den ∧ sinI num den ≤ 32767 := by
  have h1 := Int.emod_lt_of_pos num hd
  have h2 := Int.emod_nonneg num (show den ≠ 0 by omega)
  unfold sinI
  split
  · exact sgn_in (by omega) (by omega) (by omega) _
  · exact sgn_in (by omega) (by omega) (by omega) _
theorem cos_in (num : Int) {den : Int} (hd : 0 < den) : -32767 ≤ cosI num den ∧ cosI num den ≤ 32767 := sin_in _ (by omega)
theorem sin_emod {a b den : Int} (h : a % den = b % den) : sinI a den = sinI b den := by unfold sinI; rw [h]

theorem down_neg {n d : Int} (hd : 1 ≤ d) (h : n.tmod d < 0) : n.tdiv d - 1 = n / d := by
  have h1 := Int.tmod_add_mul_tdiv n d
  have h2 := Int.emod_add_mul_ediv n d
  have h3 := tmod_neg (show 0 < d by omega) h
  have h4 : d * (n.tdiv d - 1) = d * (n / d) := by rw [Int.mul_sub]; omega
  exact Int.eq_of_mul_eq_mul_left (by omega) h4
theorem down_pos {n d : Int} (hd : 1 ≤ d) (h : ¬ n.tmod d < 0) : n.tdiv d = n / d := by
  have h1 := Int.tmod_add_mul_tdiv n d
  have h2 := Int.emod_add_mul_ediv n d
  have h3 := tmod_pos (show 0 < d by omega) h
  have h4 : d * n.tdiv d = d * (n / d) := by omega
  exact Int.eq_of_mul_eq_mul_left (by omega) h4
theorem ediv_in (n d : Int) (hd : 1 ≤ d) (m : Int) (hm : 0 ≤ m) (h1 : -m - 1 ≤ n) (h2 : n ≤ m) : -m - 1 ≤ n / d ∧ n / d ≤ m := by
  constructor
  · rw [Int.le_ediv_iff_mul_le (by omega)]
    have : (m + 1) * 1 ≤ (m + 1) * d := Int.mul_le_mul_of_nonneg_left hd (by omega)
    rw [show -m - 1 = -(m + 1) by omega, Int.neg_mul]
    omega
  · apply Int.le_of_lt_add_one
    rw [Int.ediv_lt_iff_lt_mul (by omega)]
    have : (m + 1) * 1 ≤ (m + 1) * d := Int.mul_le_mul_of_nonneg_left hd (by omega)
    omega
theorem down_in (n d : Int) (hd : 1 ≤ d) (hn : -9223372036854775808 ≤ n ∧ n ≤ 9223372036854775807) : (n.tmod d < 0 → n.tdiv d - 1 = n / d) ∧ -9223372036854775808 ≤ n / d ∧ n / d ≤ 9223372036854775807 :=
  ⟨down_neg hd, by have := ediv_in n d hd 9223372036854775807 (by omega) (by omega) (by omega); omega⟩
theorem clamp_minmax (s : Int) : (if 0 > (if 62 < s then 62 else s) then 0 else (if 62 < s then 62 else s)) = clampI s 0 62 := by
  unfold clampI
  by_cases h1 : 62 < s
  · rw [if_pos h1]; simp; omega
  · rw [if_neg h1]
theorem pow_in (q : Int) (h : 1 ≤ q ∧ q ≤ 62) : 1 ≤ (2 : Int) ^ (q.toNat - 1) ∧ (2 : Int) ^ (q.toNat - 1) ≤ 2305843009213693952 := by
  have h1 : (2 : Nat) ^ (q.toNat - 1) ≤ 2 ^ 61 := Nat.pow_le_pow_right (by decide) (by omega)
  have h2 : 1 ≤ (2 : Nat) ^ (q.toNat - 1) := Nat.one_le_two_pow
  have h3 : (2 : Int) ^ (q.toNat - 1) = ((2 ^ (q.toNat - 1) : Nat) : Int) := by simp
  rw [h3]
  omega
theorem half_in (n q : Int) (hn : -9223372036854775808 ≤ n ∧ n ≤ 9223372036854775807) (h : 1 ≤ q ∧ q ≤ 62) : -9223372036854775808 ≤ n / 2 ^ (q.toNat - 1) ∧ n / 2 ^ (q.toNat - 1) ≤ 9223372036854775807 ∧ n / 2 ^ (q.toNat - 1) / 2 = n / 2 ^ q.toNat := by
  have h1 := pow_in q h
  have h2 := ediv_in n (2 ^ (q.toNat - 1)) (by omega) 9223372036854775807 (by omega) (by omega) (by omega)
  refine ⟨by omega, by omega, ?_⟩
  rw [Int.ediv_ediv_of_nonneg (by omega)]
  have : q.toNat = q.toNat - 1 + 1 := by omega
  rw [this, Int.pow_succ]
  simp
theorem mul_in {x y : Int} (h1 : -200000 ≤ x) (h2 : x ≤ 200000) (h3 : -40000 ≤ y) (h4 : y ≤ 40000) : -8000000000 ≤ x * y ∧ x * y ≤ 8000000000 := by
  have a : (200000 - x) * (40000 - y) ≥ 0 := Int.mul_nonneg (by omega) (by omega)
  have b : (200000 + x) * (40000 + y) ≥ 0 := Int.mul_nonneg (by omega) (by omega)
  have c : (200000 - x) * (40000 + y) ≥ 0 := Int.mul_nonneg (by omega) (by omega)
  have d : (200000 + x) * (40000 - y) ≥ 0 := Int.mul_nonneg (by omega) (by omega)
  rw [Int.sub_mul, Int.mul_sub] at a
  rw [Int.add_mul, Int.mul_add] at b
  rw [Int.sub_mul, Int.mul_add] at c
  rw [Int.add_mul, Int.mul_sub] at d
  rw [Int.mul_sub] at a d
  rw [Int.mul_add] at b c
  omega
theorem shl_one (q : Int) (h : 1 ≤ q ∧ q ≤ 62) : IntKind.i64.wrap (1 * 2 ^ min (q - 1).toNat (IntKind.bits .i64)) = 2 ^ (q.toNat - 1) := by
  rw [show min (q - 1).toNat (IntKind.bits .i64) = q.toNat - 1 by simp [IntKind.bits]; omega]
  have := pow_in q h
  rw [Int.one_mul]
  exact IntWalk.i64_in _ (by omega)
theorem emod_neg1 {a den : Int} (ha : -den ≤ a ∧ a < den) (h : 2 * a < 0) : a % den = a + den := by
  rw [← Int.add_emod_right]
  exact Int.emod_eq_of_lt (by omega) (by omega)
theorem sgn_scale {n den : Int} (hd : 0 < den) (b : Bool) : sgnI (2 * n) (2 * den) b = sgnI n den b := by unfold sgnI; rw [height_scale hd]
theorem cos_ref (num : Int) {den : Int} (hd : 0 < den) : sinI (4 * num.tmod den + den) (4 * den) = cosI num den := by
  unfold cosI
  apply sin_emod
  have h1 := tmod_emod num hd
  have : (4 * num.tmod den) % (4 * den) = (4 * (num % den)) % (4 * den) := by
    rw [Int.mul_emod_mul_of_pos _ _ (by decide), Int.mul_emod_mul_of_pos _ _ (by decide), h1, Int.emod_emod_of_dvd _ (Int.dvd_refl den)]
  rw [Int.add_emod, this, ← Int.add_emod]

/-- As the program has it: a quarter, and the height in it. -/
def quarterI (num den : Int) : Int := 4 * (num % den) / den
def tI (num den : Int) : Int := (if quarterI num den % 2 = 1 then den - 4 * (num % den) % den else 4 * (num % den) % den) * 1073741824 / den
theorem quarter_eq {num den : Int} (hd : 0 < den) : 0 ≤ quarterI num den ∧ quarterI num den ≤ 3 ∧ 4 * (num % den) = den * quarterI num den + 4 * (num % den) % den ∧ 0 ≤ 4 * (num % den) % den ∧ 4 * (num % den) % den < den := by
  have h1 := Int.emod_lt_of_pos num hd
  have h2 := Int.emod_nonneg num (show den ≠ 0 by omega)
  have h3 := Int.emod_lt_of_pos (4 * (num % den)) hd
  have h4 := Int.emod_nonneg (4 * (num % den)) (show den ≠ 0 by omega)
  refine ⟨Int.ediv_nonneg (by omega) (by omega), ?_, ?_, h4, h3⟩
  · apply Int.le_of_lt_add_one
    unfold quarterI
    rw [Int.ediv_lt_iff_lt_mul hd]
    omega
  · unfold quarterI
    have := Int.mul_ediv_add_emod (4 * (num % den)) den
    omega
theorem tI_in {num den : Int} (hd : 0 < den) : 0 ≤ tI num den ∧ tI num den ≤ 1073741824 := by
  obtain ⟨h1, h2, h3, h4, h5⟩ := quarter_eq (num := num) hd
  unfold tI
  have : 0 ≤ (if quarterI num den % 2 = 1 then den - 4 * (num % den) % den else 4 * (num % den) % den) ∧ (if quarterI num den % 2 = 1 then den - 4 * (num % den) % den else 4 * (num % den) % den) ≤ den := by split <;> omega
  refine ⟨Int.ediv_nonneg (by omega) (by omega), ?_⟩
  apply Int.le_of_lt_add_one
  rw [Int.ediv_lt_iff_lt_mul hd]
  generalize (if quarterI num den % 2 = 1 then den - 4 * (num % den) % den else 4 * (num % den) % den) = r at this ⊢
  omega
theorem sin_quarter {num den : Int} (hd : 0 < den) : sinI num den = if 2 ≤ quarterI num den then -curveI (tI num den) else curveI (tI num den) := by
  obtain ⟨h1, h2, h3, h4, h5⟩ := quarter_eq (num := num) hd
  have hq : quarterI num den = 0 ∨ quarterI num den = 1 ∨ quarterI num den = 2 ∨ quarterI num den = 3 := by omega
  unfold sinI sgnI tI heightI
  rcases hq with hq | hq | hq | hq <;> rw [hq] at h3 ⊢
  · rw [if_neg (show ¬ den ≤ 2 * (num % den) by omega)]
    simp only [Bool.false_eq_true, if_false]
    rw [if_neg (show ¬ 2 * den ≤ 4 * (2 * (num % den)) by omega), if_neg (show ¬ (2 : Int) ≤ 0 by decide), if_neg (show ¬ (0 : Int) % 2 = 1 by decide)]
    rw [show 4 * (2 * (num % den)) * 1073741824 = 2 * (4 * (num % den) * 1073741824) by omega, Int.mul_ediv_mul_of_pos _ _ (by decide), show 4 * (num % den) % den = 4 * (num % den) by omega]
  · rw [if_neg (show ¬ den ≤ 2 * (num % den) by omega)]
    simp only [Bool.false_eq_true, if_false]
    rw [if_pos (show 2 * den ≤ 4 * (2 * (num % den)) by omega), if_neg (show ¬ (2 : Int) ≤ 1 by decide), if_pos (show (1 : Int) % 2 = 1 by decide)]
    rw [show (2 * (2 * den) - 4 * (2 * (num % den))) * 1073741824 = 2 * ((den - 4 * (num % den) % den) * 1073741824) by omega, Int.mul_ediv_mul_of_pos _ _ (by decide)]
  · rw [if_pos (show den ≤ 2 * (num % den) by omega)]
    simp only [if_true]
    rw [if_neg (show ¬ 2 * den ≤ 4 * (2 * (num % den) - den) by omega), if_pos (show (2 : Int) ≤ 2 by decide), if_neg (show ¬ (2 : Int) % 2 = 1 by decide)]
    rw [show 4 * (2 * (num % den) - den) * 1073741824 = 2 * (4 * (num % den) % den * 1073741824) by omega, Int.mul_ediv_mul_of_pos _ _ (by decide)]
  · rw [if_pos (show den ≤ 2 * (num % den) by omega)]
    simp only [if_true]
    rw [if_pos (show 2 * den ≤ 4 * (2 * (num % den) - den) by omega), if_pos (show (2 : Int) ≤ 3 by decide), if_pos (show (3 : Int) % 2 = 1 by decide)]
    rw [show (2 * (2 * den) - 4 * (2 * (num % den) - den)) * 1073741824 = 2 * ((den - 4 * (num % den) % den) * 1073741824) by omega, Int.mul_ediv_mul_of_pos _ _ (by decide)]
end Go.Eng
