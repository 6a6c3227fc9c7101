/- Plain words of the layer 9: samples of waves. No program in sight. No condition. -/
import Derived.Test.YtjmnidcfgkdhcaaPf
namespace Go.Eng
set_option linter.unusedVariables false
set_option linter.unusedSimpArgs false

theorem tmod_abs (n : Int) {d : Int} (hd : 0 < d) : -d < n.tmod d ∧ n.tmod d < d := by
  have h1 := Int.emod_lt_of_pos n hd
  have h2 := Int.emod_nonneg n (show d ≠ 0 by omega)
  by_cases h : n.tmod d < 0
  · rcases (show -d < n.tmod d ∨ n.tmod d ≤ -d by omega) with h3 | h3
    · exact ⟨h3, by omega⟩
    · have h4 := (tmod_in n hd).1
      have h5 : n.tmod d = -d := by omega
      have h6 := Int.mul_tdiv_add_tmod n d
      have h7 : 0 ≤ (-n).tmod d := Int.tmod_nonneg _ (by
        rcases (show n < 0 ∨ 0 ≤ n by omega) with h8 | h8
        · omega
        · have := Int.tmod_nonneg d h8; omega)
      have h9 : (-n).tmod d < d := Int.tmod_lt_of_pos _ hd
      rw [Int.neg_tmod] at h9
      omega
  · have := tmod_pos hd h; omega
theorem down_eq (n : Int) {d : Int} (hd : 0 < d) : (if n.tmod d < 0 then n.tdiv d - 1 else n.tdiv d) = n / d := by
  have e1 := Int.mul_tdiv_add_tmod n d
  have e2 := tmod_abs n hd
  symm
  split
  · refine ((Int.ediv_emod_unique (r := n.tmod d + d) hd).2 ⟨?_, by omega, by omega⟩).1
    rw [Int.mul_sub]; omega
  · exact ((Int.ediv_emod_unique (r := n.tmod d) hd).2 ⟨by omega, by omega, by omega⟩).1
theorem tdiv_small (n : Int) {d : Int} (hd : 1 ≤ d) : (0 ≤ n → 0 ≤ n.tdiv d ∧ n.tdiv d ≤ n) ∧ (n ≤ 0 → n ≤ n.tdiv d ∧ n.tdiv d ≤ 0) := by
  have key : ∀ m : Int, 0 ≤ m → 0 ≤ m.tdiv d ∧ m.tdiv d ≤ m := fun m hm => by
    rw [Int.tdiv_eq_ediv_of_nonneg hm]
    exact ⟨Int.ediv_nonneg hm (by omega), Int.ediv_le_self _ hm⟩
  refine ⟨key n, fun h => ?_⟩
  have := key (-n) (by omega)
  rw [Int.neg_tdiv] at this
  omega
theorem quo_back (y d : Int) : y.tdiv d * d = y - y.tmod d := by
  have := Int.mul_tdiv_add_tmod y d
  rw [Int.mul_comm]; omega
theorem back_down {y d : Int} (hd : 0 < d) : (y < 0 ∧ y - y.tmod d ≠ y) ↔ y.tmod d < 0 := by
  constructor
  · rintro ⟨h1, h2⟩
    have h3 : 0 ≤ (-y).tmod d := Int.tmod_nonneg _ (by omega)
    rw [Int.neg_tmod] at h3
    omega
  · intro h
    refine ⟨?_, by omega⟩
    rcases (show y < 0 ∨ 0 ≤ y by omega) with h1 | h1
    · exact h1
    · have := Int.tmod_nonneg d h1; omega
/-- A wave's number at a place, and the sum of all. -/
def backP (c : List Int) (n j k : Nat) : Int := c.getD k 0 * lapC n j k
theorem backP_in {c : List Int} (hc : in32 c) {n : Nat} (hn : n = 40 ∨ n = 60 ∨ n = 80 ∨ n = 120) (j k : Nat) : -70368744177664 ≤ backP c n j k ∧ backP c n j k ≤ 70368744177664 :=
  prod_in (X := 2147483648) (Y := 32768) (by have := hc.get k; omega) (by have := lapC_in hn j k; omega)
def backV (c : List Int) (n j : Nat) : Int := 2 * roundI (sumN (backP c n j) n) 15 + (n / 2 : Nat)
theorem backV_in {c : List Int} (hc : in32 c) {n : Nat} (hn : n = 40 ∨ n = 60 ∨ n = 80 ∨ n = 120) (j : Nat) : (-8444249301319680 ≤ sumN (backP c n j) n ∧ sumN (backP c n j) n ≤ 8444249301319680) ∧ (-300000000000 ≤ roundI (sumN (backP c n j) n) 15 ∧ roundI (sumN (backP c n j) n) 15 ≤ 300000000000) ∧ -700000000000 ≤ backV c n j ∧ backV c n j ≤ 700000000000 := by
  have h := sumN_in (f := backP c n j) (B := 70368744177664) (by omega) n (fun q _ => backP_in hc hn j q)
  have h2 : -300000000000 ≤ roundI (sumN (backP c n j) n) 15 ∧ roundI (sumN (backP c n j) n) 15 ≤ 300000000000 := by rw [roundI15]; omega
  refine ⟨by omega, h2, ?_⟩
  unfold backV; omega
def backS (c : List Int) (n j : Nat) : Int := clampI (backV c n j / n) (-2147483648) 2147483647
theorem backS_in (c : List Int) (n j : Nat) : -2147483648 ≤ backS c n j ∧ backS c n j ≤ 2147483647 := clamp_in _ _ _ (by decide)
def backI (c : List Int) (n j : Nat) : Int := rsat (backS c n j * (winL n).getD j 0) 15
theorem backI_in (c : List Int) (n j : Nat) : -2147483648 ≤ backI c n j ∧ backI c n j ≤ 2147483647 := rsat_in _ _
theorem backW_in (c : List Int) (n j : Nat) : -70368744177664 ≤ backS c n j * (winL n).getD j 0 ∧ backS c n j * (winL n).getD j 0 ≤ 70368744177664 :=
  prod_in (X := 2147483648) (Y := 32768) (by have := backS_in c n j; omega) (by have := (winL_in n).get j; omega)
def backL (c : List Int) (n : Nat) : List Int := (List.range (2 * n)).map (backI c n)
theorem backL_len (c : List Int) (n : Nat) : (backL c n).length = 2 * n := by simp [backL]
theorem backL_get {c : List Int} {n j : Nat} (h : j < 2 * n) : (backL c n).getD j 0 = backI c n j := by simp [backL, h]
theorem backL_in (c : List Int) (n : Nat) : in32 (backL c n) := by
  intro a ha
  obtain ⟨j, _, rfl⟩ := List.mem_map.1 ha
  exact backI_in c n j
def ovL (c : List Int) (n : Nat) : List Int := (List.range n).map fun j => backI c n (n + j)
theorem ovL_len (c : List Int) (n : Nat) : (ovL c n).length = n := by simp [ovL]
theorem ovL_get {c : List Int} {n j : Nat} (h : j < n) : (ovL c n).getD j 0 = backI c n (n + j) := by simp [ovL, h]
theorem ovL_in (c : List Int) (n : Nat) : in32 (ovL c n) := by
  intro a ha
  obtain ⟨j, _, rfl⟩ := List.mem_map.1 ha
  exact backI_in c n (n + j)
def unlI (o c : List Int) (n j : Nat) : Int := clampI (o.getD j 0 + backI c n j) (-2147483648) 2147483647
def unlL (o c : List Int) (n : Nat) : List Int := (List.range n).map (unlI o c n)
theorem unlL_len (o c : List Int) (n : Nat) : (unlL o c n).length = n := by simp [unlL]
theorem unlL_get {o c : List Int} {n j : Nat} (h : j < n) : (unlL o c n).getD j 0 = unlI o c n j := by simp [unlL, h]
end Go.Eng
