/- Plain words of the layers 1 and 3: saturating, rounding, sines. No program in sight. No condition. -/
import Derived.WalkKit
namespace Go.Eng
set_option linter.unusedVariables false
set_option linter.unusedSimpArgs false

def clampI (n l m : Int) : Int := if n < l then l else if m < n then m else n
/-- Rounded by s bits. -/
def roundI (n s : Int) : Int := if clampI s 0 62 = 0 then n else n / 2 ^ (clampI s 0 62).toNat + (n / 2 ^ ((clampI s 0 62).toNat - 1)) % 2

theorem bits_and1 (n : Int) : bits .and .i64 n 1 = n % 2 := by
  have h1 : (BitVec.ofInt 64 1).toNat = 2 ^ 1 - 1 := by decide
  have key : (BitVec.ofInt 64 n &&& BitVec.ofInt 64 1).toNat = (n % ((2 ^ 64 : Nat) : Int)).toNat % 2 ^ 1 := by
    rw [BitVec.toNat_and, BitVec.toNat_ofInt, h1, Nat.and_two_pow_sub_one_eq_mod]
  show IntKind.i64.wrap ((BitVec.ofInt 64 n &&& BitVec.ofInt 64 1).toNat : Nat) = n % 2
  rw [key, IntKind.wrap_i64]
  omega

theorem clamp_in (n l m : Int) (h : l ≤ m) : l ≤ clampI n l m ∧ clampI n l m ≤ m := by unfold clampI; split <;> (try split) <;> omega
theorem clamp_of_in {n l m : Int} (h1 : l ≤ n) (h2 : n ≤ m) : clampI n l m = n := by unfold clampI; rw [if_neg (by omega), if_neg (by omega)]

theorem two_pow_pos (k : Nat) : (0 : Int) < 2 ^ k := Int.pow_pos (by decide)
theorem shr_v (p q : Int) (B : Nat) (h0 : 0 ≤ q) (h1 : q ≤ B) : p.fdiv (2 ^ min q.toNat B) = p / 2 ^ q.toNat := by
  rw [Int.fdiv_eq_ediv_of_nonneg _ (Int.le_of_lt (two_pow_pos _)), show min q.toNat B = q.toNat by omega]
theorem shr_v1 (p q : Int) (B : Nat) (h0 : 1 ≤ q) (h1 : q ≤ B) : p.fdiv (2 ^ min (q - 1).toNat B) = p / 2 ^ (q.toNat - 1) := by
  rw [Int.fdiv_eq_ediv_of_nonneg _ (Int.le_of_lt (two_pow_pos _)), show min (q - 1).toNat B = q.toNat - 1 by omega]
theorem half_le (n : Int) (k : Nat) (hk : 1 ≤ k) (m : Int) (hm : 0 ≤ m) (h1 : -2 * m ≤ n) (h2 : n ≤ 2 * m) : -m ≤ n / 2 ^ k ∧ n / 2 ^ k ≤ m := by
  have hp := two_pow_pos k
  have h2p : (2 : Int) ≤ 2 ^ k := by
    obtain ⟨j, rfl⟩ : ∃ j, k = j + 1 := ⟨k - 1, by omega⟩
    rw [Int.pow_succ]
    have := two_pow_pos j
    omega
  constructor
  · rw [Int.le_ediv_iff_mul_le hp]
    have : m * 2 ≤ m * 2 ^ k := Int.mul_le_mul_of_nonneg_left h2p hm
    rw [Int.neg_mul]
    omega
  · apply Int.le_of_lt_add_one
    rw [Int.ediv_lt_iff_lt_mul hp]
    have : (m + 1) * 2 ≤ (m + 1) * 2 ^ k := Int.mul_le_mul_of_nonneg_left h2p (by omega)
    omega
theorem round_in (n q : Int) (hn : -9223372036854775808 ≤ n ∧ n ≤ 9223372036854775807) (h0 : 1 ≤ q) (h1 : q ≤ 62) : IntKind.i64.wrap (n / 2 ^ q.toNat + n / 2 ^ (q.toNat - 1) % 2) = n / 2 ^ q.toNat + n / 2 ^ (q.toNat - 1) % 2 := by
  have := half_le n q.toNat (by omega) 4611686018427387904 (by omega) (by omega) (by omega)
  exact IntWalk.i64_in _ (by omega)
end Go.Eng
