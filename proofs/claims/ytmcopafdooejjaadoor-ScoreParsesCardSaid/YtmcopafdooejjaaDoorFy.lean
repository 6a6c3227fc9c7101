/- Contracts: saturation, products in fixed point. No condition but on the numbers' sizes. -/
import Derived.Test.YtmcopafdooejjaaDoorTy
import Derived.Test.YtmcopafdooejjaaDoorFw
namespace Go.Proofs.YtmcopafdooejjaaDoor
open Go.Eng
set_option linter.unusedVariables false
set_option linter.unusedSimpArgs false
set_option maxRecDepth 20000
attribute [local irreducible] WL WT
theorem fix_Sat32 (n : Int) : Ctr Tryd.prog 56 [.int .i64 n] ([]) (fun v ho => v = .int .i32 (clampI n (-2147483648) 2147483647) ∧ ho = []) := by
  refine spec_of Tryd.func56 rfl rfl fun w0 L => ?_
  refine w_seq ?_
  refine w_region rfl ?_
  refine o_asg rfl ?_
  refine w_nil ?_
  refine w_seq ?_
  refine w_region rfl ?_
  refine o_mov rfl ?_
  refine o_call (within_int64 _ _ _) fn_70 rfl (by repeat (first | exact Take.nil | exact Take.all _ | (apply Take.cons; focus (repeat (first | exact Pick.here | apply Pick.next))))) ?_
  rintro v ho ⟨rfl, rfl⟩
  have hc := clamp_in n (-2147483648) 2147483647 (by omega)
  refine o_conv int_21 (by rw [Tryd.underlying2]; rfl) rfl (by first | exact IntWalk.i32_in _ (by omega) | rfl) ?_
  refine o_asg rfl ?_
  refine w_nil ?_
  exact w_ret (ret1 rfl rfl) ⟨rfl, rfl⟩ (HSub.refl _)

theorem ref_Sat32 (n : Int) : Ctr Tryd.prog 44 [.int .i64 n, .int .i64 32] ([]) (fun v ho => v = .int .i64 (clampI n (-2147483648) 2147483647) ∧ ho = []) := by
  refine spec_of Tryd.func44 rfl rfl fun w0 L => ?_
  refine w_seq ?_
  refine w_region rfl ?_
  refine o_asg rfl ?_
  refine w_nil ?_
  refine w_seq ?_
  refine w_region rfl ?_
  refine o_mov rfl ?_
  refine o_sub (c := 31) rfl rfl rfl ?_
  refine o_conv int_91 (by rw [Tryd.underlying3]; rfl) rfl (by first | exact IntWalk.u64_in _ (by omega) | rfl) ?_
  refine o_shl (c := 2147483648) rfl rfl (by decide) rfl ?_
  refine o_sub (c := 2147483647) rfl rfl rfl ?_
  refine o_asg rfl ?_
  refine w_nil ?_
  refine w_seq ?_
  refine w_seq ?_
  refine w_region rfl ?_
  refine o_mov rfl ?_
  refine o_mov rfl ?_
  refine o_gt rfl rfl ?_
  refine w_nil ?_
  refine w_if_d rfl (fun h1 => ?_) (fun h1 => ?_)
  · refine w_seq ?_
    refine w_region rfl ?_
    refine o_mov rfl ?_
    refine o_asg rfl ?_
    refine w_nil ?_
    exact w_ret (ret1 rfl rfl) ⟨by unfold clampI; rw [if_neg (by omega), if_pos h1], rfl⟩ (HSub.refl _)
  · refine w_skip ?_
    refine w_seq ?_
    refine w_seq ?_
    refine w_region rfl ?_
    refine o_mov rfl ?_
    refine o_mov rfl ?_
    refine o_neg (c := -2147483647) rfl rfl ?_
    refine o_sub (c := -2147483648) rfl rfl rfl ?_
    refine o_lt rfl rfl ?_
    refine w_nil ?_
    refine w_if_d rfl (fun h2 => ?_) (fun h2 => ?_)
    · refine w_seq ?_
      refine w_region rfl ?_
      refine o_mov rfl ?_
      refine o_neg (c := -2147483647) rfl rfl ?_
      refine o_sub (c := -2147483648) rfl rfl rfl ?_
      refine o_asg rfl ?_
      refine w_nil ?_
      exact w_ret (ret1 rfl rfl) ⟨by unfold clampI; rw [if_pos (by omega)], rfl⟩ (HSub.refl _)
    · refine w_skip ?_
      refine w_seq ?_
      refine w_region rfl ?_
      refine o_mov rfl ?_
      refine o_asg rfl ?_
      refine w_nil ?_
      exact w_ret (ret1 rfl rfl) ⟨by unfold clampI; rw [if_neg (by omega), if_neg h1], rfl⟩ (HSub.refl _)

theorem ref_Sat16 (n : Int) : Ctr Tryd.prog 44 [.int .i64 n, .int .i64 16] ([]) (fun v ho => v = .int .i64 (clampI n (-32768) 32767) ∧ ho = []) := by
  refine spec_of Tryd.func44 rfl rfl fun w0 L => ?_
  refine w_seq ?_
  refine w_region rfl ?_
  refine o_asg rfl ?_
  refine w_nil ?_
  refine w_seq ?_
  refine w_region rfl ?_
  refine o_mov rfl ?_
  refine o_sub (c := 15) rfl rfl rfl ?_
  refine o_conv int_91 (by rw [Tryd.underlying3]; rfl) rfl (by first | exact IntWalk.u64_in _ (by omega) | rfl) ?_
  refine o_shl (c := 32768) rfl rfl (by decide) rfl ?_
  refine o_sub (c := 32767) rfl rfl rfl ?_
  refine o_asg rfl ?_
  refine w_nil ?_
  refine w_seq ?_
  refine w_seq ?_
  refine w_region rfl ?_
  refine o_mov rfl ?_
  refine o_mov rfl ?_
  refine o_gt rfl rfl ?_
  refine w_nil ?_
  refine w_if_d rfl (fun h1 => ?_) (fun h1 => ?_)
  · refine w_seq ?_
    refine w_region rfl ?_
    refine o_mov rfl ?_
    refine o_asg rfl ?_
    refine w_nil ?_
    exact w_ret (ret1 rfl rfl) ⟨by unfold clampI; rw [if_neg (by omega), if_pos h1], rfl⟩ (HSub.refl _)
  · refine w_skip ?_
    refine w_seq ?_
    refine w_seq ?_
    refine w_region rfl ?_
    refine o_mov rfl ?_
    refine o_mov rfl ?_
    refine o_neg (c := -32767) rfl rfl ?_
    refine o_sub (c := -32768) rfl rfl rfl ?_
    refine o_lt rfl rfl ?_
    refine w_nil ?_
    refine w_if_d rfl (fun h2 => ?_) (fun h2 => ?_)
    · refine w_seq ?_
      refine w_region rfl ?_
      refine o_mov rfl ?_
      refine o_neg (c := -32767) rfl rfl ?_
      refine o_sub (c := -32768) rfl rfl rfl ?_
      refine o_asg rfl ?_
      refine w_nil ?_
      exact w_ret (ret1 rfl rfl) ⟨by unfold clampI; rw [if_pos (by omega)], rfl⟩ (HSub.refl _)
    · refine w_skip ?_
      refine w_seq ?_
      refine w_region rfl ?_
      refine o_mov rfl ?_
      refine o_asg rfl ?_
      refine w_nil ?_
      exact w_ret (ret1 rfl rfl) ⟨by unfold clampI; rw [if_neg (by omega), if_neg h1], rfl⟩ (HSub.refl _)

theorem mul32_in {a b : Int} (ha : -2147483648 ≤ a ∧ a ≤ 2147483647) (hb : -2147483648 ≤ b ∧ b ≤ 2147483647) : -4611686018427387904 ≤ a * b ∧ a * b ≤ 4611686018427387904 := by
  have h1 : (a * b).natAbs ≤ 2147483648 * 2147483648 := by rw [Int.natAbs_mul]; exact Nat.mul_le_mul (by omega) (by omega)
  omega

theorem fix_Mul15 (a b : Int) (ha : -2147483648 ≤ a ∧ a ≤ 2147483647) (hb : -32768 ≤ b ∧ b ≤ 32767) : Ctr Tryd.prog 37 [.int .i32 a, .int .i16 b] ([]) (fun v ho => v = .int .i32 (clampI (roundI (a * b) 15) (-2147483648) 2147483647) ∧ ho = []) := by
  refine spec_of Tryd.func37 rfl rfl fun w0 L => ?_
  refine w_seq ?_
  refine w_region rfl ?_
  refine o_asg rfl ?_
  refine w_nil ?_
  refine w_seq ?_
  refine w_region rfl ?_
  refine o_mov rfl ?_
  refine o_conv int_2 (by rw [Tryd.underlying21]; rfl) rfl (by first | exact IntWalk.i64_in _ (by omega) | rfl) ?_
  refine o_mov rfl ?_
  refine o_conv int_2 (by rw [Tryd.underlying54]; rfl) rfl (by first | exact IntWalk.i64_in _ (by omega) | rfl) ?_
  have hp : -4611686018427387904 ≤ a * b ∧ a * b ≤ 4611686018427387904 := mul32_in ha (by omega)
  refine o_mul rfl rfl (by first | exact IntWalk.i64_in _ (by omega) | rfl) ?_
  refine o_call (fix_Round _ _ (by omega)) fn_57 rfl (by repeat (first | exact Take.nil | exact Take.all _ | (apply Take.cons; focus (repeat (first | exact Pick.here | apply Pick.next))))) ?_
  rintro v ho ⟨rfl, rfl⟩
  refine o_call (fix_Sat32 _) fn_56 rfl (by repeat (first | exact Take.nil | exact Take.all _ | (apply Take.cons; focus (repeat (first | exact Pick.here | apply Pick.next))))) ?_
  rintro v ho ⟨rfl, rfl⟩
  refine o_asg rfl ?_
  refine w_nil ?_
  exact w_ret (ret1 rfl rfl) ⟨rfl, rfl⟩ (HSub.refl _)

theorem ref_Mul15 (a b : Int) (ha : -2147483648 ≤ a ∧ a ≤ 2147483647) (hb : -2147483648 ≤ b ∧ b ≤ 2147483647) : Ctr Tryd.prog 26 [.int .i64 a, .int .i64 b, .int .i64 15] ([]) (fun v ho => v = .int .i32 (clampI (roundI (a * b) 15) (-2147483648) 2147483647) ∧ ho = []) := by
  refine spec_of Tryd.func26 rfl rfl fun w0 L => ?_
  refine w_seq ?_
  refine w_region rfl ?_
  refine o_asg rfl ?_
  refine w_nil ?_
  refine w_seq ?_
  refine w_region rfl ?_
  refine o_mov rfl ?_
  refine o_mov rfl ?_
  have hp : -4611686018427387904 ≤ a * b ∧ a * b ≤ 4611686018427387904 := mul32_in ha hb
  refine o_mul rfl rfl (by first | exact IntWalk.i64_in _ (by omega) | rfl) ?_
  refine o_mov rfl ?_
  refine o_call (ref_Round _ _ (by omega)) fn_45 rfl (by repeat (first | exact Take.nil | exact Take.all _ | (apply Take.cons; focus (repeat (first | exact Pick.here | apply Pick.next))))) ?_
  rintro v ho ⟨rfl, rfl⟩
  refine o_call (ref_Sat32 _) fn_44 rfl (by repeat (first | exact Take.nil | exact Take.all _ | (apply Take.cons; focus (repeat (first | exact Pick.here | apply Pick.next))))) ?_
  rintro v ho ⟨rfl, rfl⟩
  have hc := clamp_in (roundI (a * b) 15) (-2147483648) 2147483647 (by omega)
  refine o_conv int_21 (by rw [Tryd.underlying2]; rfl) rfl (by first | exact IntWalk.i32_in _ (by omega) | rfl) ?_
  refine o_asg rfl ?_
  refine w_nil ?_
  exact w_ret (ret1 rfl rfl) ⟨rfl, rfl⟩ (HSub.refl _)

end Go.Proofs.YtmcopafdooejjaaDoor
