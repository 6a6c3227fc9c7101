/- Contracts of the layer fix: within, Round, Clip, saturations. No condition but that numbers are of their kinds. -/
import Derived.Test.YtmcopafdooejjaaDoorTy
import Derived.Test.YtmcopafdooejjaaDoorPa
namespace Go.Proofs.YtmcopafdooejjaaDoor
open Go.Eng
set_option linter.unusedVariables false
set_option linter.unusedSimpArgs false
set_option maxRecDepth 20000
attribute [local irreducible] WL WT
theorem within_int (n l m : Int) : Ctr Tryd.prog 71 [.int .i64 n, .int .i64 l, .int .i64 m] ([]) (fun v ho => v = .int .i64 (clampI n l m) ∧ ho = []) := by
  refine spec_of Tryd.func71 rfl rfl fun w0 L => ?_
  refine w_seq ?_
  refine w_region rfl ?_
  refine o_asg rfl ?_
  refine w_nil ?_
  refine w_seq ?_
  refine w_block ?_
  refine w_seq ?_
  refine w_region rfl ?_
  refine o_mov rfl ?_
  refine o_mov rfl ?_
  refine o_lt rfl rfl ?_
  refine o_asg rfl ?_
  refine w_nil ?_
  refine w_if_d rfl (fun h1 => ?_) (fun h1 => ?_)
  · refine w_seq ?_
    refine w_region rfl ?_
    refine o_mov rfl ?_
    refine o_asg rfl ?_
    refine w_nil ?_
    exact w_ret (ret1 rfl rfl) ⟨by simp [clampI, h1], rfl⟩ (HSub.refl _)
  · refine w_seq ?_
    refine w_region rfl ?_
    refine o_mov rfl ?_
    refine o_mov rfl ?_
    refine o_gt rfl rfl ?_
    refine o_asg rfl ?_
    refine w_nil ?_
    refine w_if_d rfl (fun h2 => ?_) (fun h2 => ?_)
    · refine w_seq ?_
      refine w_region rfl ?_
      refine o_mov rfl ?_
      refine o_asg rfl ?_
      refine w_nil ?_
      exact w_ret (ret1 rfl rfl) ⟨by simp [clampI, h1, h2], rfl⟩ (HSub.refl _)
    · refine w_skip ?_
      refine w_inB ?_
      refine w_seq ?_
      refine w_region rfl ?_
      refine o_mov rfl ?_
      refine o_asg rfl ?_
      refine w_nil ?_
      exact w_ret (ret1 rfl rfl) ⟨by simp [clampI, h1, h2], rfl⟩ (HSub.refl _)

theorem within_int64 (n l m : Int) : Ctr Tryd.prog 70 [.int .i64 n, .int .i64 l, .int .i64 m] ([]) (fun v ho => v = .int .i64 (clampI n l m) ∧ ho = []) := by
  refine spec_of Tryd.func70 rfl rfl fun w0 L => ?_
  refine w_seq ?_
  refine w_region rfl ?_
  refine o_asg rfl ?_
  refine w_nil ?_
  refine w_seq ?_
  refine w_block ?_
  refine w_seq ?_
  refine w_region rfl ?_
  refine o_mov rfl ?_
  refine o_mov rfl ?_
  refine o_lt rfl rfl ?_
  refine o_asg rfl ?_
  refine w_nil ?_
  refine w_if_d rfl (fun h1 => ?_) (fun h1 => ?_)
  · refine w_seq ?_
    refine w_region rfl ?_
    refine o_mov rfl ?_
    refine o_asg rfl ?_
    refine w_nil ?_
    exact w_ret (ret1 rfl rfl) ⟨by simp [clampI, h1], rfl⟩ (HSub.refl _)
  · refine w_seq ?_
    refine w_region rfl ?_
    refine o_mov rfl ?_
    refine o_mov rfl ?_
    refine o_gt rfl rfl ?_
    refine o_asg rfl ?_
    refine w_nil ?_
    refine w_if_d rfl (fun h2 => ?_) (fun h2 => ?_)
    · refine w_seq ?_
      refine w_region rfl ?_
      refine o_mov rfl ?_
      refine o_asg rfl ?_
      refine w_nil ?_
      exact w_ret (ret1 rfl rfl) ⟨by simp [clampI, h1, h2], rfl⟩ (HSub.refl _)
    · refine w_skip ?_
      refine w_inB ?_
      refine w_seq ?_
      refine w_region rfl ?_
      refine o_mov rfl ?_
      refine o_asg rfl ?_
      refine w_nil ?_
      exact w_ret (ret1 rfl rfl) ⟨by simp [clampI, h1, h2], rfl⟩ (HSub.refl _)

theorem fix_Round (n s : Int) (hn : -9223372036854775808 ≤ n ∧ n ≤ 9223372036854775807) : Ctr Tryd.prog 57 [.int .i64 n, .int .i64 s] ([]) (fun v ho => v = .int .i64 (roundI n s) ∧ ho = []) := by
  refine spec_of Tryd.func57 rfl rfl fun w0 L => ?_
  refine w_seq ?_
  refine w_region rfl ?_
  refine o_asg rfl ?_
  refine w_nil ?_
  refine w_seq ?_
  refine w_region rfl ?_
  refine o_mov rfl ?_
  refine o_call (within_int _ _ _) fn_71 rfl Take.nil ?_
  rintro v ho ⟨rfl, rfl⟩
  have hc := clamp_in s 0 62 (by omega)
  generalize hq : clampI s 0 62 = q at hc ⊢
  refine o_asg rfl ?_
  refine w_nil ?_
  refine w_seq ?_
  refine w_seq ?_
  refine w_region rfl ?_
  refine o_mov rfl ?_
  refine o_eq rfl rfl ?_
  refine w_nil ?_
  refine w_if_d rfl (fun h1 => ?_) (fun h1 => ?_)
  · refine w_seq ?_
    refine w_region rfl ?_
    refine o_mov rfl ?_
    refine o_asg rfl ?_
    refine w_nil ?_
    exact w_ret (ret1 rfl rfl) ⟨by simp [roundI, hq, h1], rfl⟩ (HSub.refl _)
  · refine w_skip ?_
    refine w_seq ?_
    refine w_any [0, 1, 2, 3, 4, 5, 6, 7, 8, 9] mixed (by kernel_rfl) ?_
    refine o_mov rfl ?_
    refine o_mov rfl ?_
    refine o_shr rfl rfl (by omega) (shr_v n q 64 hc.1 (by omega)) ?_
    refine o_mov rfl ?_
    refine o_mov rfl ?_
    refine o_sub rfl rfl (by first | exact IntWalk.i64_in _ (by omega) | rfl) ?_
    refine o_shr rfl rfl (by omega) (shr_v1 n q 64 (by omega) (by omega)) ?_
    refine o_and rfl rfl (bits_and1 _) ?_
    refine o_add rfl rfl (round_in n q hn (by omega) (by omega)) ?_
    refine o_asg rfl ?_
    refine w_nil ?_
    exact w_ret (ret1 rfl rfl) ⟨by simp [roundI, hq, h1, bits_and1], rfl⟩ (HSub.refl _)

end Go.Proofs.YtmcopafdooejjaaDoor
