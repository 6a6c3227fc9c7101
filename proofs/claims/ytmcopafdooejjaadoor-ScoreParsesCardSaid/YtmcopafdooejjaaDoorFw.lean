/- Contracts of the layer wave and of the document's answers 1 and 3: quotients, rounding, sines. No condition but on the numbers' sizes. -/
import Derived.Test.YtmcopafdooejjaaDoorTy
import Derived.Test.YtmcopafdooejjaaDoorPb
import Derived.Test.YtmcopafdooejjaaDoorFx
namespace Go.Proofs.YtmcopafdooejjaaDoor
open Go.Eng
set_option linter.unusedVariables false
set_option linter.unusedSimpArgs false
set_option maxRecDepth 20000
attribute [local irreducible] WL WT
theorem fix_Clip (n l m : Int) : Ctr Tryd.prog 69 [.int .i64 n, .int .i64 l, .int .i64 m] ([]) (fun v ho => v = .int .i64 (clampI n l m) ∧ ho = []) := by
  refine spec_of Tryd.func69 rfl rfl fun w0 L => ?_
  refine w_seq ?_
  refine w_region rfl ?_
  refine o_asg rfl ?_
  refine w_nil ?_
  refine w_seq ?_
  refine w_region rfl ?_
  refine o_mov rfl ?_
  refine o_mov rfl ?_
  refine o_mov rfl ?_
  refine o_call (within_int64 _ _ _) fn_70 rfl (by repeat (first | exact Take.nil | exact Take.all _ | (apply Take.cons; focus (repeat (first | exact Pick.here | apply Pick.next))))) ?_
  rintro v ho ⟨rfl, rfl⟩
  refine o_asg rfl ?_
  refine w_nil ?_
  exact w_ret (ret1 rfl rfl) ⟨rfl, rfl⟩ (HSub.refl _)

theorem ref_down (n d : Int) (hn : -9223372036854775808 ≤ n ∧ n ≤ 9223372036854775807) (hd : 1 ≤ d) : Ctr Tryd.prog 63 [.int .i64 n, .int .i64 d] ([]) (fun v ho => v = .int .i64 (n / d) ∧ ho = []) := by
  refine spec_of Tryd.func63 rfl rfl fun w0 L => ?_
  refine w_seq ?_
  refine w_region rfl ?_
  refine o_asg rfl ?_
  refine w_nil ?_
  refine w_seq ?_
  refine w_region rfl ?_
  refine o_mov rfl ?_
  refine o_mov rfl ?_
  refine o_quo rfl rfl (by omega) (IntWalk.i64_quo' _ _ (by omega)) ?_
  refine o_asg rfl ?_
  refine w_nil ?_
  refine w_seq ?_
  refine w_seq ?_
  refine w_region rfl ?_
  refine o_mov rfl ?_
  refine o_mov rfl ?_
  have hdn := down_in n d hd (by omega)
  refine o_rem rfl rfl (by omega) rfl ?_
  refine o_lt rfl rfl ?_
  refine w_nil ?_
  refine w_if_d rfl (fun h1 => ?_) (fun h1 => ?_)
  · refine w_region rfl ?_
    refine o_mov rfl ?_
    refine o_sub rfl rfl (IntWalk.i64_in _ (by omega)) ?_
    refine o_asg rfl ?_
    refine w_nil ?_
    refine w_seq ?_
    refine w_region rfl ?_
    refine o_mov rfl ?_
    refine o_asg rfl ?_
    refine w_nil ?_
    exact w_ret (ret1 rfl rfl) ⟨by rw [down_neg hd h1], rfl⟩ (HSub.refl _)
  · refine w_skip ?_
    refine w_seq ?_
    refine w_region rfl ?_
    refine o_mov rfl ?_
    refine o_asg rfl ?_
    refine w_nil ?_
    exact w_ret (ret1 rfl rfl) ⟨by rw [down_pos hd h1], rfl⟩ (HSub.refl _)

theorem ref_Round (n s : Int) (hn : -9223372036854775808 ≤ n ∧ n ≤ 9223372036854775807) : Ctr Tryd.prog 45 [.int .i64 n, .int .i64 s] ([]) (fun v ho => v = .int .i64 (roundI n s) ∧ ho = []) := by
  refine spec_of Tryd.func45 rfl rfl fun w0 L => ?_
  refine w_seq ?_
  refine w_region rfl ?_
  refine o_asg rfl ?_
  refine w_nil ?_
  refine w_seq ?_
  refine w_region rfl ?_
  refine o_mov rfl ?_
  refine o_min rfl rfl ?_
  refine o_max rfl rfl ?_
  have hc := clamp_in s 0 62 (by omega)
  rw [clamp_minmax]
  generalize hq : clampI s 0 62 = q at hc ⊢
  refine o_asg rfl ?_
  refine w_nil ?_
  refine w_seq ?_
  refine w_seq ?_
  refine w_region rfl ?_
  refine o_mov rfl ?_
  refine o_eq rfl rfl ?_
  refine w_nil ?_
  refine w_if_d rfl (fun h1 => ?_) (fun h1 => ?_)
  · refine w_seq ?_
    refine w_region rfl ?_
    refine o_mov rfl ?_
    refine o_asg rfl ?_
    refine w_nil ?_
    exact w_ret (ret1 rfl rfl) ⟨by simp [roundI, hq, h1], rfl⟩ (HSub.refl _)
  · refine w_skip ?_
    refine w_seq ?_
    refine w_region rfl ?_
    have hp := pow_in q (by omega)
    have hh := half_in n q hn (by omega)
    refine o_mov rfl ?_
    refine o_sub rfl rfl (by first | exact IntWalk.i64_in _ (by omega) | rfl) ?_
    refine o_conv int_91 (by rw [Tryd.underlying3]; rfl) rfl (by first | exact IntWalk.u64_in _ (by omega) | rfl) ?_
    refine o_shl rfl rfl (by omega) (shl_one q (by omega)) ?_
    refine o_asg rfl ?_
    refine w_nil ?_
    refine w_seq ?_
    refine w_region rfl ?_
    refine o_mov rfl ?_
    refine o_mov rfl ?_
    refine o_call (ref_down _ _ hn (by omega)) fn_63 rfl (by repeat (first | exact Take.nil | exact Take.all _ | (apply Take.cons; focus (repeat (first | exact Pick.here | apply Pick.next))))) ?_
    rintro v ho ⟨rfl, rfl⟩
    refine o_asg rfl ?_
    refine w_nil ?_
    refine w_seq ?_
    refine w_region rfl ?_
    refine o_mov rfl ?_
    refine o_call (ref_down _ _ (by omega) (by omega)) fn_63 rfl (by repeat (first | exact Take.nil | exact Take.all _ | (apply Take.cons; focus (repeat (first | exact Pick.here | apply Pick.next))))) ?_
    rintro v ho ⟨rfl, rfl⟩
    refine o_asg rfl ?_
    refine w_nil ?_
    refine w_seq ?_
    refine w_region rfl ?_
    refine o_mov rfl ?_
    refine o_mov rfl ?_
    refine o_mov rfl ?_
    refine o_mul rfl rfl (by first | exact IntWalk.i64_in _ (by omega) | rfl) ?_
    refine o_sub rfl rfl (by first | exact IntWalk.i64_in _ (by omega) | rfl) ?_
    refine o_add rfl rfl (by first | exact IntWalk.i64_in _ (by omega) | rfl) ?_
    refine o_asg rfl ?_
    refine w_nil ?_
    exact w_ret (ret1 rfl rfl) ⟨by simp [roundI, hq, h1]; omega, rfl⟩ (HSub.refl _)

theorem ref_part (n d : Int) (h : 0 ≤ n * d ∧ n * d ≤ 9223372036854775807) : Ctr Tryd.prog 62 [.int .i64 n, .int .i64 d] ([]) (fun v ho => v = .int .i64 (partI n d) ∧ ho = []) := by
  refine spec_of Tryd.func62 rfl rfl fun w0 L => ?_
  refine w_seq ?_
  refine w_region rfl ?_
  refine o_asg rfl ?_
  refine w_nil ?_
  refine w_seq ?_
  refine w_region rfl ?_
  refine o_mov rfl ?_
  refine o_mov rfl ?_
  refine o_mul rfl rfl (by first | exact IntWalk.i64_in _ (by omega) | rfl) ?_
  refine o_quo rfl rfl (by decide) (quo_nn h.1 (by decide) h.2) ?_
  refine o_asg rfl ?_
  refine w_nil ?_
  exact w_ret (ret1 rfl rfl) ⟨rfl, rfl⟩ (HSub.refl _)

theorem ref_signed (n den : Int) (below : Bool) (h0 : 0 ≤ n) (h1 : 2 * n ≤ den) (hd : 1 ≤ den ∧ den ≤ 8388608) : Ctr Tryd.prog 43 [.int .i64 n, .int .i64 den, .bool below] ([]) (fun v ho => v = .int .i16 (sgnI n den below) ∧ ho = []) := by
  refine spec_of Tryd.func43 rfl rfl fun w0 L => ?_
  refine w_seq ?_
  refine w_region rfl ?_
  refine o_asg rfl ?_
  refine w_nil ?_
  refine w_seq ?_
  refine w_region rfl ?_
  refine o_mov rfl ?_
  refine o_mul rfl rfl (by first | exact IntWalk.i64_in _ (by omega) | rfl) ?_
  refine o_asg rfl ?_
  refine w_nil ?_
  refine w_seq ?_
  refine w_seq ?_
  refine w_region rfl ?_
  refine o_mov rfl ?_
  refine o_mov rfl ?_
  refine o_ge rfl rfl ?_
  refine w_nil ?_
  refine w_cut_x (X := Int) (fun y => [(0, .int .i64 n), (1, .int .i64 den), (2, .bool below), (7, .int .i64 y)]) (fun _ => []) (fun y => y = (if den ≤ 4 * n then 2 * den - 4 * n else 4 * n)) ?_ ?_
  · refine w_if_d rfl (fun h => ?_) (fun h => ?_)
    · refine w_region rfl ?_
      refine o_mov rfl ?_
      refine o_mul rfl rfl (by first | exact IntWalk.i64_in _ (by omega) | rfl) ?_
      refine o_mov rfl ?_
      refine o_sub rfl rfl (by first | exact IntWalk.i64_in _ (by omega) | rfl) ?_
      refine o_asg rfl ?_
      refine w_nil ?_
      exact w_again ⟨(2 * den - 4 * n), (by rw [if_pos h]), (by repeat (first | exact Sub.nil _ | refine Sub.cons rfl ?_)), (Take.sub (by repeat (first | exact Take.nil | exact Take.all _ | (apply Take.cons; focus (repeat (first | exact Pick.here | apply Pick.next))))))⟩
    · refine w_skip ?_
      exact w_again ⟨(4 * n), (by rw [if_neg h]), (by repeat (first | exact Sub.nil _ | refine Sub.cons rfl ?_)), (Take.sub (by repeat (first | exact Take.nil | exact Take.all _ | (apply Take.cons; focus (repeat (first | exact Pick.here | apply Pick.next))))))⟩
  · intro r hr
    refine w_seq ?_
    refine w_region rfl ?_
    have hr2 : 0 ≤ r ∧ r ≤ den := by rw [hr]; split <;> omega
    have ht := height_in h0 h1 (by omega)
    have hh : r * 1073741824 / den = heightI n den := by rw [hr]; rfl
    refine o_mov rfl ?_
    refine o_mul rfl rfl (by first | exact IntWalk.i64_in _ (by omega) | rfl) ?_
    refine o_mov rfl ?_
    refine o_quo rfl rfl (by omega) (quo_nn (by omega) (by omega) (by omega)) ?_
    refine o_asg rfl ?_
    refine w_nil ?_
    refine w_seq ?_
    refine w_region rfl ?_
    rw [hh]
    generalize hte : heightI n den = t at ht
    have h5 := partI_in t t ht.1 ht
    refine o_mov rfl ?_
    refine o_mov rfl ?_
    refine o_call (ref_part _ _ (by omega)) fn_62 rfl (by repeat (first | exact Take.nil | exact Take.all _ | (apply Take.cons; focus (repeat (first | exact Pick.here | apply Pick.next))))) ?_
    rintro v ho ⟨rfl, rfl⟩
    refine o_asg rfl ?_
    refine w_nil ?_
    refine w_seq ?_
    refine w_region rfl ?_
    generalize hue : partI t t = u at h5
    have hu : 0 ≤ u ∧ u ≤ 1073741824 := by omega
    have a0 := partI_in 172272 u (by decide) hu
    refine o_mov rfl ?_
    refine o_call (ref_part _ _ (by omega)) fn_62 rfl (by repeat (first | exact Take.nil | exact Take.all _ | (apply Take.cons; focus (repeat (first | exact Pick.here | apply Pick.next))))) ?_
    rintro v ho ⟨rfl, rfl⟩
    refine o_sub rfl rfl (by first | exact IntWalk.i64_in _ (by omega) | rfl) ?_
    have a1 := partI_in (5026995 - partI 172272 u) u (by omega) hu
    refine o_mov rfl ?_
    refine o_call (ref_part _ _ (by omega)) fn_62 rfl (by repeat (first | exact Take.nil | exact Take.all _ | (apply Take.cons; focus (repeat (first | exact Pick.here | apply Pick.next))))) ?_
    rintro v ho ⟨rfl, rfl⟩
    refine o_sub rfl rfl (by first | exact IntWalk.i64_in _ (by omega) | rfl) ?_
    have a2 := partI_in (85569306 - partI (5026995 - partI 172272 u) u) u (by omega) hu
    refine o_mov rfl ?_
    refine o_call (ref_part _ _ (by omega)) fn_62 rfl (by repeat (first | exact Take.nil | exact Take.all _ | (apply Take.cons; focus (repeat (first | exact Pick.here | apply Pick.next))))) ?_
    rintro v ho ⟨rfl, rfl⟩
    refine o_sub rfl rfl (by first | exact IntWalk.i64_in _ (by omega) | rfl) ?_
    have a3 := partI_in (693598668 - partI (85569306 - partI (5026995 - partI 172272 u) u) u) u (by omega) hu
    refine o_mov rfl ?_
    refine o_call (ref_part _ _ (by omega)) fn_62 rfl (by repeat (first | exact Take.nil | exact Take.all _ | (apply Take.cons; focus (repeat (first | exact Pick.here | apply Pick.next))))) ?_
    rintro v ho ⟨rfl, rfl⟩
    refine o_sub rfl rfl (by first | exact IntWalk.i64_in _ (by omega) | rfl) ?_
    refine o_asg rfl ?_
    refine w_nil ?_
    refine w_seq ?_
    refine w_region rfl ?_
    have a4 := partI_in (1686629713 - partI (693598668 - partI (85569306 - partI (5026995 - partI 172272 u) u) u) u) t (by omega) ht
    refine o_mov rfl ?_
    refine o_mov rfl ?_
    refine o_call (ref_part _ _ (by omega)) fn_62 rfl (by repeat (first | exact Take.nil | exact Take.all _ | (apply Take.cons; focus (repeat (first | exact Pick.here | apply Pick.next))))) ?_
    rintro v ho ⟨rfl, rfl⟩
    have hcv := curve_in ht
    rw [hue] at hcv
    refine o_call (ref_Round _ _ (by omega)) fn_45 rfl (by repeat (first | exact Take.nil | exact Take.all _ | (apply Take.cons; focus (repeat (first | exact Pick.here | apply Pick.next))))) ?_
    rintro v ho ⟨rfl, rfl⟩
    change 0 ≤ curveI t ∧ _ ∧ 0 ≤ roundI (partI (1686629713 - partI (693598668 - partI (85569306 - partI (5026995 - partI 172272 u) u) u) u) t) 15 ∧ roundI (partI (1686629713 - partI (693598668 - partI (85569306 - partI (5026995 - partI 172272 u) u) u) u) t) 15 ≤ _ at hcv
    have hce : curveI t = if 32767 < roundI (partI (1686629713 - partI (693598668 - partI (85569306 - partI (5026995 - partI 172272 u) u) u) u) t) 15 then 32767 else roundI (partI (1686629713 - partI (693598668 - partI (85569306 - partI (5026995 - partI 172272 u) u) u) u) t) 15 := by rw [← hue]; rfl
    generalize roundI (partI (1686629713 - partI (693598668 - partI (85569306 - partI (5026995 - partI 172272 u) u) u) u) t) 15 = w at hcv hce ⊢
    refine o_asg rfl ?_
    refine w_nil ?_
    refine w_seq ?_
    refine w_seq ?_
    refine w_region rfl ?_
    refine o_mov rfl ?_
    refine o_gt rfl rfl ?_
    refine w_nil ?_
    refine w_cut_x (X := Int) (fun y => [(2, .bool below), (11, .int .i64 y)]) (fun _ => []) (fun y => y = curveI t) ?_ ?_
    · refine w_if_d rfl (fun h => ?_) (fun h => ?_)
      · refine w_region rfl ?_
        refine o_asg rfl ?_
        refine w_nil ?_
        exact w_again ⟨32767, (by rw [hce, if_pos h]), (by repeat (first | exact Sub.nil _ | refine Sub.cons rfl ?_)), (Take.sub (by repeat (first | exact Take.nil | exact Take.all _ | (apply Take.cons; focus (repeat (first | exact Pick.here | apply Pick.next))))))⟩
      · refine w_skip ?_
        exact w_again ⟨w, (by rw [hce, if_neg h]), (by repeat (first | exact Sub.nil _ | refine Sub.cons rfl ?_)), (Take.sub (by repeat (first | exact Take.nil | exact Take.all _ | (apply Take.cons; focus (repeat (first | exact Pick.here | apply Pick.next))))))⟩
    · intro y hy
      refine w_seq ?_
      refine w_seq ?_
      refine w_region rfl ?_
      refine o_mov rfl ?_
      refine w_nil ?_
      refine w_if rfl (fun hb => ?_) (fun hb => ?_)
      · refine w_seq ?_
        refine w_region rfl ?_
        refine o_mov rfl ?_
        refine o_neg rfl (by first | exact IntWalk.i64_in _ (by omega) | rfl) ?_
        refine o_conv int_54 (by rw [Tryd.underlying2]; rfl) rfl (by first | exact IntWalk.i16_in _ (by omega) | rfl) ?_
        refine o_asg rfl ?_
        refine w_nil ?_
        exact w_ret (ret1 rfl rfl) ⟨by rw [hy, hb, ← hte]; simp [sgnI], rfl⟩ (HSub.refl _)
      · refine w_skip ?_
        refine w_seq ?_
        refine w_region rfl ?_
        refine o_mov rfl ?_
        refine o_conv int_54 (by rw [Tryd.underlying2]; rfl) rfl (by first | exact IntWalk.i16_in _ (by omega) | rfl) ?_
        refine o_asg rfl ?_
        refine w_nil ?_
        exact w_ret (ret1 rfl rfl) ⟨by rw [hy, hb, ← hte]; rfl, rfl⟩ (HSub.refl _)

theorem ref_of (a den : Int) (ha : -den ≤ a ∧ a < den) (hd : 1 ≤ den ∧ den ≤ 4194304) : Ctr Tryd.prog 42 [.int .i64 (2 * a), .int .i64 (2 * den)] ([]) (fun v ho => v = .int .i16 (sinI a den) ∧ ho = []) := by
  refine spec_of Tryd.func42 rfl rfl fun w0 L => ?_
  refine w_seq ?_
  refine w_region rfl ?_
  refine o_asg rfl ?_
  refine w_nil ?_
  refine w_seq ?_
  refine w_region rfl ?_
  refine o_mov rfl ?_
  refine o_asg rfl ?_
  refine w_nil ?_
  refine w_seq ?_
  refine w_seq ?_
  refine w_region rfl ?_
  refine o_mov rfl ?_
  refine o_lt rfl rfl ?_
  refine w_nil ?_
  refine w_cut_x (X := Int) (fun y => [(1, .int .i64 (2 * den)), (5, .int .i64 y)]) (fun _ => []) (fun y => y = 2 * (a % den)) ?_ ?_
  · refine w_if_d rfl (fun h => ?_) (fun h => ?_)
    · refine w_region rfl ?_
      refine o_mov rfl ?_
      refine o_mov rfl ?_
      refine o_add rfl rfl (by first | exact IntWalk.i64_in _ (by omega) | rfl) ?_
      refine o_asg rfl ?_
      refine w_nil ?_
      exact w_again ⟨(2 * a + 2 * den), (by have := emod_neg1 ha h; omega), (by repeat (first | exact Sub.nil _ | refine Sub.cons rfl ?_)), (Take.sub (by repeat (first | exact Take.nil | exact Take.all _ | (apply Take.cons; focus (repeat (first | exact Pick.here | apply Pick.next))))))⟩
    · refine w_skip ?_
      exact w_again ⟨(2 * a), (by have := Int.emod_eq_of_lt (show 0 ≤ a by omega) ha.2; omega), (by repeat (first | exact Sub.nil _ | refine Sub.cons rfl ?_)), (Take.sub (by repeat (first | exact Take.nil | exact Take.all _ | (apply Take.cons; focus (repeat (first | exact Pick.here | apply Pick.next))))))⟩
  · intro y hy
    refine w_seq ?_
    refine w_seq ?_
    refine w_region rfl ?_
    have h1 := Int.emod_lt_of_pos a (show 0 < den by omega)
    have h2 := Int.emod_nonneg a (show den ≠ 0 by omega)
    refine o_mov rfl ?_
    refine o_mul rfl rfl (by first | exact IntWalk.i64_in _ (by omega) | rfl) ?_
    refine o_mov rfl ?_
    refine o_ge rfl rfl ?_
    refine w_nil ?_
    refine w_if_d rfl (fun h => ?_) (fun h => ?_)
    · refine w_seq ?_
      refine w_region rfl ?_
      refine o_mov rfl ?_
      refine o_mov rfl ?_
      refine o_quo rfl rfl (by first | decide | omega) (by first | exact IntWalk.i64_quo _ _ (by omega) | exact IntWalk.i64_quo' _ _ (by omega) | rfl) ?_
      refine o_sub rfl rfl (by first | exact IntWalk.i64_in _ (by omega) | rfl) ?_
      refine o_mov rfl ?_
      refine o_call (ref_signed _ _ _ (by omega) (by omega) (by omega)) fn_43 rfl (by repeat (first | exact Take.nil | exact Take.all _ | (apply Take.cons; focus (repeat (first | exact Pick.here | apply Pick.next))))) ?_
      rintro v ho ⟨rfl, rfl⟩
      refine o_asg rfl ?_
      refine w_nil ?_
      exact w_ret (ret1 rfl rfl) ⟨by unfold sinI; rw [if_pos (by omega), hy, show 2 * (a % den) - 2 * den / 2 = 2 * (a % den) - den by omega], rfl⟩ (HSub.refl _)
    · refine w_skip ?_
      refine w_seq ?_
      refine w_region rfl ?_
      refine o_mov rfl ?_
      refine o_mov rfl ?_
      refine o_call (ref_signed _ _ _ (by omega) (by omega) (by omega)) fn_43 rfl (by repeat (first | exact Take.nil | exact Take.all _ | (apply Take.cons; focus (repeat (first | exact Pick.here | apply Pick.next))))) ?_
      rintro v ho ⟨rfl, rfl⟩
      refine o_asg rfl ?_
      refine w_nil ?_
      exact w_ret (ret1 rfl rfl) ⟨by unfold sinI; rw [if_neg (by omega), hy], rfl⟩ (HSub.refl _)

theorem ref_Of (num den : Int) (hn : -9223372036854775808 ≤ num ∧ num ≤ 9223372036854775807) (hd : 1 ≤ den ∧ den ≤ 4194304) : Ctr Tryd.prog 25 [.int .i64 num, .int .i64 den] ([]) (fun v ho => v = .int .i16 (sinI num den) ∧ ho = []) := by
  refine spec_of Tryd.func25 rfl rfl fun w0 L => ?_
  refine w_seq ?_
  refine w_region rfl ?_
  refine o_asg rfl ?_
  refine w_nil ?_
  refine w_seq ?_
  refine w_region rfl ?_
  have hm := tmod_in num (show 0 < den by omega)
  refine o_mov rfl ?_
  refine o_mov rfl ?_
  refine o_rem rfl rfl (by omega) rfl ?_
  refine o_asg rfl ?_
  refine w_nil ?_
  refine w_seq ?_
  refine w_seq ?_
  refine w_region rfl ?_
  refine o_mov rfl ?_
  refine o_lt rfl rfl ?_
  refine w_nil ?_
  refine w_cut_x (X := Int) (fun y => [(0, .int .i64 num), (1, .int .i64 den), (5, .int .i64 y)]) (fun _ => []) (fun y => y = num % den) ?_ ?_
  · refine w_if_d rfl (fun h => ?_) (fun h => ?_)
    · refine w_region rfl ?_
      refine o_mov rfl ?_
      refine o_mov rfl ?_
      refine o_add rfl rfl (by first | exact IntWalk.i64_in _ (by omega) | rfl) ?_
      refine o_asg rfl ?_
      refine w_nil ?_
      exact w_again ⟨(num.tmod den + den), (tmod_neg (by omega) h), (by repeat (first | exact Sub.nil _ | refine Sub.cons rfl ?_)), (Take.sub (by repeat (first | exact Take.nil | exact Take.all _ | (apply Take.cons; focus (repeat (first | exact Pick.here | apply Pick.next))))))⟩
    · refine w_skip ?_
      exact w_again ⟨(num.tmod den), (tmod_pos (by omega) h), (by repeat (first | exact Sub.nil _ | refine Sub.cons rfl ?_)), (Take.sub (by repeat (first | exact Take.nil | exact Take.all _ | (apply Take.cons; focus (repeat (first | exact Pick.here | apply Pick.next))))))⟩
  · intro y hy
    refine w_seq ?_
    refine w_region rfl ?_
    have h1 := Int.emod_lt_of_pos num (show 0 < den by omega)
    have h2 := Int.emod_nonneg num (show den ≠ 0 by omega)
    refine o_mov rfl ?_
    refine o_mul rfl rfl (by first | exact IntWalk.i64_in _ (by omega) | rfl) ?_
    refine o_mov rfl ?_
    refine o_ge rfl rfl ?_
    refine o_asg rfl ?_
    refine w_nil ?_
    refine w_seq ?_
    refine w_seq ?_
    refine w_region rfl ?_
    refine o_mov rfl ?_
    refine w_nil ?_
    refine w_if_d rfl (fun h => ?_) (fun h => ?_)
    · refine w_seq ?_
      refine w_region rfl ?_
      refine o_mov rfl ?_
      refine o_mov rfl ?_
      refine o_quo rfl rfl (by first | decide | omega) (by first | exact IntWalk.i64_quo _ _ (by omega) | exact IntWalk.i64_quo' _ _ (by omega) | rfl) ?_
      refine o_sub rfl rfl (by first | exact IntWalk.i64_in _ (by omega) | rfl) ?_
      refine o_asg rfl ?_
      refine w_nil ?_
      refine w_seq ?_
      refine w_region rfl ?_
      refine o_mov rfl ?_
      refine o_rem rfl rfl (by first | decide | omega) (by first | exact IntWalk.rem_in _ _ (by omega) | rfl) ?_
      refine o_eq rfl rfl ?_
      refine w_nil ?_
      refine w_if_d rfl (fun ho => ?_) (fun ho => ?_)
      · refine w_seq ?_
        refine w_region rfl ?_
        refine o_mov rfl ?_
        refine o_mov rfl ?_
        refine o_rem rfl rfl (by omega) rfl ?_
        refine o_mul rfl rfl (by first | exact IntWalk.i64_in _ (by omega) | rfl) ?_
        refine o_mov rfl ?_
        refine o_mul rfl rfl (by first | exact IntWalk.i64_in _ (by omega) | rfl) ?_
        refine o_call (ref_of _ _ hm hd) fn_42 rfl (by repeat (first | exact Take.nil | exact Take.all _ | (apply Take.cons; focus (repeat (first | exact Pick.here | apply Pick.next))))) ?_
        rintro v ho ⟨rfl, rfl⟩
        refine o_asg rfl ?_
        refine w_nil ?_
        exact w_ret (ret1 rfl rfl) ⟨by rw [sin_emod (tmod_emod num (by omega))], rfl⟩ (HSub.refl _)
      · refine w_skip ?_
        refine w_seq ?_
        refine w_region rfl ?_
        rw [show y - den / 2 = num % den - den / 2 by rw [hy]]
        rw [show decide (den ≤ 2 * y) = true by simp [h]]
        refine o_mov rfl ?_
        refine o_mov rfl ?_
        refine o_mov rfl ?_
        refine o_call (ref_signed _ _ _ (by omega) (by omega) (by omega)) fn_43 rfl (by repeat (first | exact Take.nil | exact Take.all _ | (apply Take.cons; focus (repeat (first | exact Pick.here | apply Pick.next))))) ?_
        rintro v ho ⟨rfl, rfl⟩
        refine o_asg rfl ?_
        refine w_nil ?_
        exact w_ret (ret1 rfl rfl) ⟨by unfold sinI; rw [if_pos (by omega), ← sgn_scale (by omega)]; congr 2; omega, rfl⟩ (HSub.refl _)
    · refine w_skip ?_
      refine w_seq ?_
      refine w_region rfl ?_
      rw [show decide (den ≤ 2 * y) = false by simp; omega]
      refine o_mov rfl ?_
      refine o_mov rfl ?_
      refine o_mov rfl ?_
      refine o_call (ref_signed _ _ _ (by omega) (by omega) (by omega)) fn_43 rfl (by repeat (first | exact Take.nil | exact Take.all _ | (apply Take.cons; focus (repeat (first | exact Pick.here | apply Pick.next))))) ?_
      rintro v ho ⟨rfl, rfl⟩
      refine o_asg rfl ?_
      refine w_nil ?_
      exact w_ret (ret1 rfl rfl) ⟨by unfold sinI; rw [if_neg (by omega), sgn_scale (by omega), hy], rfl⟩ (HSub.refl _)

theorem wave_modulo (n d : Int) (hn : -9223372036854775808 ≤ n ∧ n ≤ 9223372036854775807) (hd : 1 ≤ d ∧ d ≤ 4611686018427387904) : Ctr Tryd.prog 74 [.int .i64 n, .int .i64 d] ([]) (fun v ho => v = .int .i64 (n % d) ∧ ho = []) := by
  refine spec_of Tryd.func74 rfl rfl fun w0 L => ?_
  refine w_seq ?_
  refine w_region rfl ?_
  refine o_asg rfl ?_
  refine w_nil ?_
  refine w_seq ?_
  refine w_region rfl ?_
  have hm := tmod_in n (show 0 < d by omega)
  refine o_mov rfl ?_
  refine o_mov rfl ?_
  refine o_rem rfl rfl (by omega) rfl ?_
  refine o_asg rfl ?_
  refine w_nil ?_
  refine w_seq ?_
  refine w_seq ?_
  refine w_region rfl ?_
  refine o_mov rfl ?_
  refine o_lt rfl rfl ?_
  refine w_nil ?_
  refine w_if_d rfl (fun h => ?_) (fun h => ?_)
  · refine w_region rfl ?_
    refine o_mov rfl ?_
    refine o_mov rfl ?_
    refine o_add rfl rfl (by first | exact IntWalk.i64_in _ (by omega) | rfl) ?_
    refine o_asg rfl ?_
    refine w_nil ?_
    refine w_seq ?_
    refine w_region rfl ?_
    refine o_mov rfl ?_
    refine o_asg rfl ?_
    refine w_nil ?_
    exact w_ret (ret1 rfl rfl) ⟨by rw [tmod_neg (by omega) h], rfl⟩ (HSub.refl _)
  · refine w_skip ?_
    refine w_seq ?_
    refine w_region rfl ?_
    refine o_mov rfl ?_
    refine o_asg rfl ?_
    refine w_nil ?_
    exact w_ret (ret1 rfl rfl) ⟨by rw [tmod_pos (by omega) h], rfl⟩ (HSub.refl _)

theorem wave_height (num den : Int) (hn : -9223372036854775808 ≤ num ∧ num ≤ 9223372036854775807) (hd : 1 ≤ den ∧ den ≤ 4194304) : Ctr Tryd.prog 68 [.int .i64 num, .int .i64 den] ([]) (fun v ho => v = .tuple #[.int .u64 (tI num den), .int .i64 (quarterI num den)] ∧ ho = []) := by
  refine spec_of Tryd.func68 rfl rfl fun w0 L => ?_
  refine w_seq ?_
  refine w_region rfl ?_
  refine o_asg rfl ?_
  refine o_asg rfl ?_
  refine w_nil ?_
  refine w_seq ?_
  refine w_region rfl ?_
  refine o_mov rfl ?_
  refine o_mov rfl ?_
  refine o_call (wave_modulo _ _ (by omega) (by omega)) fn_74 rfl (by repeat (first | exact Take.nil | exact Take.all _ | (apply Take.cons; focus (repeat (first | exact Pick.here | apply Pick.next))))) ?_
  rintro v ho ⟨rfl, rfl⟩
  have h1 := Int.emod_lt_of_pos num (show 0 < den by omega)
  have h2 := Int.emod_nonneg num (show den ≠ 0 by omega)
  refine o_mul rfl rfl (by first | exact IntWalk.i64_in _ (by omega) | rfl) ?_
  refine o_asg rfl ?_
  refine w_nil ?_
  refine w_seq ?_
  refine w_region rfl ?_
  obtain ⟨q1, q2, q3, q4, q5⟩ := quarter_eq (num := num) (den := den) (by omega)
  refine o_mov rfl ?_
  refine o_mov rfl ?_
  refine o_quo rfl rfl (by omega) (quo_nn (by omega) (by omega) (by omega)) ?_
  refine o_asg rfl ?_
  refine w_nil ?_
  refine w_seq ?_
  refine w_region rfl ?_
  change _ at q1
  refine o_mov rfl ?_
  refine o_mov rfl ?_
  refine o_rem rfl rfl (by omega) (IntWalk.rem_in _ _ (by omega)) ?_
  refine o_asg rfl ?_
  refine w_nil ?_
  refine w_seq ?_
  refine w_seq ?_
  refine w_region rfl ?_
  refine o_mov rfl ?_
  refine o_and rfl rfl (bits_and1 _) ?_
  refine o_eq rfl rfl ?_
  refine w_nil ?_
  refine w_cut_x (X := Int) (fun y => [(1, .int .i64 den), (5, .int .i64 (quarterI num den)), (7, .int .i64 y)]) (fun _ => []) (fun y => y = (if quarterI num den % 2 = 1 then den - 4 * (num % den) % den else 4 * (num % den) % den)) ?_ ?_
  · refine w_if_d rfl (fun h => ?_) (fun h => ?_)
    · refine w_region rfl ?_
      refine o_mov rfl ?_
      refine o_mov rfl ?_
      refine o_sub rfl rfl (by first | exact IntWalk.i64_in _ (by omega) | rfl) ?_
      refine o_asg rfl ?_
      refine w_nil ?_
      exact w_again ⟨(den - 4 * (num % den) % den), (by rw [if_pos (show quarterI num den % 2 = 1 from h)]), (by repeat (first | exact Sub.nil _ | refine Sub.cons rfl ?_)), (Take.sub (by repeat (first | exact Take.nil | exact Take.all _ | (apply Take.cons; focus (repeat (first | exact Pick.here | apply Pick.next))))))⟩
    · refine w_skip ?_
      exact w_again ⟨(4 * (num % den) % den), (by rw [if_neg (show ¬ quarterI num den % 2 = 1 from h)]), (by repeat (first | exact Sub.nil _ | refine Sub.cons rfl ?_)), (Take.sub (by repeat (first | exact Take.nil | exact Take.all _ | (apply Take.cons; focus (repeat (first | exact Pick.here | apply Pick.next))))))⟩
  · intro r hr
    refine w_seq ?_
    refine w_region rfl ?_
    have hr2 : 0 ≤ r ∧ r ≤ den := by rw [hr]; split <;> omega
    refine o_mov rfl ?_
    refine o_conv int_77 (by rw [Tryd.underlying3]; rfl) rfl (by first | exact IntWalk.u64_in _ (by omega) | rfl) ?_
    refine o_shl rfl rfl (by decide) (shl_c (m := 1073741824) rfl (by first | exact IntWalk.u64_in _ (by omega) | rfl)) ?_
    refine o_mov rfl ?_
    refine o_conv int_77 (by rw [Tryd.underlying3]; rfl) rfl (by first | exact IntWalk.u64_in _ (by omega) | rfl) ?_
    refine o_quo rfl rfl (by omega) (quo_nnu (by omega) (by omega) (by omega)) ?_
    refine o_mov rfl ?_
    refine o_asg rfl ?_
    refine o_asg rfl ?_
    refine w_nil ?_
    exact w_ret (ret2 rfl rfl rfl) ⟨by rw [hr]; rfl, rfl⟩ (HSub.refl _)

theorem wave_sine (num den : Int) (hn : -9223372036854775808 ≤ num ∧ num ≤ 9223372036854775807) (hd : 1 ≤ den ∧ den ≤ 4194304) : Ctr Tryd.prog 55 [.int .i64 num, .int .i64 den] ([]) (fun v ho => v = .int .i16 (sinI num den) ∧ ho = []) := by
  refine spec_of Tryd.func55 rfl rfl fun w0 L => ?_
  refine w_seq ?_
  refine w_region rfl ?_
  refine o_asg rfl ?_
  refine w_nil ?_
  refine w_seq ?_
  refine w_region rfl ?_
  refine o_mov rfl ?_
  refine o_mov rfl ?_
  refine o_call (wave_height _ _ hn hd) fn_68 rfl (by repeat (first | exact Take.nil | exact Take.all _ | (apply Take.cons; focus (repeat (first | exact Pick.here | apply Pick.next))))) ?_
  rintro v ho ⟨rfl, rfl⟩
  obtain ⟨q1, q2, _⟩ := quarter_eq (num := num) (den := den) (by omega)
  have ht := tI_in (num := num) (den := den) (by omega)
  have hs := sin_quarter (num := num) (den := den) (by omega)
  generalize tI num den = t at ht hs ⊢
  generalize quarterI num den = q at q1 q2 hs ⊢
  refine o_mov rfl ?_
  refine o_ext rfl rfl ?_
  refine o_ext rfl rfl ?_
  refine o_asg rfl ?_
  refine o_asg rfl ?_
  refine w_nil ?_
  refine w_seq ?_
  refine w_region rfl ?_
  have h5 := partI_in t t ht.1 ht
  refine o_mov rfl ?_
  refine o_mov rfl ?_
  refine o_mul rfl rfl (by first | exact IntWalk.u64_in _ (by omega) | rfl) ?_
  refine o_shr rfl rfl (by decide) (shr_k _ _ _ 1073741824 rfl (by decide)) ?_
  refine o_asg rfl ?_
  refine w_nil ?_
  refine w_seq ?_
  refine w_region rfl ?_
  have hu : 0 ≤ partI t t ∧ partI t t ≤ 1073741824 := by omega
  change WL _ _ _ _ _ ((7, .int .u64 (partI t t)) :: _) _
  generalize hue : partI t t = u at hu ⊢
  refine o_asg rfl ?_
  refine w_nil ?_
  refine w_seq ?_
  refine w_seq ?_
  refine w_region rfl ?_
  refine o_bld (c := ints .u64 sineTab) bld_118 rfl rfl ?_
  refine o_mov rfl ?_
  refine w_nil ?_
  refine w_block ?_
  refine w_loop (X := Nat) (fun i => [(5, .int .u64 t), (6, .int .i64 q), (7, .int .u64 u), (8, .int .u64 (pS u i)), (22, .agg (ints .u64 sineTab)), (23, .int .i64 i)]) (fun _ => []) (fun i => i ≤ 4) (fun i => 4 - i) 0 (by omega) (by repeat (first | exact Sub.nil _ | refine Sub.cons rfl ?_)) (Take.sub (by repeat (first | exact Take.nil | exact Take.all _ | (apply Take.cons; focus (repeat (first | exact Pick.here | apply Pick.next)))))) ?_
  intro i hi
  refine w_seq ?_
  refine w_region rfl ?_
  have hp := pS_in hu i hi
  refine o_lt rfl rfl ?_
  refine w_nil ?_
  refine w_seq ?_
  refine w_if_d rfl (fun hl => ?_) (fun hl => ?_)
  · refine w_skip ?_
    refine w_seq ?_
    refine w_block ?_
    refine w_seq ?_
    refine w_region rfl ?_
    have hp2 := hp.2.2.2.2.2.2 (by omega)
    refine o_idxV are_118 siz_77 lod_77 rfl rfl ⟨by omega, by omega⟩ (show (ints .u64 sineTab)[((i : Int)).toNat]? = some (.int .u64 (sineTab.getD i 0)) from ints_get (by simp [sineTab]; omega)) ?_
    refine o_asg rfl ?_
    refine w_nil ?_
    refine w_region rfl ?_
    refine o_mov rfl ?_
    refine o_mov rfl ?_
    refine o_mov rfl ?_
    refine o_mul rfl rfl (by first | exact IntWalk.u64_in _ (by omega) | rfl) ?_
    refine o_shr rfl rfl (by decide) (shr_k _ _ _ 1073741824 rfl (by decide)) ?_
    refine o_sub rfl rfl (by first | exact IntWalk.u64_in _ (by omega) | rfl) ?_
    refine o_asg rfl ?_
    refine w_nil ?_
    refine w_inB ?_
    refine w_region rfl ?_
    refine o_add rfl rfl (by first | exact IntWalk.i64_in _ (by omega) | rfl) ?_
    refine o_mov rfl ?_
    refine w_nil ?_
    exact w_again ⟨(i + 1), (by omega), (by omega), (by repeat (first | exact Sub.nil _ | refine Sub.cons rfl ?_)), (Take.sub (by repeat (first | exact Take.nil | exact Take.all _ | (apply Take.cons; focus (repeat (first | exact Pick.here | apply Pick.next))))))⟩
  · refine w_exit rfl ?_
    refine w_seq ?_
    refine w_region rfl ?_
    obtain rfl : i = 4 := by omega
    refine o_mov rfl ?_
    refine o_mov rfl ?_
    have h6 := partI_in (pS u 4) t hp.1 ht
    refine o_mul rfl rfl (by first | exact IntWalk.u64_in _ (by omega) | rfl) ?_
    refine o_shr rfl rfl (by decide) (shr_k _ _ _ 1073741824 rfl (by decide)) ?_
    have hcv := curve_in ht
    rw [hue] at hcv
    refine o_conv int_2 (by rw [Tryd.underlying77]; rfl) rfl (by first | exact IntWalk.i64_in _ (by omega) | rfl) ?_
    change WL _ _ _ _ _ ((37, .int .i64 (curveU t u)) :: _) _
    have hcu := curveU_in ht hu
    refine o_call (fix_Round _ _ (by omega)) fn_57 rfl (by repeat (first | exact Take.nil | exact Take.all _ | (apply Take.cons; focus (repeat (first | exact Pick.here | apply Pick.next))))) ?_
    rintro v ho ⟨rfl, rfl⟩
    refine o_call (fix_Clip _ _ _) fn_69 rfl (by repeat (first | exact Take.nil | exact Take.all _ | (apply Take.cons; focus (repeat (first | exact Pick.here | apply Pick.next))))) ?_
    rintro v ho ⟨rfl, rfl⟩
    have hce : clampI (roundI (curveU t u) 15) 0 32767 = curveI t := by unfold clampI curveI; rw [hue, if_neg (by omega)]
    rw [hce]
    refine o_asg rfl ?_
    refine w_nil ?_
    refine w_seq ?_
    refine w_seq ?_
    refine w_region rfl ?_
    refine o_mov rfl ?_
    refine o_ge rfl rfl ?_
    refine w_nil ?_
    refine w_if_d rfl (fun hq => ?_) (fun hq => ?_)
    · refine w_region rfl ?_
      refine o_mov rfl ?_
      refine o_neg rfl (by first | exact IntWalk.i64_in _ (by omega) | rfl) ?_
      refine o_asg rfl ?_
      refine w_nil ?_
      refine w_seq ?_
      refine w_region rfl ?_
      refine o_mov rfl ?_
      refine o_conv int_54 (by rw [Tryd.underlying2]; rfl) rfl (by first | exact IntWalk.i16_in _ (by omega) | rfl) ?_
      refine o_asg rfl ?_
      refine w_nil ?_
      exact w_ret (ret1 rfl rfl) ⟨by rw [hs, if_pos hq]; simp, rfl⟩ (HSub.refl _)
    · refine w_skip ?_
      refine w_seq ?_
      refine w_region rfl ?_
      refine o_mov rfl ?_
      refine o_conv int_54 (by rw [Tryd.underlying2]; rfl) rfl (by first | exact IntWalk.i16_in _ (by omega) | rfl) ?_
      refine o_asg rfl ?_
      refine w_nil ?_
      exact w_ret (ret1 rfl rfl) ⟨by rw [hs, if_neg hq], rfl⟩ (HSub.refl _)

theorem wave_Sine (num den : Int) (hn : -9223372036854775808 ≤ num ∧ num ≤ 9223372036854775807) (hd : 1 ≤ den ∧ den ≤ 1048576) : Ctr Tryd.prog 36 [.int .i64 num, .int .i64 den] ([]) (fun v ho => v = .tuple #[.int .i16 (sinI num den), .int .i64 0] ∧ ho = []) := by
  refine spec_of Tryd.func36 rfl rfl fun w0 L => ?_
  refine w_seq ?_
  refine w_region rfl ?_
  refine o_asg rfl ?_
  refine o_asg rfl ?_
  refine w_nil ?_
  refine w_seq ?_
  refine w_seq ?_
  refine w_region rfl ?_
  refine o_mov rfl ?_
  refine o_lt_f rfl rfl (by omega) ?_
  refine o_mov rfl ?_
  refine o_yes rfl rfl ?_
  refine o_mov rfl ?_
  refine o_yes rfl rfl ?_
  refine o_gt_f rfl rfl (by omega) ?_
  refine o_pick_f rfl rfl ?_
  refine w_nil ?_
  refine w_if_f rfl ?_
  refine w_skip ?_
  refine w_seq ?_
  refine w_region rfl ?_
  refine o_mov rfl ?_
  refine o_mov rfl ?_
  refine o_call (wave_sine _ _ (by omega) (by omega)) fn_55 rfl (by repeat (first | exact Take.nil | exact Take.all _ | (apply Take.cons; focus (repeat (first | exact Pick.here | apply Pick.next))))) ?_
  rintro v ho ⟨rfl, rfl⟩
  refine o_asg rfl ?_
  refine o_asg rfl ?_
  refine w_nil ?_
  exact w_ret (ret2 rfl rfl rfl) ⟨rfl, rfl⟩ (HSub.refl _)

end Go.Proofs.YtmcopafdooejjaaDoor
