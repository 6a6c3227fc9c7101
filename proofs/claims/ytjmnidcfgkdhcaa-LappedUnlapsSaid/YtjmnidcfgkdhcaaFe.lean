/- Contracts of the document's answer 4: tables by definition, two tables the same. No condition but on the counts. -/
import Derived.Test.YtjmnidcfgkdhcaaTy
import Derived.Test.YtjmnidcfgkdhcaaFc
namespace Go.Proofs.Ytjmnidcfgkdhcaa
open Go.Eng
set_option linter.unusedVariables false
set_option linter.unusedSimpArgs false
set_option maxRecDepth 20000
attribute [local irreducible] WL WT
theorem ref_Turn {n : Nat} (h4 : 4 ≤ n) (hn : n ≤ 1024) (hd : n % 4 = 0) : Ctr Try.prog 43 [.int .i64 n] ([]) (fun v ho => ∃ H, OwnI H v 35 .i16 (turnL n) ∧ ho = [H]) := by
  refine spec_of Try.func43 rfl rfl fun w0 L => ?_
  refine w_seq ?_
  refine w_region rfl ?_
  refine o_asg rfl ?_
  refine w_nil ?_
  refine w_seq ?_
  refine w_seq ?_
  refine w_region rfl ?_
  refine o_mov rfl ?_
  refine o_lt_f rfl rfl (by omega) ?_
  refine o_mov rfl ?_
  refine o_yes rfl rfl ?_
  refine o_mov rfl ?_
  refine o_yes rfl rfl ?_
  refine o_gt_f rfl rfl (by omega) ?_
  refine o_pick_f rfl rfl ?_
  refine o_mov rfl ?_
  refine o_yes rfl rfl ?_
  refine o_mov rfl ?_
  refine o_yes rfl rfl ?_
  refine o_rem rfl rfl (by first | decide | omega) (by first | exact IntWalk.rem_in _ _ (by omega) | rfl) ?_
  refine o_yes rfl rfl ?_
  refine o_ne_f rfl rfl (by omega) ?_
  refine o_pick_f rfl rfl ?_
  refine w_nil ?_
  refine w_if_f rfl ?_
  refine w_emp ?_
  refine w_skip ?_
  refine w_seq ?_
  refine w_region rfl ?_
  refine o_asg rfl ?_
  refine w_nil ?_
  refine w_seq ?_
  refine w_seq ?_
  refine w_region rfl ?_
  refine o_asg rfl ?_
  refine w_nil ?_
  refine w_block ?_
  refine w_loop (X := Nat × Value × Hp) (fun x => [(0, .int .i64 n), (3, x.2.1), (4, .int .i64 x.1)]) (fun x => [x.2.2]) (fun x => x.1 ≤ n ∧ OwnI x.2.2 x.2.1 35 .i16 ((turnL n).take x.1)) (fun x => n - x.1) (0, .slice none 0 0, []) ⟨by omega, OwnI.nil _ _⟩ (by repeat (first | exact Sub.nil _ | refine Sub.cons rfl ?_)) ⟨[], by simp⟩ ?_
  rintro ⟨i, u, H⟩ ⟨hi, hO⟩
  refine w_seq ?_
  refine w_seq ?_
  refine w_region rfl ?_
  refine o_mov rfl ?_
  refine o_mov rfl ?_
  refine o_lt rfl rfl ?_
  refine w_nil ?_
  refine w_if_d rfl (fun hl => ?_) (fun hl => ?_)
  · refine w_skip ?_
    refine w_seq ?_
    refine w_block ?_
    refine w_seq ?_
    refine w_region rfl ?_
    refine o_mov rfl ?_
    refine o_mov rfl ?_
    refine o_call (ref_Cosine _ _ (by omega) (by omega)) fn_79 rfl (by repeat (first | exact Take.nil | exact Take.all _ | (apply Take.cons; focus (repeat (first | exact Pick.here | apply Pick.next))))) ?_
    rintro v ho ⟨rfl, rfl⟩
    refine o_mov rfl ?_
    refine o_ext rfl rfl ?_
    refine o_ext rfl rfl ?_
    refine o_asg rfl ?_
    refine o_asg rfl ?_
    refine w_nil ?_
    refine w_region rfl ?_
    refine o_mov rfl ?_
    refine o_mov rfl ?_
    refine o_bslN [_] slc_26 zer_35 (Nat.le_of_ble_eq_true rfl) rfl rfl (fun b2 => ?_)
    refine o_app1 slc_26 zer_35 rfl rfl rfl hO (by repeat (first | exact Pick.here | apply Pick.next)) (by repeat (first | exact Has.here | apply Has.next)) (Nat.le_of_ble_eq_true rfl) (by simp only [maxLen, List.length_take]; omega) (by simp; omega) (fun v' H' hO2 => ?_)
    refine o_asg rfl ?_
    refine w_nil ?_
    refine w_inB ?_
    refine w_region rfl ?_
    have hO2' : OwnI H' v' 35 .i16 ((turnL n).take (i + 1)) := by rw [List.take_add_one]; simpa [turnL, show i < n by omega] using hO2
    refine o_mov rfl ?_
    refine o_add rfl rfl (by first | exact IntWalk.i64_in _ (by omega) | rfl) ?_
    refine o_asg rfl ?_
    refine w_nil ?_
    exact w_again ⟨(i + 1, v', H'), ⟨by simp only; omega, hO2'⟩, (by simp only; omega), (by repeat (first | exact Sub.nil _ | refine Sub.cons rfl ?_)), (Take.sub (by repeat (first | exact Take.nil | exact Take.all _ | (apply Take.cons; focus (repeat (first | exact Pick.here | apply Pick.next))))))⟩
  · refine w_exit rfl ?_
    refine w_seq ?_
    refine w_region rfl ?_
    obtain rfl : i = n := by simp only at hi hl; omega
    simp only [List.take_of_length_le (Nat.le_of_eq (turnL_len i))] at hO
    refine o_mov rfl ?_
    refine o_asg rfl ?_
    refine w_nil ?_
    exact w_ret (ret1 rfl rfl) ⟨H, hO, rfl⟩ (Take.sub (by repeat (first | exact Take.nil | exact Take.all _ | (apply Take.cons; focus (repeat (first | exact Pick.here | apply Pick.next))))))

theorem ref_Turn_bad (n : Int) (hn : n < 4 ∨ 1024 < n ∨ n % 4 ≠ 0) : Ctr Try.prog 43 [.int .i64 n] ([]) (fun v ho => v = .slice none 0 0 ∧ ho = []) := by
  refine spec_of Try.func43 rfl rfl fun w0 L => ?_
  refine w_seq ?_
  refine w_region rfl ?_
  refine o_asg rfl ?_
  refine w_nil ?_
  refine w_seq ?_
  refine w_seq ?_
  refine w_region rfl ?_
  refine o_mov rfl ?_
  refine o_lt_s rfl rfl (fun h1 => ?_) (fun h1 => ?_)
  · refine o_mov rfl ?_
    refine o_no rfl rfl rfl ?_
    refine o_no rfl rfl rfl ?_
    refine o_pick_t rfl rfl ?_
    refine o_mov rfl ?_
    refine o_no rfl rfl rfl ?_
    refine o_no rfl rfl rfl ?_
    refine o_no rfl rfl rfl ?_
    refine o_pick_t rfl rfl ?_
    refine w_nil ?_
    refine w_if_t rfl ?_
    refine w_seq ?_
    refine w_region rfl ?_
    refine o_asg rfl ?_
    refine w_nil ?_
    exact w_ret (ret1 rfl rfl) ⟨rfl, rfl⟩ (HSub.refl _)
  · refine o_mov rfl ?_
    refine o_yes rfl rfl ?_
    refine o_mov rfl ?_
    refine o_yes rfl rfl ?_
    refine o_gt_s rfl rfl (fun h2 => ?_) (fun h2 => ?_)
    · refine o_pick_f rfl rfl ?_
      refine o_mov rfl ?_
      refine o_no rfl rfl rfl ?_
      refine o_no rfl rfl rfl ?_
      refine o_no rfl rfl rfl ?_
      refine o_pick_t rfl rfl ?_
      refine w_nil ?_
      refine w_if_t rfl ?_
      refine w_seq ?_
      refine w_region rfl ?_
      refine o_asg rfl ?_
      refine w_nil ?_
      exact w_ret (ret1 rfl rfl) ⟨rfl, rfl⟩ (HSub.refl _)
    · refine o_pick_f rfl rfl ?_
      refine o_mov rfl ?_
      refine o_yes rfl rfl ?_
      refine o_mov rfl ?_
      refine o_yes rfl rfl ?_
      refine o_rem rfl rfl (by first | decide | omega) (by first | exact IntWalk.rem_in _ _ (by omega) | rfl) ?_
      refine o_yes rfl rfl ?_
      refine o_ne_s rfl rfl (fun h3 => ?_) (fun h3 => ?_)
      · refine o_pick_f rfl rfl ?_
        refine w_nil ?_
        refine w_if_t rfl ?_
        refine w_seq ?_
        refine w_region rfl ?_
        refine o_asg rfl ?_
        refine w_nil ?_
        exact w_ret (ret1 rfl rfl) ⟨rfl, rfl⟩ (HSub.refl _)
      · omega

theorem ref_Slope_bad (n : Int) (hn : n < 1 ∨ 128 < n) : Ctr Try.prog 44 [.int .i64 n] ([]) (fun v ho => v = .slice none 0 0 ∧ ho = []) := by
  refine spec_of Try.func44 rfl rfl fun w0 L => ?_
  refine w_seq ?_
  refine w_region rfl ?_
  refine o_asg rfl ?_
  refine w_nil ?_
  refine w_seq ?_
  refine w_seq ?_
  refine w_region rfl ?_
  refine o_mov rfl ?_
  refine o_lt_s rfl rfl (fun h1 => ?_) (fun h1 => ?_)
  · refine o_mov rfl ?_
    refine o_no rfl rfl rfl ?_
    refine o_no rfl rfl rfl ?_
    refine o_pick_t rfl rfl ?_
    refine w_nil ?_
    refine w_if_t rfl ?_
    refine w_seq ?_
    refine w_region rfl ?_
    refine o_asg rfl ?_
    refine w_nil ?_
    exact w_ret (ret1 rfl rfl) ⟨rfl, rfl⟩ (HSub.refl _)
  · refine o_mov rfl ?_
    refine o_yes rfl rfl ?_
    refine o_mov rfl ?_
    refine o_yes rfl rfl ?_
    refine o_gt_s rfl rfl (fun h2 => ?_) (fun h2 => ?_)
    · refine o_pick_f rfl rfl ?_
      refine w_nil ?_
      refine w_if_t rfl ?_
      refine w_seq ?_
      refine w_region rfl ?_
      refine o_asg rfl ?_
      refine w_nil ?_
      exact w_ret (ret1 rfl rfl) ⟨rfl, rfl⟩ (HSub.refl _)
    · omega

theorem ref_Filter_bad (n : Int) (hn : n ≠ 4 ∧ n ≠ 8) : Ctr Try.prog 45 [.int .i64 n] ([]) (fun v ho => v = .slice none 0 0 ∧ ho = []) := by
  refine spec_of Try.func45 rfl rfl fun w0 L => ?_
  refine w_seq ?_
  refine w_region rfl ?_
  refine o_asg rfl ?_
  refine w_nil ?_
  refine w_seq ?_
  refine w_seq ?_
  refine w_region rfl ?_
  refine o_mov rfl ?_
  refine o_ne_t rfl rfl (by omega) ?_
  refine o_mov rfl ?_
  refine o_yes rfl rfl ?_
  refine o_mov rfl ?_
  refine o_yes rfl rfl ?_
  refine o_ne_t rfl rfl (by omega) ?_
  refine o_pick_t rfl rfl ?_
  refine w_nil ?_
  refine w_if_t rfl ?_
  refine w_seq ?_
  refine w_region rfl ?_
  refine o_asg rfl ?_
  refine w_nil ?_
  exact w_ret (ret1 rfl rfl) ⟨rfl, rfl⟩ (HSub.refl _)

theorem ref_Slope {n : Nat} (h1 : 1 ≤ n) (hn : n ≤ 128) : Ctr Try.prog 44 [.int .i64 n] ([]) (fun v ho => ∃ H, OwnI H v 35 .i16 (slopeL n) ∧ ho = [H]) := by
  refine spec_of Try.func44 rfl rfl fun w0 L => ?_
  refine w_seq ?_
  refine w_region rfl ?_
  refine o_asg rfl ?_
  refine w_nil ?_
  refine w_seq ?_
  refine w_seq ?_
  refine w_region rfl ?_
  refine o_mov rfl ?_
  refine o_lt_f rfl rfl (by omega) ?_
  refine o_mov rfl ?_
  refine o_yes rfl rfl ?_
  refine o_mov rfl ?_
  refine o_yes rfl rfl ?_
  refine o_gt_f rfl rfl (by omega) ?_
  refine o_pick_f rfl rfl ?_
  refine w_nil ?_
  refine w_if_f rfl ?_
  refine w_emp ?_
  refine w_skip ?_
  refine w_seq ?_
  refine w_region rfl ?_
  refine o_asg rfl ?_
  refine w_nil ?_
  refine w_seq ?_
  refine w_seq ?_
  refine w_region rfl ?_
  refine o_asg rfl ?_
  refine w_nil ?_
  refine w_block ?_
  refine w_loop (X := Nat × Value × Hp) (fun x => [(0, .int .i64 n), (3, x.2.1), (4, .int .i64 (2 * (x.1 : Int) + 1))]) (fun x => [x.2.2]) (fun x => x.1 ≤ n ∧ OwnI x.2.2 x.2.1 35 .i16 ((slopeL n).take x.1)) (fun x => n - x.1) (0, .slice none 0 0, []) ⟨by omega, OwnI.nil _ _⟩ (by repeat (first | exact Sub.nil _ | refine Sub.cons rfl ?_)) ⟨[], by simp⟩ ?_
  rintro ⟨i, u, H⟩ ⟨hi, hO⟩
  refine w_seq ?_
  refine w_seq ?_
  refine w_region rfl ?_
  refine o_mov rfl ?_
  refine o_mov rfl ?_
  refine o_mul rfl rfl (by first | exact IntWalk.i64_in _ (by omega) | rfl) ?_
  refine o_lt rfl rfl ?_
  refine w_nil ?_
  refine w_if_d rfl (fun hl => ?_) (fun hl => ?_)
  · simp only at hi hO hl ⊢
    refine w_skip ?_
    refine w_seq ?_
    refine w_block ?_
    refine w_region rfl ?_
    refine o_mov rfl ?_
    refine o_mov rfl ?_
    refine o_mov rfl ?_
    refine o_mul rfl rfl (by first | exact IntWalk.i64_in _ (by omega) | rfl) ?_
    refine o_call (ref_Of _ _ (by omega) (by omega)) fn_80 rfl (by repeat (first | exact Take.nil | exact Take.all _ | (apply Take.cons; focus (repeat (first | exact Pick.here | apply Pick.next))))) ?_
    rintro v ho ⟨rfl, rfl⟩
    refine o_bslN [_] slc_26 zer_35 (Nat.le_of_ble_eq_true rfl) rfl rfl (fun b2 => ?_)
    refine o_app1 slc_26 zer_35 rfl rfl rfl hO (by repeat (first | exact Pick.here | apply Pick.next)) (by repeat (first | exact Has.here | apply Has.next)) (Nat.le_of_ble_eq_true rfl) (by simp only [maxLen, List.length_take]; omega) (by simp; omega) (fun v' H' hO2 => ?_)
    refine o_asg rfl ?_
    refine w_nil ?_
    refine w_inB ?_
    refine w_region rfl ?_
    have hO2' : OwnI H' v' 35 .i16 ((slopeL n).take (i + 1)) := by rw [List.take_add_one]; simpa [slopeL, show i < n by omega] using hO2
    refine o_mov rfl ?_
    refine o_add rfl rfl (by first | exact IntWalk.i64_in _ (by omega) | rfl) ?_
    rw [show (2 * (i : Int) + 1 + 2) = 2 * ((i + 1 : Nat) : Int) + 1 by omega]
    refine o_asg rfl ?_
    refine w_nil ?_
    exact w_again ⟨(i + 1, v', H'), ⟨by simp only; omega, hO2'⟩, (by simp only; omega), (by repeat (first | exact Sub.nil _ | refine Sub.cons rfl ?_)), (Take.sub (by repeat (first | exact Take.nil | exact Take.all _ | (apply Take.cons; focus (repeat (first | exact Pick.here | apply Pick.next))))))⟩
  · refine w_exit rfl ?_
    refine w_seq ?_
    refine w_region rfl ?_
    obtain rfl : i = n := by simp only at hi hl; omega
    simp only [List.take_of_length_le (Nat.le_of_eq (slopeL_len i))] at hO
    refine o_mov rfl ?_
    refine o_asg rfl ?_
    refine w_nil ?_
    exact w_ret (ret1 rfl rfl) ⟨H, hO, rfl⟩ (Take.sub (by repeat (first | exact Take.nil | exact Take.all _ | (apply Take.cons; focus (repeat (first | exact Pick.here | apply Pick.next))))))

theorem ref_Filter4 {n : Nat} (hq : n = 4) : Ctr Try.prog 45 [.int .i64 n] ([]) (fun v ho => ∃ H, OwnI H v 35 .i16 (filterL n) ∧ ho = [H]) := by
  have hm : n = 4 ∨ n = 8 := by omega
  refine spec_of Try.func45 rfl rfl fun w0 L => ?_
  refine w_seq ?_
  refine w_region rfl ?_
  refine o_asg rfl ?_
  refine w_nil ?_
  refine w_seq ?_
  refine w_seq ?_
  refine w_region rfl ?_
  refine o_mov rfl ?_
  refine o_ne_f rfl rfl (by omega) ?_
  refine o_mov rfl ?_
  refine o_no rfl rfl rfl ?_
  refine o_no rfl rfl rfl ?_
  refine o_pick_f rfl rfl ?_
  refine w_nil ?_
  refine w_if_f rfl ?_
  refine w_skip ?_
  refine w_seq ?_
  refine w_region rfl ?_
  refine o_asg rfl ?_
  refine w_nil ?_
  refine w_seq ?_
  refine w_seq ?_
  refine w_region rfl ?_
  refine o_mov rfl ?_
  refine o_mul rfl rfl (IntWalk.i64_in _ (by omega)) ?_
  rw [show (-5 * (n : Int)) = ((0 : Nat) : Int) - 5 * n by omega]
  refine o_asg rfl ?_
  refine w_nil ?_
  refine w_emp ?_
  refine w_block ?_
  refine w_loop (X := Nat × Value × Hp) (fun x => [(0, .int .i64 n), (3, x.2.1), (4, .int .i64 ((x.1 : Int) - 5 * n))]) (fun x => [x.2.2]) (fun x => x.1 ≤ 10 * n ∧ OwnI x.2.2 x.2.1 35 .i16 ((filterL n).take x.1)) (fun x => 10 * n - x.1) (0, .slice none 0 0, []) ⟨by omega, OwnI.nil _ _⟩ (by repeat (first | exact Sub.nil _ | refine Sub.cons rfl ?_)) ⟨[], by simp⟩ ?_
  rintro ⟨i, u, H⟩ ⟨hi, hO⟩
  refine w_seq ?_
  refine w_seq ?_
  refine w_region rfl ?_
  refine o_mov rfl ?_
  refine o_mov rfl ?_
  refine o_mul rfl rfl (by first | exact IntWalk.i64_in _ (by omega) | rfl) ?_
  refine o_lt rfl rfl ?_
  refine w_nil ?_
  refine w_if_d rfl (fun hl => ?_) (fun hl => ?_)
  · simp only at hi hO hl ⊢
    obtain ⟨f1, f2, f3, f4, f5, f6⟩ := filt_in (m := n) (i := i) (by omega) (by omega) (by omega)
    refine w_skip ?_
    refine w_seq ?_
    refine w_block ?_
    refine w_seq ?_
    refine w_region rfl ?_
    refine o_asg rfl ?_
    refine w_nil ?_
    refine w_seq ?_
    refine w_seq ?_
    refine w_region rfl ?_
    refine o_mov rfl ?_
    refine o_ne rfl rfl ?_
    refine w_nil ?_
    refine w_cut_x (X := Int) (fun y => [(0, .int .i64 n), (3, u), (4, .int .i64 ((i : Int) - 5 * n)), (5, .int .i64 y)]) (fun _ => [H]) (fun y => y = filtV n i) ?_ ?_
    · refine w_if_d rfl (fun hd => ?_) (fun hd => ?_)
      · refine w_region rfl ?_
        refine o_mov rfl ?_
        refine o_mul rfl rfl (by first | exact IntWalk.i64_in _ (by omega) | rfl) ?_
        refine o_mov rfl ?_
        refine o_mul rfl rfl (by first | exact IntWalk.i64_in _ (by omega) | rfl) ?_
        refine o_call (ref_Of _ _ (by omega) (by omega)) fn_80 rfl (by repeat (first | exact Take.nil | exact Take.all _ | (apply Take.cons; focus (repeat (first | exact Pick.here | apply Pick.next))))) ?_
        rintro v ho ⟨rfl, rfl⟩
        have hs := sin_in (3 * ((i : Int) - 5 * n)) (show (0 : Int) < 10 * n by omega)
        refine o_conv int_2 (by rw [Try.underlying35]; rfl) rfl (by first | exact IntWalk.i64_in _ (by omega) | rfl) ?_
        refine o_mov rfl ?_
        have hp : -2621440 ≤ sinI (3 * ((i : Int) - 5 * n)) (10 * n) * n ∧ sinI (3 * ((i : Int) - 5 * n)) (10 * n) * n ≤ 2621440 := by rcases hm with rfl | rfl <;> omega
        refine o_mul rfl rfl (by first | exact IntWalk.i64_in _ (by omega) | rfl) ?_
        refine o_mul rfl rfl (by first | exact IntWalk.i64_in _ (by omega) | rfl) ?_
        refine o_mov rfl ?_
        refine o_mul rfl rfl (by first | exact IntWalk.i64_in _ (by omega) | rfl) ?_
        have hv : filtV n i = (sinI (3 * ((i : Int) - 5 * n)) (10 * n) * n * 565).tdiv (((i : Int) - 5 * n) * 1065) := by unfold filtV; rw [if_neg hd, Int.mul_assoc _ (n : Int) 565, Int.mul_comm (n : Int) 565, Int.mul_comm 1065]
        refine o_quo (c := filtV n i) rfl rfl (by omega) (by rw [← hv]; exact IntWalk.i64_in _ (by omega)) ?_
        refine o_asg rfl ?_
        refine w_nil ?_
        exact w_again ⟨(filtV n i), rfl, (by repeat (first | exact Sub.nil _ | refine Sub.cons rfl ?_)), (Take.sub (by repeat (first | exact Take.nil | exact Take.all _ | (apply Take.cons; focus (repeat (first | exact Pick.here | apply Pick.next))))))⟩
      · refine w_skip ?_
        exact w_again ⟨32768, (by unfold filtV; rw [if_pos (by omega)]), (by repeat (first | exact Sub.nil _ | refine Sub.cons rfl ?_)), (Take.sub (by repeat (first | exact Take.nil | exact Take.all _ | (apply Take.cons; focus (repeat (first | exact Pick.here | apply Pick.next))))))⟩
    · intro y hy
      refine w_seq ?_
      refine w_region rfl ?_
      refine o_mov rfl ?_
      refine o_mov rfl ?_
      refine o_mul rfl rfl (by first | exact IntWalk.i64_in _ (by omega) | rfl) ?_
      refine o_add rfl rfl (by first | exact IntWalk.i64_in _ (by omega) | rfl) ?_
      refine o_asg rfl ?_
      refine w_nil ?_
      refine w_seq ?_
      refine w_region rfl ?_
      rw [show ((i : Int) - 5 * n + 5 * n) = i by omega]
      have c1 := cos_in (i : Int) (show (0 : Int) < 10 * n by omega)
      have c2 := cos_in (2 * (i : Int)) (show (0 : Int) < 10 * n by omega)
      refine o_mov rfl ?_
      refine o_mov rfl ?_
      refine o_mul rfl rfl (by first | exact IntWalk.i64_in _ (by omega) | rfl) ?_
      refine o_call (ref_Cosine _ _ (by omega) (by omega)) fn_79 rfl (by repeat (first | exact Take.nil | exact Take.all _ | (apply Take.cons; focus (repeat (first | exact Pick.here | apply Pick.next))))) ?_
      rintro v ho ⟨rfl, rfl⟩
      refine o_mov rfl ?_
      refine o_ext rfl rfl ?_
      refine o_ext rfl rfl ?_
      refine o_asg rfl ?_
      refine o_asg rfl ?_
      refine w_nil ?_
      refine w_seq ?_
      refine w_region rfl ?_
      refine o_mov rfl ?_
      refine o_mul rfl rfl (by first | exact IntWalk.i64_in _ (by omega) | rfl) ?_
      refine o_mov rfl ?_
      refine o_mul rfl rfl (by first | exact IntWalk.i64_in _ (by omega) | rfl) ?_
      refine o_call (ref_Cosine _ _ (by omega) (by omega)) fn_79 rfl (by repeat (first | exact Take.nil | exact Take.all _ | (apply Take.cons; focus (repeat (first | exact Pick.here | apply Pick.next))))) ?_
      rintro v ho ⟨rfl, rfl⟩
      refine o_mov rfl ?_
      refine o_ext rfl rfl ?_
      refine o_ext rfl rfl ?_
      refine o_asg rfl ?_
      refine o_asg rfl ?_
      refine w_nil ?_
      refine w_seq ?_
      refine w_region rfl ?_
      refine o_mov rfl ?_
      refine o_conv int_2 (by rw [Try.underlying35]; rfl) rfl (by first | exact IntWalk.i64_in _ (by omega) | rfl) ?_
      refine o_mul rfl rfl (by first | exact IntWalk.i64_in _ (by omega) | rfl) ?_
      refine o_add rfl rfl (by first | exact IntWalk.i64_in _ (by omega) | rfl) ?_
      refine o_mov rfl ?_
      refine o_conv int_2 (by rw [Try.underlying35]; rfl) rfl (by first | exact IntWalk.i64_in _ (by omega) | rfl) ?_
      refine o_mul rfl rfl (by first | exact IntWalk.i64_in _ (by omega) | rfl) ?_
      refine o_sub rfl rfl (by first | exact IntWalk.i64_in _ (by omega) | rfl) ?_
      refine o_quo (c := filtW n i) rfl rfl (by decide) (by rw [show (1376256 + 8 * cosI (2 * (i : Int)) (10 * n) - 50 * cosI (i : Int) (10 * n)) = 1376256 - 50 * cosI (i : Int) (10 * n) + 8 * cosI (2 * (i : Int)) (10 * n) by omega]; exact IntWalk.i64_in (filtW n i) (by omega)) ?_
      refine o_asg rfl ?_
      refine w_nil ?_
      refine w_region rfl ?_
      rw [hy]
      refine o_mov rfl ?_
      refine o_mov rfl ?_
      refine o_mov rfl ?_
      have hvw : -8000000000 ≤ filtV n i * filtW n i ∧ filtV n i * filtW n i ≤ 8000000000 := mul_in f1 f2 f3 f4
      refine o_mul rfl rfl (by first | exact IntWalk.i64_in _ (by omega) | rfl) ?_
      refine o_call (ref_Round _ _ (by omega)) fn_55 rfl (by repeat (first | exact Take.nil | exact Take.all _ | (apply Take.cons; focus (repeat (first | exact Pick.here | apply Pick.next))))) ?_
      rintro v ho ⟨rfl, rfl⟩
      have hr : -250000 ≤ roundI (filtV n i * filtW n i) 15 ∧ roundI (filtV n i * filtW n i) 15 ≤ 250000 := by rw [roundI15]; omega
      refine o_mul rfl rfl (by first | exact IntWalk.i64_in _ (by omega) | rfl) ?_
      refine o_call (ref_Round _ _ (by omega)) fn_55 rfl (by repeat (first | exact Take.nil | exact Take.all _ | (apply Take.cons; focus (repeat (first | exact Pick.here | apply Pick.next))))) ?_
      rintro v ho ⟨rfl, rfl⟩
      change WL _ _ _ _ _ ((74, .int .i64 (filtR n i)) :: _) _
      refine o_conv int_35 (by rw [Try.underlying2]; rfl) rfl (by first | exact IntWalk.i16_in _ (by omega) | rfl) ?_
      refine o_bslN [_] slc_26 zer_35 (Nat.le_of_ble_eq_true rfl) rfl rfl (fun b6 => ?_)
      refine o_app1 slc_26 zer_35 rfl rfl rfl hO (by repeat (first | exact Pick.here | apply Pick.next)) (by repeat (first | exact Has.here | apply Has.next)) (Nat.le_of_ble_eq_true rfl) (by simp only [maxLen, List.length_take]; omega) (by simp; omega) (fun v' H' hO2 => ?_)
      refine o_asg rfl ?_
      refine w_nil ?_
      refine w_inB ?_
      refine w_region rfl ?_
      have hO2' : OwnI H' v' 35 .i16 ((filterL n).take (i + 1)) := by rw [List.take_add_one]; simpa [filterL, show i < 10 * n by omega] using hO2
      refine o_mov rfl ?_
      refine o_add rfl rfl (by first | exact IntWalk.i64_in _ (by omega) | rfl) ?_
      rw [show ((i : Int) - 5 * n + 1) = ((i + 1 : Nat) : Int) - 5 * n by omega]
      refine o_asg rfl ?_
      refine w_nil ?_
      exact w_again ⟨(i + 1, v', H'), ⟨by simp only; omega, hO2'⟩, (by simp only; omega), (by repeat (first | exact Sub.nil _ | refine Sub.cons rfl ?_)), (Take.sub (by repeat (first | exact Take.nil | exact Take.all _ | (apply Take.cons; focus (repeat (first | exact Pick.here | apply Pick.next))))))⟩
  · refine w_exit rfl ?_
    refine w_seq ?_
    refine w_region rfl ?_
    obtain rfl : i = 10 * n := by simp only at hi hl; omega
    simp only [List.take_of_length_le (Nat.le_of_eq (filterL_len n))] at hO
    refine o_mov rfl ?_
    refine o_asg rfl ?_
    refine w_nil ?_
    exact w_ret (ret1 rfl rfl) ⟨H, hO, rfl⟩ (Take.sub (by repeat (first | exact Take.nil | exact Take.all _ | (apply Take.cons; focus (repeat (first | exact Pick.here | apply Pick.next))))))

theorem ref_Filter8 {n : Nat} (hq : n = 8) : Ctr Try.prog 45 [.int .i64 n] ([]) (fun v ho => ∃ H, OwnI H v 35 .i16 (filterL n) ∧ ho = [H]) := by
  have hm : n = 4 ∨ n = 8 := by omega
  refine spec_of Try.func45 rfl rfl fun w0 L => ?_
  refine w_seq ?_
  refine w_region rfl ?_
  refine o_asg rfl ?_
  refine w_nil ?_
  refine w_seq ?_
  refine w_seq ?_
  refine w_region rfl ?_
  refine o_mov rfl ?_
  refine o_ne_t rfl rfl (by omega) ?_
  refine o_mov rfl ?_
  refine o_yes rfl rfl ?_
  refine o_mov rfl ?_
  refine o_yes rfl rfl ?_
  refine o_ne_f rfl rfl (by omega) ?_
  refine o_pick_t rfl rfl ?_
  refine w_nil ?_
  refine w_if_f rfl ?_
  refine w_skip ?_
  refine w_seq ?_
  refine w_region rfl ?_
  refine o_asg rfl ?_
  refine w_nil ?_
  refine w_seq ?_
  refine w_seq ?_
  refine w_region rfl ?_
  refine o_mov rfl ?_
  refine o_mul rfl rfl (IntWalk.i64_in _ (by omega)) ?_
  rw [show (-5 * (n : Int)) = ((0 : Nat) : Int) - 5 * n by omega]
  refine o_asg rfl ?_
  refine w_nil ?_
  refine w_emp ?_
  refine w_block ?_
  refine w_loop (X := Nat × Value × Hp) (fun x => [(0, .int .i64 n), (3, x.2.1), (4, .int .i64 ((x.1 : Int) - 5 * n))]) (fun x => [x.2.2]) (fun x => x.1 ≤ 10 * n ∧ OwnI x.2.2 x.2.1 35 .i16 ((filterL n).take x.1)) (fun x => 10 * n - x.1) (0, .slice none 0 0, []) ⟨by omega, OwnI.nil _ _⟩ (by repeat (first | exact Sub.nil _ | refine Sub.cons rfl ?_)) ⟨[], by simp⟩ ?_
  rintro ⟨i, u, H⟩ ⟨hi, hO⟩
  refine w_seq ?_
  refine w_seq ?_
  refine w_region rfl ?_
  refine o_mov rfl ?_
  refine o_mov rfl ?_
  refine o_mul rfl rfl (by first | exact IntWalk.i64_in _ (by omega) | rfl) ?_
  refine o_lt rfl rfl ?_
  refine w_nil ?_
  refine w_if_d rfl (fun hl => ?_) (fun hl => ?_)
  · simp only at hi hO hl ⊢
    obtain ⟨f1, f2, f3, f4, f5, f6⟩ := filt_in (m := n) (i := i) (by omega) (by omega) (by omega)
    refine w_skip ?_
    refine w_seq ?_
    refine w_block ?_
    refine w_seq ?_
    refine w_region rfl ?_
    refine o_asg rfl ?_
    refine w_nil ?_
    refine w_seq ?_
    refine w_seq ?_
    refine w_region rfl ?_
    refine o_mov rfl ?_
    refine o_ne rfl rfl ?_
    refine w_nil ?_
    refine w_cut_x (X := Int) (fun y => [(0, .int .i64 n), (3, u), (4, .int .i64 ((i : Int) - 5 * n)), (5, .int .i64 y)]) (fun _ => [H]) (fun y => y = filtV n i) ?_ ?_
    · refine w_if_d rfl (fun hd => ?_) (fun hd => ?_)
      · refine w_region rfl ?_
        refine o_mov rfl ?_
        refine o_mul rfl rfl (by first | exact IntWalk.i64_in _ (by omega) | rfl) ?_
        refine o_mov rfl ?_
        refine o_mul rfl rfl (by first | exact IntWalk.i64_in _ (by omega) | rfl) ?_
        refine o_call (ref_Of _ _ (by omega) (by omega)) fn_80 rfl (by repeat (first | exact Take.nil | exact Take.all _ | (apply Take.cons; focus (repeat (first | exact Pick.here | apply Pick.next))))) ?_
        rintro v ho ⟨rfl, rfl⟩
        have hs := sin_in (3 * ((i : Int) - 5 * n)) (show (0 : Int) < 10 * n by omega)
        refine o_conv int_2 (by rw [Try.underlying35]; rfl) rfl (by first | exact IntWalk.i64_in _ (by omega) | rfl) ?_
        refine o_mov rfl ?_
        have hp : -2621440 ≤ sinI (3 * ((i : Int) - 5 * n)) (10 * n) * n ∧ sinI (3 * ((i : Int) - 5 * n)) (10 * n) * n ≤ 2621440 := by rcases hm with rfl | rfl <;> omega
        refine o_mul rfl rfl (by first | exact IntWalk.i64_in _ (by omega) | rfl) ?_
        refine o_mul rfl rfl (by first | exact IntWalk.i64_in _ (by omega) | rfl) ?_
        refine o_mov rfl ?_
        refine o_mul rfl rfl (by first | exact IntWalk.i64_in _ (by omega) | rfl) ?_
        have hv : filtV n i = (sinI (3 * ((i : Int) - 5 * n)) (10 * n) * n * 565).tdiv (((i : Int) - 5 * n) * 1065) := by unfold filtV; rw [if_neg hd, Int.mul_assoc _ (n : Int) 565, Int.mul_comm (n : Int) 565, Int.mul_comm 1065]
        refine o_quo (c := filtV n i) rfl rfl (by omega) (by rw [← hv]; exact IntWalk.i64_in _ (by omega)) ?_
        refine o_asg rfl ?_
        refine w_nil ?_
        exact w_again ⟨(filtV n i), rfl, (by repeat (first | exact Sub.nil _ | refine Sub.cons rfl ?_)), (Take.sub (by repeat (first | exact Take.nil | exact Take.all _ | (apply Take.cons; focus (repeat (first | exact Pick.here | apply Pick.next))))))⟩
      · refine w_skip ?_
        exact w_again ⟨32768, (by unfold filtV; rw [if_pos (by omega)]), (by repeat (first | exact Sub.nil _ | refine Sub.cons rfl ?_)), (Take.sub (by repeat (first | exact Take.nil | exact Take.all _ | (apply Take.cons; focus (repeat (first | exact Pick.here | apply Pick.next))))))⟩
    · intro y hy
      refine w_seq ?_
      refine w_region rfl ?_
      refine o_mov rfl ?_
      refine o_mov rfl ?_
      refine o_mul rfl rfl (by first | exact IntWalk.i64_in _ (by omega) | rfl) ?_
      refine o_add rfl rfl (by first | exact IntWalk.i64_in _ (by omega) | rfl) ?_
      refine o_asg rfl ?_
      refine w_nil ?_
      refine w_seq ?_
      refine w_region rfl ?_
      rw [show ((i : Int) - 5 * n + 5 * n) = i by omega]
      have c1 := cos_in (i : Int) (show (0 : Int) < 10 * n by omega)
      have c2 := cos_in (2 * (i : Int)) (show (0 : Int) < 10 * n by omega)
      refine o_mov rfl ?_
      refine o_mov rfl ?_
      refine o_mul rfl rfl (by first | exact IntWalk.i64_in _ (by omega) | rfl) ?_
      refine o_call (ref_Cosine _ _ (by omega) (by omega)) fn_79 rfl (by repeat (first | exact Take.nil | exact Take.all _ | (apply Take.cons; focus (repeat (first | exact Pick.here | apply Pick.next))))) ?_
      rintro v ho ⟨rfl, rfl⟩
      refine o_mov rfl ?_
      refine o_ext rfl rfl ?_
      refine o_ext rfl rfl ?_
      refine o_asg rfl ?_
      refine o_asg rfl ?_
      refine w_nil ?_
      refine w_seq ?_
      refine w_region rfl ?_
      refine o_mov rfl ?_
      refine o_mul rfl rfl (by first | exact IntWalk.i64_in _ (by omega) | rfl) ?_
      refine o_mov rfl ?_
      refine o_mul rfl rfl (by first | exact IntWalk.i64_in _ (by omega) | rfl) ?_
      refine o_call (ref_Cosine _ _ (by omega) (by omega)) fn_79 rfl (by repeat (first | exact Take.nil | exact Take.all _ | (apply Take.cons; focus (repeat (first | exact Pick.here | apply Pick.next))))) ?_
      rintro v ho ⟨rfl, rfl⟩
      refine o_mov rfl ?_
      refine o_ext rfl rfl ?_
      refine o_ext rfl rfl ?_
      refine o_asg rfl ?_
      refine o_asg rfl ?_
      refine w_nil ?_
      refine w_seq ?_
      refine w_region rfl ?_
      refine o_mov rfl ?_
      refine o_conv int_2 (by rw [Try.underlying35]; rfl) rfl (by first | exact IntWalk.i64_in _ (by omega) | rfl) ?_
      refine o_mul rfl rfl (by first | exact IntWalk.i64_in _ (by omega) | rfl) ?_
      refine o_add rfl rfl (by first | exact IntWalk.i64_in _ (by omega) | rfl) ?_
      refine o_mov rfl ?_
      refine o_conv int_2 (by rw [Try.underlying35]; rfl) rfl (by first | exact IntWalk.i64_in _ (by omega) | rfl) ?_
      refine o_mul rfl rfl (by first | exact IntWalk.i64_in _ (by omega) | rfl) ?_
      refine o_sub rfl rfl (by first | exact IntWalk.i64_in _ (by omega) | rfl) ?_
      refine o_quo (c := filtW n i) rfl rfl (by decide) (by rw [show (1376256 + 8 * cosI (2 * (i : Int)) (10 * n) - 50 * cosI (i : Int) (10 * n)) = 1376256 - 50 * cosI (i : Int) (10 * n) + 8 * cosI (2 * (i : Int)) (10 * n) by omega]; exact IntWalk.i64_in (filtW n i) (by omega)) ?_
      refine o_asg rfl ?_
      refine w_nil ?_
      refine w_region rfl ?_
      rw [hy]
      refine o_mov rfl ?_
      refine o_mov rfl ?_
      refine o_mov rfl ?_
      have hvw : -8000000000 ≤ filtV n i * filtW n i ∧ filtV n i * filtW n i ≤ 8000000000 := mul_in f1 f2 f3 f4
      refine o_mul rfl rfl (by first | exact IntWalk.i64_in _ (by omega) | rfl) ?_
      refine o_call (ref_Round _ _ (by omega)) fn_55 rfl (by repeat (first | exact Take.nil | exact Take.all _ | (apply Take.cons; focus (repeat (first | exact Pick.here | apply Pick.next))))) ?_
      rintro v ho ⟨rfl, rfl⟩
      have hr : -250000 ≤ roundI (filtV n i * filtW n i) 15 ∧ roundI (filtV n i * filtW n i) 15 ≤ 250000 := by rw [roundI15]; omega
      refine o_mul rfl rfl (by first | exact IntWalk.i64_in _ (by omega) | rfl) ?_
      refine o_call (ref_Round _ _ (by omega)) fn_55 rfl (by repeat (first | exact Take.nil | exact Take.all _ | (apply Take.cons; focus (repeat (first | exact Pick.here | apply Pick.next))))) ?_
      rintro v ho ⟨rfl, rfl⟩
      change WL _ _ _ _ _ ((74, .int .i64 (filtR n i)) :: _) _
      refine o_conv int_35 (by rw [Try.underlying2]; rfl) rfl (by first | exact IntWalk.i16_in _ (by omega) | rfl) ?_
      refine o_bslN [_] slc_26 zer_35 (Nat.le_of_ble_eq_true rfl) rfl rfl (fun b6 => ?_)
      refine o_app1 slc_26 zer_35 rfl rfl rfl hO (by repeat (first | exact Pick.here | apply Pick.next)) (by repeat (first | exact Has.here | apply Has.next)) (Nat.le_of_ble_eq_true rfl) (by simp only [maxLen, List.length_take]; omega) (by simp; omega) (fun v' H' hO2 => ?_)
      refine o_asg rfl ?_
      refine w_nil ?_
      refine w_inB ?_
      refine w_region rfl ?_
      have hO2' : OwnI H' v' 35 .i16 ((filterL n).take (i + 1)) := by rw [List.take_add_one]; simpa [filterL, show i < 10 * n by omega] using hO2
      refine o_mov rfl ?_
      refine o_add rfl rfl (by first | exact IntWalk.i64_in _ (by omega) | rfl) ?_
      rw [show ((i : Int) - 5 * n + 1) = ((i + 1 : Nat) : Int) - 5 * n by omega]
      refine o_asg rfl ?_
      refine w_nil ?_
      exact w_again ⟨(i + 1, v', H'), ⟨by simp only; omega, hO2'⟩, (by simp only; omega), (by repeat (first | exact Sub.nil _ | refine Sub.cons rfl ?_)), (Take.sub (by repeat (first | exact Take.nil | exact Take.all _ | (apply Take.cons; focus (repeat (first | exact Pick.here | apply Pick.next))))))⟩
  · refine w_exit rfl ?_
    refine w_seq ?_
    refine w_region rfl ?_
    obtain rfl : i = 10 * n := by simp only at hi hl; omega
    simp only [List.take_of_length_le (Nat.le_of_eq (filterL_len n))] at hO
    refine o_mov rfl ?_
    refine o_asg rfl ?_
    refine w_nil ?_
    exact w_ret (ret1 rfl rfl) ⟨H, hO, rfl⟩ (Take.sub (by repeat (first | exact Take.nil | exact Take.all _ | (apply Take.cons; focus (repeat (first | exact Pick.here | apply Pick.next))))))

theorem ref_Filter {n : Nat} (hm : n = 4 ∨ n = 8) : Ctr Try.prog 45 [.int .i64 n] [] (fun v ho => ∃ H, OwnI H v 35 .i16 (filterL n) ∧ ho = [H]) := hm.elim ref_Filter4 ref_Filter8

theorem same_i16 {v1 v2 : Value} {xs ys : List Int} {A1 A2 : Hp} (h1 : Ints A1 v1 .i16 xs) (h2 : Ints A2 v2 .i16 ys) : Ctr Try.prog 14 [v1, v2] ([A1, A2]) (fun v ho => v = .bool (decide (xs = ys)) ∧ ho = [A1, A2]) := by
  refine spec_of Try.func14 rfl rfl fun w0 L => ?_
  refine w_seq ?_
  refine w_region rfl ?_
  refine o_asg rfl ?_
  refine w_nil ?_
  refine w_seq ?_
  refine w_seq ?_
  refine w_region rfl ?_
  refine o_mov rfl ?_
  refine o_lenI h1 slc_26 rfl ?_
  refine o_mov rfl ?_
  refine o_lenI h2 slc_26 rfl ?_
  refine o_ne rfl rfl ?_
  refine w_nil ?_
  refine w_if_d rfl (fun hl => ?_) (fun hl => ?_)
  · refine w_seq ?_
    refine w_region rfl ?_
    refine o_asg rfl ?_
    refine w_nil ?_
    exact w_ret (ret1 rfl rfl) ⟨by rw [decide_eq_false (fun he => hl (by rw [he]))], rfl⟩ (HSub.refl _)
  · have hl : xs.length = ys.length := by omega
    have hmax := h1.2.1
    refine w_skip ?_
    refine w_seq ?_
    refine w_seq ?_
    refine w_region rfl ?_
    refine o_asg rfl ?_
    refine w_nil ?_
    refine w_block ?_
    refine w_loop (X := Nat) (fun i => [(0, v1), (1, v2), (5, .int .i64 i)]) (fun _ => [A1, A2]) (fun i => i ≤ xs.length ∧ ∀ k, k < i → xs.getD k 0 = ys.getD k 0) (fun i => xs.length - i) 0 ⟨by omega, fun k hk => by omega⟩ (by repeat (first | exact Sub.nil _ | refine Sub.cons rfl ?_)) (Take.sub (by repeat (first | exact Take.nil | exact Take.all _ | (apply Take.cons; focus (repeat (first | exact Pick.here | apply Pick.next)))))) ?_
    rintro i ⟨hi, heq⟩
    refine w_seq ?_
    refine w_seq ?_
    refine w_region rfl ?_
    refine o_mov rfl ?_
    refine o_mov rfl ?_
    refine o_lenI h1 slc_26 rfl ?_
    refine o_lt rfl rfl ?_
    refine w_nil ?_
    refine w_if_d rfl (fun hlt => ?_) (fun hlt => ?_)
    · refine w_skip ?_
      refine w_seq ?_
      refine w_block ?_
      refine w_seq ?_
      refine w_any [0, 1, 2, 3, 4, 5, 6, 7, 8] mixed (by kernel_rfl) ?_
      refine o_mov rfl ?_
      refine o_mov rfl ?_
      refine o_idxI h1 (by repeat (first | exact Has.here | apply Has.next)) slc_26 rfl rfl ⟨by omega, by omega⟩ (fun b1 f1 ar1 T1 fr1 hm1 hg1 => ?_)
      refine o_load lod_35 rfl hm1 hg1 ?_
      refine o_mov rfl ?_
      refine o_mov rfl ?_
      refine o_idxI h2 (by repeat (first | exact Has.here | apply Has.next)) slc_26 rfl rfl ⟨by omega, by omega⟩ (fun b2 f2 ar2 T2 fr2 hm2 hg2 => ?_)
      refine o_load lod_35 rfl hm2 hg2 ?_
      refine o_ne rfl rfl ?_
      refine w_nil ?_
      refine w_if_d rfl (fun hne => ?_) (fun hne => ?_)
      · refine w_seq ?_
        refine w_region rfl ?_
        refine o_asg rfl ?_
        refine w_nil ?_
        exact w_ret (ret1 rfl rfl) ⟨by rw [decide_eq_false (fun he => hne (by rw [he]))], rfl⟩ (HSub.refl _)
      · refine w_skip ?_
        refine w_inB ?_
        refine w_region rfl ?_
        refine o_mov rfl ?_
        refine o_add rfl rfl (by first | exact IntWalk.i64_in _ (by omega) | rfl) ?_
        refine o_asg rfl ?_
        refine w_nil ?_
        exact w_again ⟨(i + 1), ⟨by omega, fun k hk => by rcases Nat.lt_succ_iff_lt_or_eq.1 hk with h | h; exact heq k h; subst h; simpa using hne⟩, (by omega), (by repeat (first | exact Sub.nil _ | refine Sub.cons rfl ?_)), (Take.sub (by repeat (first | exact Take.nil | exact Take.all _ | (apply Take.cons; focus (repeat (first | exact Pick.here | apply Pick.next))))))⟩
    · refine w_exit rfl ?_
      refine w_seq ?_
      refine w_region rfl ?_
      have he : xs = ys := List.ext_getElem hl fun k a b => by have := heq k (by omega); simpa [a, b] using this
      refine o_asg rfl ?_
      refine w_nil ?_
      exact w_ret (ret1 rfl rfl) ⟨by rw [decide_eq_true he], rfl⟩ (HSub.refl _)

end Go.Proofs.Ytjmnidcfgkdhcaa
