/- Contracts: texts cut, digits of base 16, by the document and by the program. No condition but on the lengths. -/
import Derived.Test.YtmcopafdooejjaaDoorTy
import Derived.Test.YtmcopafdooejjaaDoorHb
import Derived.Test.YtmcopafdooejjaaDoorPt
namespace Go.Proofs.YtmcopafdooejjaaDoor
open Go.Eng
set_option linter.unusedVariables false
set_option linter.unusedSimpArgs false
set_option maxRecDepth 20000
attribute [local irreducible] WL WT
theorem ref_Cut (l : List UInt8) (c : UInt8) (hl : l.length ≤ 1000000) : Ctr Tryd.prog 12 [str l, .int .u8 (c.toNat : Int)] ([]) (fun v ho => ∃ H, Own H v 9 1 (cutB c l).length ((cutB c l).map str) ∧ ho = [H]) := by
  refine spec_of Tryd.func12 rfl rfl fun w0 L => ?_
  have hcc := cutB_count c l
  refine w_emp ?_
  refine w_seq ?_
  refine w_region rfl ?_
  refine o_asg rfl ?_
  refine w_nil ?_
  refine w_seq ?_
  refine w_region rfl ?_
  refine o_asg rfl ?_
  refine w_nil ?_
  refine w_seq ?_
  refine w_region rfl ?_
  refine o_asg rfl ?_
  refine w_nil ?_
  refine w_seq ?_
  refine w_seq ?_
  refine w_region rfl ?_
  refine o_asg rfl ?_
  refine w_nil ?_
  refine w_block ?_
  refine w_loop (X := Nat × Nat × List (List UInt8) × Value × Hp) (fun x => [(0, str l), (1, .int .u8 (c.toNat : Int)), (5, x.2.2.2.1), (6, .int .i64 x.2.1), (7, .int .i64 x.1)]) (fun x => [x.2.2.2.2]) (fun x => x.2.1 ≤ x.1 ∧ x.1 ≤ l.length ∧ Own x.2.2.2.2 x.2.2.2.1 9 1 x.2.2.1.length (x.2.2.1.map str) ∧ cutB c l = x.2.2.1 ++ consW ((l.take x.1).drop x.2.1) (cutB c (l.drop x.1))) (fun x => l.length - x.1) (0, 0, [], .slice none 0 0, []) ⟨by simp, by simp, Own.nil _ _, by simp [consW_nil (cutB_ne c l)]⟩ (by repeat (first | exact Sub.nil _ | refine Sub.cons rfl ?_)) (Take.sub (by repeat (first | exact Take.nil | exact Take.all _ | (apply Take.cons; focus (repeat (first | exact Pick.here | apply Pick.next)))))) ?_
  rintro ⟨i, f, O, u, H⟩ ⟨hf, hi, hO, hcut⟩
  refine w_seq ?_
  refine w_seq ?_
  refine w_region rfl ?_
  refine o_mov rfl ?_
  refine o_mov rfl ?_
  refine o_lenT Tryd.underlying9 rfl ?_
  refine o_lt rfl rfl ?_
  refine w_nil ?_
  refine w_if_d rfl (fun hlt => ?_) (fun hlt => ?_)
  · simp only at hf hi hO hcut hlt ⊢
    have hlt2 : i < l.length := by omega
    have hol : O.length ≤ (cutB c l).length := by rw [hcut, List.length_append]; omega
    refine w_skip ?_
    refine w_seq ?_
    refine w_block ?_
    refine w_seq ?_
    refine w_region rfl ?_
    refine o_mov rfl ?_
    refine o_mov rfl ?_
    refine o_idxT Tryd.underlying9 rfl rfl ⟨by omega, by omega⟩ ?_
    refine o_mov rfl ?_
    refine o_eq rfl rfl ?_
    refine w_nil ?_
    refine w_if_d rfl (fun he => ?_) (fun he => ?_)
    · have hb : l.getD i 0 = c := u8_eq.1 (by rw [Int.toNat_natCast] at he; exact he)
      refine w_seq ?_
      refine w_region rfl ?_
      refine o_mov rfl ?_
      refine o_mov rfl ?_
      refine o_mov rfl ?_
      refine o_mov rfl ?_
      refine o_slT (i := (f : Int)) (j := (i : Int)) Tryd.underlying9 rfl ⟨_, rfl⟩ ⟨_, rfl⟩ ⟨by omega, by omega, by omega⟩ ?_
      rw [Int.toNat_natCast, Int.toNat_natCast]
      refine o_bslN [_] slc_43 zer_9 (Nat.le_of_ble_eq_true rfl) rfl rfl (fun b1 => ?_)
      refine o_appS [str ((l.take i).drop f)] slc_43 zer_9 rfl rfl rfl hO (by repeat (first | exact Pick.here | apply Pick.next)) rfl (by repeat (first | exact Has.here | apply Has.next)) rfl (Nat.le_of_ble_eq_true rfl) (by simp only [maxLen]; omega) (by omega) (fun v2 H2 hO2 => ?_)
      refine o_asg rfl ?_
      refine w_nil ?_
      refine w_region rfl ?_
      refine o_mov rfl ?_
      refine o_add rfl rfl (by first | exact IntWalk.i64_in _ (by omega) | rfl) ?_
      refine o_asg rfl ?_
      refine w_nil ?_
      refine w_inB ?_
      refine w_region rfl ?_
      refine o_mov rfl ?_
      refine o_add rfl rfl (by first | exact IntWalk.i64_in _ (by omega) | rfl) ?_
      refine o_asg rfl ?_
      refine w_nil ?_
      exact w_again ⟨(i + 1, i + 1, O ++ [(l.take i).drop f], v2, H2), ⟨by simp, by simp only; omega, by simp only [List.length_append, List.length_singleton, List.map_append]; exact hO2, cut_hit hlt2 hb hcut⟩, (by simp only; omega), (by repeat (first | exact Sub.nil _ | refine Sub.cons rfl ?_)), (Take.sub (by repeat (first | exact Take.nil | exact Take.all _ | (apply Take.cons; focus (repeat (first | exact Pick.here | apply Pick.next))))))⟩
    · have hb : l.getD i 0 ≠ c := fun h => he (by rw [Int.toNat_natCast]; exact u8_eq.2 h)
      refine w_skip ?_
      refine w_inB ?_
      refine w_region rfl ?_
      refine o_mov rfl ?_
      refine o_add rfl rfl (by first | exact IntWalk.i64_in _ (by omega) | rfl) ?_
      refine o_asg rfl ?_
      refine w_nil ?_
      exact w_again ⟨(i + 1, f, O, u, H), ⟨by simp only; omega, by simp only; omega, hO, cut_miss hlt2 hf hb hcut⟩, (by simp only; omega), (by repeat (first | exact Sub.nil _ | refine Sub.cons rfl ?_)), (Take.sub (by repeat (first | exact Take.nil | exact Take.all _ | (apply Take.cons; focus (repeat (first | exact Pick.here | apply Pick.next))))))⟩
  · simp only at hf hi hO hcut hlt ⊢
    obtain rfl : i = l.length := by omega
    have hcut := cut_done hcut
    have hol : O.length + 1 = (cutB c l).length := by rw [hcut, List.length_append]; rfl
    refine w_exit rfl ?_
    refine w_seq ?_
    refine w_region rfl ?_
    refine o_mov rfl ?_
    refine o_mov rfl ?_
    refine o_mov rfl ?_
    refine o_slT (i := (f : Int)) (j := (l.length : Nat)) Tryd.underlying9 rfl ⟨_, rfl⟩ rfl ⟨by omega, by omega, by omega⟩ ?_
    rw [Int.toNat_natCast, Int.toNat_natCast, List.take_length]
    refine o_bslN [_] slc_43 zer_9 (Nat.le_of_ble_eq_true rfl) rfl rfl (fun b2 => ?_)
    refine o_appS [str (l.drop f)] slc_43 zer_9 rfl rfl rfl hO (by repeat (first | exact Pick.here | apply Pick.next)) rfl (by repeat (first | exact Has.here | apply Has.next)) rfl (Nat.le_of_ble_eq_true rfl) (by simp only [maxLen]; omega) (by omega) (fun v2 H2 hO2 => ?_)
    refine o_asg rfl ?_
    refine w_nil ?_
    exact w_ret (ret1 rfl rfl) ⟨H2, (by rw [hcut, List.length_append, List.map_append]; exact hO2), rfl⟩ (Take.sub (by repeat (first | exact Take.nil | exact Take.all _ | (apply Take.cons; focus (repeat (first | exact Pick.here | apply Pick.next))))))

theorem ref_hex (w : List UInt8) (hl : w.length ≤ 1000000) : Ctr Tryd.prog 27 [str w] ([]) (fun v ho => ∃ v1 H, v = .tuple #[v1, .bool (hexP w).isSome] ∧ (∀ xs, hexP w = some xs → OwnI H v1 5 .u8 xs) ∧ ho = [H]) := by
  refine spec_of Tryd.func27 rfl rfl fun w0 L => ?_
  refine w_seq ?_
  refine w_region rfl ?_
  refine o_asg rfl ?_
  refine o_asg rfl ?_
  refine w_nil ?_
  refine w_seq ?_
  refine w_seq ?_
  refine w_region rfl ?_
  refine o_mov rfl ?_
  refine o_eqT rfl rfl ?_
  refine w_nil ?_
  refine w_if_d rfl (fun hd => ?_) (fun hd => ?_)
  · refine w_emp ?_
    refine w_seq ?_
    refine w_region rfl ?_
    refine o_asg rfl ?_
    refine o_asg rfl ?_
    refine w_nil ?_
    exact w_ret (ret2 rfl rfl rfl) ⟨_, [], by rw [hd]; rfl, fun xs hxs => by rw [hd, hexP_dash] at hxs; obtain rfl := Option.some.inj hxs; exact OwnI.nil _ _, rfl⟩ (Take.sub (by repeat (first | exact Take.nil | exact Take.all _ | (apply Take.cons; focus (repeat (first | exact Pick.here | apply Pick.next))))))
  · refine w_skip ?_
    refine w_seq ?_
    refine w_seq ?_
    refine w_cut_x (X := Bool) (fun y => [(0, str w), (18, .bool y)]) (fun _ => []) (fun y => y = decide (w = [] ∨ w.length % 2 = 1)) ?_ ?_
    · refine w_region rfl ?_
      refine o_mov rfl ?_
      refine o_eqT_s rfl rfl (fun h3_1 => ?_) (fun h3_1 => ?_)
      · refine o_mov rfl ?_
        refine o_no rfl rfl rfl ?_
        refine o_no rfl rfl rfl ?_
        refine o_no rfl rfl rfl ?_
        refine o_no rfl rfl rfl ?_
        refine o_pick_t rfl rfl ?_
        refine w_nil ?_
        exact w_again ⟨true, (decide_eq_true (by first | (left; assumption) | (right; omega) | (rintro (h | h); (first | contradiction | omega); omega))).symm, (by repeat (first | exact Sub.nil _ | refine Sub.cons rfl ?_)), (Take.sub (by repeat (first | exact Take.nil | exact Take.all _ | (apply Take.cons; focus (repeat (first | exact Pick.here | apply Pick.next))))))⟩
      · refine o_mov rfl ?_
        refine o_yes rfl rfl ?_
        refine o_mov rfl ?_
        refine o_yes rfl rfl ?_
        refine o_lenT Tryd.underlying9 rfl ?_
        refine o_yes rfl rfl ?_
        refine o_rem rfl rfl (by first | decide | omega) (by first | exact IntWalk.rem_in _ _ (by omega) | rfl) ?_
        refine o_yes rfl rfl ?_
        refine o_eq_s rfl rfl (fun h3_6 => ?_) (fun h3_6 => ?_)
        · refine o_pick_f rfl rfl ?_
          refine w_nil ?_
          exact w_again ⟨true, (decide_eq_true (by first | (left; assumption) | (right; omega) | (rintro (h | h); (first | contradiction | omega); omega))).symm, (by repeat (first | exact Sub.nil _ | refine Sub.cons rfl ?_)), (Take.sub (by repeat (first | exact Take.nil | exact Take.all _ | (apply Take.cons; focus (repeat (first | exact Pick.here | apply Pick.next))))))⟩
        · refine o_pick_f rfl rfl ?_
          refine w_nil ?_
          exact w_again ⟨false, (decide_eq_false (by first | (left; assumption) | (right; omega) | (rintro (h | h); (first | contradiction | omega); omega))).symm, (by repeat (first | exact Sub.nil _ | refine Sub.cons rfl ?_)), (Take.sub (by repeat (first | exact Take.nil | exact Take.all _ | (apply Take.cons; focus (repeat (first | exact Pick.here | apply Pick.next))))))⟩
    intro y hy
    subst hy
    refine w_if_d rfl (fun hbad => ?_) (fun hbad => ?_)
    · refine w_emp ?_
      have hn := hexP_bad hd hbad
      refine w_seq ?_
      refine w_region rfl ?_
      refine o_asg rfl ?_
      refine o_asg rfl ?_
      refine w_nil ?_
      exact w_ret (ret2 rfl rfl rfl) ⟨_, [], by rw [hn]; rfl, fun xs hxs => (by rw [hn] at hxs; cases hxs), rfl⟩ (Take.sub (by repeat (first | exact Take.nil | exact Take.all _ | (apply Take.cons; focus (repeat (first | exact Pick.here | apply Pick.next))))))
    · have hll := hexL_len w
      have hev : w.length % 2 = 0 := by have : ¬ w.length % 2 = 1 := fun h => hbad (.inr h); omega
      refine w_emp ?_
      refine w_skip ?_
      refine w_seq ?_
      refine w_region rfl ?_
      refine o_asg rfl ?_
      refine w_nil ?_
      refine w_seq ?_
      refine w_seq ?_
      refine w_region rfl ?_
      refine o_asg rfl ?_
      refine w_nil ?_
      refine w_block ?_
      refine w_loop (X := Nat × Value × Hp) (fun x => [(0, str w), (4, x.2.1), (5, .int .i64 (2 * x.1 : Nat))]) (fun x => [x.2.2]) (fun x => 2 * x.1 ≤ w.length ∧ OwnI x.2.2 x.2.1 5 .u8 ((hexL w).take x.1) ∧ ∀ k, k < 2 * x.1 → (d16 (w.getD k 0)).isSome = true) (fun x => w.length - 2 * x.1) (0, .slice none 0 0, []) ⟨by simp, OwnI.nil _ _, fun k hk => by simp at hk⟩ (by repeat (first | exact Sub.nil _ | refine Sub.cons rfl ?_)) (Take.sub (by repeat (first | exact Take.nil | exact Take.all _ | (apply Take.cons; focus (repeat (first | exact Pick.here | apply Pick.next)))))) ?_
      rintro ⟨h, u, H⟩ ⟨hh, hO, hall⟩
      refine w_seq ?_
      refine w_seq ?_
      refine w_region rfl ?_
      refine o_mov rfl ?_
      refine o_mov rfl ?_
      refine o_lenT Tryd.underlying9 rfl ?_
      refine o_lt rfl rfl ?_
      refine w_nil ?_
      refine w_if_d rfl (fun hlt => ?_) (fun hlt => ?_)
      · simp only at hh hO hall hlt ⊢
        have htk : ((hexL w).take h).length = h := by rw [List.length_take]; omega
        refine w_skip ?_
        refine w_seq ?_
        refine w_block ?_
        refine w_seq ?_
        refine w_region rfl ?_
        refine o_asg rfl ?_
        refine w_nil ?_
        refine w_seq ?_
        refine w_seq ?_
        refine w_region rfl ?_
        refine o_mov rfl ?_
        refine o_asg rfl ?_
        refine w_nil ?_
        refine w_block ?_
        refine w_loop (X := Nat) (fun q => [(0, str w), (4, u), (5, .int .i64 (2 * h : Nat)), (6, .int .i64 (hexN w h q)), (7, .int .i64 (2 * h + q : Nat))]) (fun _ => [H]) (fun q => q ≤ 2 ∧ ∀ k, k < 2 * h + q → (d16 (w.getD k 0)).isSome = true) (fun q => 2 - q) 0 ⟨by omega, hall⟩ (by repeat (first | exact Sub.nil _ | refine Sub.cons rfl ?_)) (Take.sub (by repeat (first | exact Take.nil | exact Take.all _ | (apply Take.cons; focus (repeat (first | exact Pick.here | apply Pick.next)))))) ?_
        rintro q ⟨hq, hal⟩
        refine w_seq ?_
        refine w_seq ?_
        refine w_region rfl ?_
        refine o_mov rfl ?_
        refine o_mov rfl ?_
        refine o_add rfl rfl (by first | exact IntWalk.i64_in _ (by omega) | rfl) ?_
        refine o_lt rfl rfl ?_
        refine w_nil ?_
        refine w_if_d rfl (fun hql => ?_) (fun hql => ?_)
        · have hq2 : q < 2 := by omega
          have hb8 := u8_lt (w.getD (2 * h + q) 0)
          have hni := hexN_in w h q
          refine w_skip ?_
          refine w_seq ?_
          refine w_block ?_
          refine w_seq ?_
          refine w_region rfl ?_
          refine o_mov rfl ?_
          refine o_mov rfl ?_
          refine o_idxT Tryd.underlying9 rfl rfl ⟨by omega, by omega⟩ ?_
          rw [Int.toNat_natCast]
          refine o_conv int_3 (by rw [Tryd.underlying5]; rfl) rfl (by first | exact IntWalk.i64_in _ (by omega) | rfl) ?_
          refine o_asg rfl ?_
          refine w_nil ?_
          refine w_block ?_
          refine w_seq ?_
          refine w_cut_x (X := Bool) (fun y => [(0, str w), (4, u), (5, .int .i64 (2 * h : Nat)), (6, .int .i64 (hexN w h q)), (7, .int .i64 (2 * h + q : Nat)), (8, .int .i64 ((w.getD (2 * h + q) 0).toNat : Int)), (36, .bool y)]) (fun _ => [H]) (fun y => y = decide (48 ≤ (w.getD (2 * h + q) 0).toNat ∧ (w.getD (2 * h + q) 0).toNat ≤ 57)) ?_ ?_
          · refine w_region rfl ?_
            refine o_mov rfl ?_
            refine o_ge_s rfl rfl (fun h15_1 => ?_) (fun h15_1 => ?_)
            · refine o_mov rfl ?_
              refine o_yes rfl rfl ?_
              refine o_mov rfl ?_
              refine o_yes rfl rfl ?_
              refine o_le_s rfl rfl (fun h15_4 => ?_) (fun h15_4 => ?_)
              · refine o_pick_t rfl rfl ?_
                refine o_asg rfl ?_
                refine w_nil ?_
                exact w_again ⟨true, (decide_eq_true (by omega)).symm, (by repeat (first | exact Sub.nil _ | refine Sub.cons rfl ?_)), (Take.sub (by repeat (first | exact Take.nil | exact Take.all _ | (apply Take.cons; focus (repeat (first | exact Pick.here | apply Pick.next))))))⟩
              · refine o_pick_t rfl rfl ?_
                refine o_asg rfl ?_
                refine w_nil ?_
                exact w_again ⟨false, (decide_eq_false (by omega)).symm, (by repeat (first | exact Sub.nil _ | refine Sub.cons rfl ?_)), (Take.sub (by repeat (first | exact Take.nil | exact Take.all _ | (apply Take.cons; focus (repeat (first | exact Pick.here | apply Pick.next))))))⟩
            · refine o_mov rfl ?_
              refine o_no rfl rfl rfl ?_
              refine o_no rfl rfl rfl ?_
              refine o_pick_f rfl rfl ?_
              refine o_asg rfl ?_
              refine w_nil ?_
              exact w_again ⟨false, (decide_eq_false (by omega)).symm, (by repeat (first | exact Sub.nil _ | refine Sub.cons rfl ?_)), (Take.sub (by repeat (first | exact Take.nil | exact Take.all _ | (apply Take.cons; focus (repeat (first | exact Pick.here | apply Pick.next))))))⟩
          intro y hy
          subst hy
          refine w_cut_x (X := Int) (fun y => [(0, str w), (4, u), (5, .int .i64 (2 * h : Nat)), (6, .int .i64 y), (7, .int .i64 (2 * h + q : Nat))]) (fun _ => [H]) (fun y => y = hexN w h (q + 1) ∧ (d16 (w.getD (2 * h + q) 0)).isSome = true) ?_ ?_
          · refine w_if_d rfl (fun h1 => ?_) (fun h1 => ?_)
            · refine w_region rfl ?_
              refine o_mov rfl ?_
              refine o_mul rfl rfl (by first | exact IntWalk.i64_in _ (by omega) | rfl) ?_
              refine o_mov rfl ?_
              refine o_add rfl rfl (by first | exact IntWalk.i64_in _ (by omega) | rfl) ?_
              refine o_sub rfl rfl (by first | exact IntWalk.i64_in _ (by omega) | rfl) ?_
              refine o_asg rfl ?_
              refine w_nil ?_
              exact w_again ⟨(16 * hexN w h q + ((w.getD (2 * h + q) 0).toNat : Int) - 48), ⟨by rw [hexN_step hq2, d16_lo h1]; simp only [Option.getD_some]; omega, by rw [d16_lo h1]; rfl⟩, (by repeat (first | exact Sub.nil _ | refine Sub.cons rfl ?_)), (Take.sub (by repeat (first | exact Take.nil | exact Take.all _ | (apply Take.cons; focus (repeat (first | exact Pick.here | apply Pick.next))))))⟩
            · refine w_seq ?_
              refine w_cut_x (X := Bool) (fun y => [(0, str w), (4, u), (5, .int .i64 (2 * h : Nat)), (6, .int .i64 (hexN w h q)), (7, .int .i64 (2 * h + q : Nat)), (8, .int .i64 ((w.getD (2 * h + q) 0).toNat : Int)), (48, .bool y)]) (fun _ => [H]) (fun y => y = decide (97 ≤ (w.getD (2 * h + q) 0).toNat ∧ (w.getD (2 * h + q) 0).toNat ≤ 102)) ?_ ?_
              · refine w_region rfl ?_
                refine o_mov rfl ?_
                refine o_ge_s rfl rfl (fun h17_1 => ?_) (fun h17_1 => ?_)
                · refine o_mov rfl ?_
                  refine o_yes rfl rfl ?_
                  refine o_mov rfl ?_
                  refine o_yes rfl rfl ?_
                  refine o_le_s rfl rfl (fun h17_4 => ?_) (fun h17_4 => ?_)
                  · refine o_pick_t rfl rfl ?_
                    refine o_asg rfl ?_
                    refine w_nil ?_
                    exact w_again ⟨true, (decide_eq_true (by omega)).symm, (by repeat (first | exact Sub.nil _ | refine Sub.cons rfl ?_)), (Take.sub (by repeat (first | exact Take.nil | exact Take.all _ | (apply Take.cons; focus (repeat (first | exact Pick.here | apply Pick.next))))))⟩
                  · refine o_pick_t rfl rfl ?_
                    refine o_asg rfl ?_
                    refine w_nil ?_
                    exact w_again ⟨false, (decide_eq_false (by omega)).symm, (by repeat (first | exact Sub.nil _ | refine Sub.cons rfl ?_)), (Take.sub (by repeat (first | exact Take.nil | exact Take.all _ | (apply Take.cons; focus (repeat (first | exact Pick.here | apply Pick.next))))))⟩
                · refine o_mov rfl ?_
                  refine o_no rfl rfl rfl ?_
                  refine o_no rfl rfl rfl ?_
                  refine o_pick_f rfl rfl ?_
                  refine o_asg rfl ?_
                  refine w_nil ?_
                  exact w_again ⟨false, (decide_eq_false (by omega)).symm, (by repeat (first | exact Sub.nil _ | refine Sub.cons rfl ?_)), (Take.sub (by repeat (first | exact Take.nil | exact Take.all _ | (apply Take.cons; focus (repeat (first | exact Pick.here | apply Pick.next))))))⟩
              intro y hy
              subst hy
              refine w_if_d rfl (fun h2 => ?_) (fun h2 => ?_)
              · refine w_region rfl ?_
                refine o_mov rfl ?_
                refine o_mul rfl rfl (by first | exact IntWalk.i64_in _ (by omega) | rfl) ?_
                refine o_mov rfl ?_
                refine o_add rfl rfl (by first | exact IntWalk.i64_in _ (by omega) | rfl) ?_
                refine o_sub rfl rfl (by first | exact IntWalk.i64_in _ (by omega) | rfl) ?_
                refine o_asg rfl ?_
                refine w_nil ?_
                exact w_again ⟨(16 * hexN w h q + ((w.getD (2 * h + q) 0).toNat : Int) - 87), ⟨by rw [hexN_step hq2, d16_hi h1 h2]; simp only [Option.getD_some]; omega, by rw [d16_hi h1 h2]; rfl⟩, (by repeat (first | exact Sub.nil _ | refine Sub.cons rfl ?_)), (Take.sub (by repeat (first | exact Take.nil | exact Take.all _ | (apply Take.cons; focus (repeat (first | exact Pick.here | apply Pick.next))))))⟩
              · have hn := hexP_no hd (fun hk : hexOk w => by have := hk (2 * h + q) (by omega); rw [d16_no h1 h2] at this; cases this)
                refine w_seq ?_
                refine w_region rfl ?_
                refine o_asg rfl ?_
                refine o_asg rfl ?_
                refine w_nil ?_
                exact w_ret (ret2 rfl rfl rfl) ⟨_, H, by rw [hn]; rfl, fun xs hxs => (by rw [hn] at hxs; cases hxs), rfl⟩ (Take.sub (by repeat (first | exact Take.nil | exact Take.all _ | (apply Take.cons; focus (repeat (first | exact Pick.here | apply Pick.next))))))
          · rintro y ⟨hy, hsm⟩
            subst hy
            refine w_inB ?_
            refine w_inB ?_
            refine w_region rfl ?_
            refine o_mov rfl ?_
            refine o_add rfl rfl (by first | exact IntWalk.i64_in _ (by omega) | rfl) ?_
            rw [show ((2 * h + q : Nat) : Int) + 1 = ((2 * h + (q + 1) : Nat) : Int) by omega]
            refine o_asg rfl ?_
            refine w_nil ?_
            exact w_again ⟨(q + 1), ⟨by omega, fun k hk => by rcases Nat.lt_or_ge k (2 * h + q) with h3 | h3; exact hal k h3; rw [show k = 2 * h + q by omega]; exact hsm⟩, (by omega), (by repeat (first | exact Sub.nil _ | refine Sub.cons rfl ?_)), (Take.sub (by repeat (first | exact Take.nil | exact Take.all _ | (apply Take.cons; focus (repeat (first | exact Pick.here | apply Pick.next))))))⟩
        · obtain rfl : q = 2 := by omega
          have hn2 := hexN_in w h 2
          refine w_exit rfl ?_
          refine w_region rfl ?_
          refine o_mov rfl ?_
          refine o_mov rfl ?_
          refine o_conv int_5 (by rw [Tryd.underlying3]; rfl) rfl (by first | exact IntWalk.u8_in _ (by omega) | rfl) ?_
          rw [show hexN w h 2 = (hexL w).getD h 0 by rw [hexL_get (by omega)]; rfl]
          refine o_bslN [_] slc_34 zer_5 (Nat.le_of_ble_eq_true rfl) rfl rfl (fun b1 => ?_)
          refine o_app1 slc_34 zer_5 rfl rfl rfl hO (by repeat (first | exact Pick.here | apply Pick.next)) (by repeat (first | exact Has.here | apply Has.next)) (Nat.le_of_ble_eq_true rfl) (by simp only [maxLen]; omega) (by omega) (fun v' H' hO2 => ?_)
          refine o_asg rfl ?_
          refine w_nil ?_
          refine w_inB ?_
          refine w_region rfl ?_
          refine o_mov rfl ?_
          refine o_add rfl rfl (by first | exact IntWalk.i64_in _ (by omega) | rfl) ?_
          rw [show ((2 * h : Nat) : Int) + 2 = ((2 * (h + 1) : Nat) : Int) by omega]
          refine o_asg rfl ?_
          refine w_nil ?_
          exact w_again ⟨(h + 1, v', H'), ⟨by simp only; omega, by rw [← take_getG (d := 0) (show h < (hexL w).length by omega)]; exact hO2, fun k hk => hal k (by simp only at hk; omega)⟩, (by simp only; omega), (by repeat (first | exact Sub.nil _ | refine Sub.cons rfl ?_)), (Take.sub (by repeat (first | exact Take.nil | exact Take.all _ | (apply Take.cons; focus (repeat (first | exact Pick.here | apply Pick.next))))))⟩
      · simp only at hh hO hall hlt ⊢
        have hok : hexOk w := fun k hk => hall k (by omega)
        have hn := hexP_yes hd hbad hok
        rw [List.take_of_length_le (by omega)] at hO
        refine w_exit rfl ?_
        refine w_seq ?_
        refine w_region rfl ?_
        refine o_mov rfl ?_
        refine o_asg rfl ?_
        refine o_asg rfl ?_
        refine w_nil ?_
        exact w_ret (ret2 rfl rfl rfl) ⟨_, H, by rw [hn]; rfl, fun xs hxs => by rw [hn] at hxs; obtain rfl := Option.some.inj hxs; exact hO, rfl⟩ (Take.sub (by repeat (first | exact Take.nil | exact Take.all _ | (apply Take.cons; focus (repeat (first | exact Pick.here | apply Pick.next))))))

end Go.Proofs.YtmcopafdooejjaaDoor
