/- The law LappedUnlaps: samples of waves, by the document and by the program. No condition but that numbers are of their kinds. -/
import Derived.Test.YtjmnidcfgkdhcaaTy
import Derived.Test.YtjmnidcfgkdhcaaGd
import Derived.Test.YtjmnidcfgkdhcaaPg
namespace Go.Proofs.Ytjmnidcfgkdhcaa
open Go.Eng
set_option linter.unusedVariables false
set_option linter.unusedSimpArgs false
set_option maxRecDepth 20000
attribute [local irreducible] WL WT
theorem ref_Back {n : Nat} (hn : n = 40 ∨ n = 60 ∨ n = 80 ∨ n = 120) {vc : Value} {c : List Int} {Ac : Hp} (hc : Ints Ac vc .i32 c) (hcl : c.length = n) (hci : in32 c) : Ctr Try.prog 39 [vc, .int .i64 n] ([Ac]) (fun v ho => ∃ H, OwnI H v 2 .i64 (backL c n) ∧ ho = [H, Ac]) := by
  refine spec_of Try.func39 rfl rfl fun w0 L => ?_
  have hbl := backL_len c n
  have hwl := winL_len hn
  refine w_emp ?_
  refine w_seq ?_
  refine w_region rfl ?_
  refine o_asg rfl ?_
  refine w_nil ?_
  refine w_seq ?_
  refine w_region rfl ?_
  refine o_mov rfl ?_
  refine o_call (ref_Window hn) fn_36 rfl (by repeat (first | exact Take.nil | exact Take.all _ | (apply Take.cons; focus (repeat (first | exact Pick.here | apply Pick.next))))) ?_
  rintro vw ho ⟨Hw, hOw, rfl⟩
  refine o_asg rfl ?_
  refine w_nil ?_
  refine w_seq ?_
  refine w_region rfl ?_
  refine o_mov rfl ?_
  refine o_call (ref_Waves hn) fn_62 rfl (by repeat (first | exact Take.nil | exact Take.all _ | (apply Take.cons; focus (repeat (first | exact Pick.here | apply Pick.next))))) ?_
  rintro vt ho ⟨Ht, hOt, rfl⟩
  refine o_asg rfl ?_
  refine w_nil ?_
  refine w_seq ?_
  refine w_region rfl ?_
  refine o_asg rfl ?_
  refine w_nil ?_
  refine w_seq ?_
  refine w_seq ?_
  refine w_region rfl ?_
  refine o_asg rfl ?_
  refine w_nil ?_
  refine w_block ?_
  refine w_loop (X := Nat × Value × Hp) (fun y => [(0, vc), (1, .int .i64 n), (5, vw), (6, vt), (7, y.2.1), (8, .int .i64 y.1)]) (fun y => [y.2.2, Ht, Hw, Ac]) (fun y => y.1 ≤ 2 * n ∧ OwnI y.2.2 y.2.1 2 .i64 ((backL c n).take y.1)) (fun y => 2 * n - y.1) (0, .slice none 0 0, []) ⟨by simp, OwnI.nil _ _⟩ (by repeat (first | exact Sub.nil _ | refine Sub.cons rfl ?_)) (Take.sub (by repeat (first | exact Take.nil | exact Take.all _ | (apply Take.cons; focus (repeat (first | exact Pick.here | apply Pick.next)))))) ?_
  rintro ⟨j, u, H⟩ ⟨hj, hO⟩
  refine w_seq ?_
  refine w_seq ?_
  refine w_region rfl ?_
  refine o_mov rfl ?_
  refine o_mov rfl ?_
  refine o_mul rfl rfl (by first | exact IntWalk.i64_in _ (by omega) | rfl) ?_
  refine o_lt rfl rfl ?_
  refine w_nil ?_
  refine w_if_d rfl (fun hjl => ?_) (fun hjl => ?_)
  · simp only at hj hO hjl ⊢
    have htk : ((backL c n).take j).length = j := by rw [List.length_take]; omega
    have hbv := backV_in hci hn j
    have hwi := (winL_in n).get j
    have hbs := backS_in c n j
    have hbw := backW_in c n j
    refine w_skip ?_
    refine w_seq ?_
    refine w_block ?_
    refine w_seq ?_
    refine w_region rfl ?_
    refine o_asg rfl ?_
    refine w_nil ?_
    refine w_seq ?_
    refine w_seq ?_
    refine w_region rfl ?_
    refine o_asg rfl ?_
    refine w_nil ?_
    refine w_block ?_
    refine w_loop (X := Nat) (fun k => [(0, vc), (1, .int .i64 n), (5, vw), (6, vt), (7, u), (8, .int .i64 j), (9, .int .i64 (sumN (backP c n j) k)), (10, .int .i64 k)]) (fun _ => [H, Ht, Hw, Ac]) (fun k => k ≤ n) (fun k => n - k) 0 (by omega) (by repeat (first | exact Sub.nil _ | refine Sub.cons rfl ?_)) (Take.sub (by repeat (first | exact Take.nil | exact Take.all _ | (apply Take.cons; focus (repeat (first | exact Pick.here | apply Pick.next)))))) ?_
    intro k hk
    refine w_seq ?_
    refine w_seq ?_
    refine w_region rfl ?_
    refine o_mov rfl ?_
    refine o_mov rfl ?_
    refine o_lt rfl rfl ?_
    refine w_nil ?_
    refine w_if_d rfl (fun hkl => ?_) (fun hkl => ?_)
    · have hla := lap_arg hn (show j < 2 * n by omega) (show k < n by omega)
      have hix := lap_ix hn (show j < 2 * n by omega) (show k < n by omega)
      have hpi := backP_in hci hn j k
      have hsm := sumN_in (f := backP c n j) (B := 70368744177664) (by omega) k (fun q _ => backP_in hci hn j q)
      have hck := hci.get k
      refine w_skip ?_
      refine w_seq ?_
      refine w_block ?_
      refine w_any [0, 1, 2, 3, 4, 5, 6, 7, 8, 9, 10, 11, 12, 13, 14, 15, 16, 17, 18, 19, 20, 21, 22, 23] mixed (by kernel_rfl) ?_
      refine o_mov rfl ?_
      refine o_mov rfl ?_
      refine o_mov rfl ?_
      refine o_idxI hc (by repeat (first | exact Has.here | apply Has.next)) slc_43 rfl rfl ⟨by omega, by omega⟩ (fun bb1 ff1 ar1 TT1 fr1 hm1 hg1 => ?_)
      rw [Int.toNat_natCast] at hg1
      refine o_load lod_21 rfl hm1 hg1 ?_
      refine o_conv int_2 (by rw [Try.underlying21]; rfl) rfl (by first | exact IntWalk.i64_in _ (by omega) | rfl) ?_
      refine o_mov rfl ?_
      refine o_mov rfl ?_
      refine o_mul rfl rfl (by first | exact IntWalk.i64_in _ (by omega) | rfl) ?_
      refine o_add rfl rfl (by first | exact IntWalk.i64_in _ (by omega) | rfl) ?_
      refine o_mov rfl ?_
      refine o_add rfl rfl (by first | exact IntWalk.i64_in _ (by omega) | rfl) ?_
      refine o_mov rfl ?_
      refine o_mul rfl rfl (by first | exact IntWalk.i64_in _ (by omega) | rfl) ?_
      refine o_add rfl rfl (by first | exact IntWalk.i64_in _ (by omega) | rfl) ?_
      refine o_mul rfl rfl (by first | exact IntWalk.i64_in _ (by omega) | rfl) ?_
      refine o_mov rfl ?_
      refine o_mul rfl rfl (by first | exact IntWalk.i64_in _ (by omega) | rfl) ?_
      refine o_rem rfl rfl (by omega) (IntWalk.rem_in _ _ (by omega)) ?_
      refine o_idxI hOt.ints (by repeat (first | exact Has.here | apply Has.next)) slc_71 rfl rfl hix.2 (fun bb2 ff2 ar2 TT2 fr2 hm2 hg2 => ?_)
      rw [hix.1] at hg2
      refine o_load lod_2 rfl hm2 hg2 ?_
      refine o_mul (c := backP c n j k) rfl rfl (IntWalk.i64_in (backP c n j k) (by omega)) ?_
      refine o_add rfl rfl (by first | exact IntWalk.i64_in _ (by omega) | rfl) ?_
      refine o_asg rfl ?_
      refine w_nil ?_
      refine w_inB ?_
      refine w_region rfl ?_
      refine o_mov rfl ?_
      refine o_add rfl rfl (by first | exact IntWalk.i64_in _ (by omega) | rfl) ?_
      refine o_asg rfl ?_
      refine w_nil ?_
      exact w_again ⟨(k + 1), (by omega), (by omega), (by repeat (first | exact Sub.nil _ | refine Sub.cons rfl ?_)), (Take.sub (by repeat (first | exact Take.nil | exact Take.all _ | (apply Take.cons; focus (repeat (first | exact Pick.here | apply Pick.next))))))⟩
    · have hkn : k = n := by omega
      subst hkn
      refine w_exit rfl ?_
      refine w_seq ?_
      refine w_region rfl ?_
      refine o_mov rfl ?_
      refine o_call (ref_Round _ _ (by omega)) fn_55 rfl (by repeat (first | exact Take.nil | exact Take.all _ | (apply Take.cons; focus (repeat (first | exact Pick.here | apply Pick.next))))) ?_
      rintro v ho ⟨rfl, rfl⟩
      refine o_mul rfl rfl (by first | exact IntWalk.i64_in _ (by omega) | rfl) ?_
      refine o_mov rfl ?_
      refine o_quo (c := ((k / 2 : Nat) : Int)) rfl rfl (by decide) (by rcases hn with rfl | rfl | rfl | rfl <;> rfl) ?_
      refine o_add rfl rfl (by first | exact IntWalk.i64_in _ (by omega) | rfl) ?_
      rw [show 2 * roundI (sumN (backP c k j) k) 15 + ((k / 2 : Nat) : Int) = backV c k j from rfl]
      refine o_asg rfl ?_
      refine w_nil ?_
      have hmd := tmod_abs (backV c k j) (d := k) (by omega)
      have hqb := quo_back (backV c k j) k
      have hrd := back_down (y := backV c k j) (d := k) (by omega)
      have hde := down_eq (backV c k j) (d := k) (by omega)
      refine w_seq ?_
      refine w_region rfl ?_
      refine o_mov rfl ?_
      refine o_mov rfl ?_
      refine o_quo rfl rfl (by omega) (IntWalk.i64_quo' _ _ (by omega)) ?_
      have htb := tdiv_small (backV c k j) (show (1 : Int) ≤ k by omega)
      refine o_asg rfl ?_
      refine w_nil ?_
      refine w_seq ?_
      refine w_seq ?_
      refine w_cut_x (X := Bool) (fun y => [(0, vc), (1, .int .i64 k), (5, vw), (6, vt), (7, u), (8, .int .i64 j), (11, .int .i64 (backV c k j)), (12, .int .i64 ((backV c k j).tdiv k)), (68, .bool y)]) (fun _ => [H, Ht, Hw, Ac]) (fun y => y = decide ((backV c k j).tmod k < 0)) ?_ ?_
      · refine w_region rfl ?_
        refine o_mov rfl ?_
        refine o_lt_s rfl rfl (fun h1 => ?_) (fun h1 => ?_)
        · refine o_mov rfl ?_
          refine o_yes rfl rfl ?_
          refine o_mov rfl ?_
          refine o_yes rfl rfl ?_
          refine o_mov rfl ?_
          refine o_yes rfl rfl ?_
          refine o_mul (c := backV c k j - (backV c k j).tmod k) rfl rfl (by rw [hqb]; exact IntWalk.i64_in _ (by omega)) ?_
          refine o_yes rfl rfl ?_
          refine o_mov rfl ?_
          refine o_yes rfl rfl ?_
          refine o_ne_s rfl rfl (fun h2 => ?_) (fun h2 => ?_)
          · refine o_pick_t rfl rfl ?_
            refine w_nil ?_
            exact w_again ⟨true, (decide_eq_true (hrd.1 (by omega))).symm, (by repeat (first | exact Sub.nil _ | refine Sub.cons rfl ?_)), (Take.sub (by repeat (first | exact Take.nil | exact Take.all _ | (apply Take.cons; focus (repeat (first | exact Pick.here | apply Pick.next))))))⟩
          · refine o_pick_t rfl rfl ?_
            refine w_nil ?_
            exact w_again ⟨false, (decide_eq_false (fun h => by have h9 := hrd.2 h; omega)).symm, (by repeat (first | exact Sub.nil _ | refine Sub.cons rfl ?_)), (Take.sub (by repeat (first | exact Take.nil | exact Take.all _ | (apply Take.cons; focus (repeat (first | exact Pick.here | apply Pick.next))))))⟩
        · refine o_mov rfl ?_
          refine o_no rfl rfl rfl ?_
          refine o_no rfl rfl rfl ?_
          refine o_no rfl rfl rfl ?_
          refine o_no rfl rfl rfl ?_
          refine o_no rfl rfl rfl ?_
          refine o_pick_f rfl rfl ?_
          refine w_nil ?_
          exact w_again ⟨false, (decide_eq_false (fun h => by have h9 := hrd.2 h; omega)).symm, (by repeat (first | exact Sub.nil _ | refine Sub.cons rfl ?_)), (Take.sub (by repeat (first | exact Take.nil | exact Take.all _ | (apply Take.cons; focus (repeat (first | exact Pick.here | apply Pick.next))))))⟩
      intro y hy
      subst hy
      refine w_cut_x (X := Int) (fun q => [(0, vc), (1, .int .i64 k), (5, vw), (6, vt), (7, u), (8, .int .i64 j), (12, .int .i64 q)]) (fun _ => [H, Ht, Hw, Ac]) (fun q => q = backV c k j / k) ?_ ?_
      · refine w_if_d rfl (fun hneg => ?_) (fun hneg => ?_)
        · refine w_region rfl ?_
          refine o_mov rfl ?_
          refine o_sub rfl rfl (by first | exact IntWalk.i64_in _ (by omega) | rfl) ?_
          refine o_asg rfl ?_
          refine w_nil ?_
          exact w_again ⟨((backV c k j).tdiv k - 1), (by rw [if_pos hneg] at hde; exact hde), (by repeat (first | exact Sub.nil _ | refine Sub.cons rfl ?_)), (Take.sub (by repeat (first | exact Take.nil | exact Take.all _ | (apply Take.cons; focus (repeat (first | exact Pick.here | apply Pick.next))))))⟩
        · refine w_skip ?_
          exact w_again ⟨((backV c k j).tdiv k), (by rw [if_neg hneg] at hde; exact hde), (by repeat (first | exact Sub.nil _ | refine Sub.cons rfl ?_)), (Take.sub (by repeat (first | exact Take.nil | exact Take.all _ | (apply Take.cons; focus (repeat (first | exact Pick.here | apply Pick.next))))))⟩
      · intro q hq
        subst hq
        refine w_cut_x (X := Value × Hp) (fun x => [(0, vc), (1, .int .i64 k), (5, vw), (6, vt), (7, x.1), (8, .int .i64 j)]) (fun x => [x.2, Ht, Hw, Ac]) (fun x => OwnI x.2 x.1 2 .i64 ((backL c k).take j ++ [(backL c k).getD j 0])) ?_ ?_
        · refine w_plan (takes [0, 1, 3, 4, 5] (.alt 2 (.alt 6 (takes [7, 8] (.alt 9 (.alt 10 (.alt 11 (.alt 12 (takes [13] .done) .stop) .stop) .stop) .stop)) .stop) (.alt 6 (takes [7] (.alt 2 (takes [8] (.alt 9 (.alt 10 (.alt 11 (.alt 12 (takes [13] .done) .stop) .stop) .stop) .stop)) .stop)) .stop))) mixed (by kernel_rfl) ?_
          refine wp_take _ _ ?_
          refine o_mov rfl ?_
          refine o_mov rfl ?_
          refine o_mov rfl ?_
          refine o_mov rfl ?_
          refine o_idxI hOw.ints (by repeat (first | exact Has.here | apply Has.next)) slc_26 rfl rfl ⟨by omega, by omega⟩ (fun bb1 ff1 ar1 TT1 fr1 hm1 hg1 => ?_)
          refine wl_nil ?_
          refine wp_alt ?_ ?_
          · refine o_call (ref9_sat _) fn_63 rfl (by repeat (first | exact Take.nil | exact Take.all _ | (apply Take.cons; focus (repeat (first | exact Pick.here | apply Pick.next))))) ?_
            rintro v ho ⟨rfl, rfl⟩
            rw [show clampI (backV c k j / k) (-2147483648) 2147483647 = backS c k j from rfl]
            refine wl_nil ?_
            refine wp_alt ?_ ?_
            · refine o_load (v := .int .i16 ((winL k).getD j 0)) lod_35 rfl hm1 hg1 ?_
              refine wl_nil ?_
              refine wp_take _ _ ?_
              refine o_conv int_2 (by rw [Try.underlying35]; rfl) rfl (by first | exact IntWalk.i64_in _ (by omega) | rfl) ?_
              refine o_mul (c := backS c k j * (winL k).getD j 0) rfl rfl (IntWalk.i64_in _ (by omega)) ?_
              refine wl_nil ?_
              refine wp_alt ?_ ?_
              · refine o_call (ref_Round _ _ (by omega)) fn_55 rfl (by repeat (first | exact Take.nil | exact Take.all _ | (apply Take.cons; focus (repeat (first | exact Pick.here | apply Pick.next))))) ?_
                rintro v ho ⟨rfl, rfl⟩
                refine wl_nil ?_
                refine wp_alt ?_ ?_
                · refine o_call (ref9_sat _) fn_63 rfl (by repeat (first | exact Take.nil | exact Take.all _ | (apply Take.cons; focus (repeat (first | exact Pick.here | apply Pick.next))))) ?_
                  rintro v ho ⟨rfl, rfl⟩
                  rw [show clampI (roundI (backS c k j * (winL k).getD j 0) 15) (-2147483648) 2147483647 = (backL c k).getD j 0 by rw [backL_get (by omega)]; rfl]
                  refine wl_nil ?_
                  refine wp_alt ?_ ?_
                  · refine o_bslN [_] slc_71 zer_2 (Nat.le_of_ble_eq_true rfl) rfl rfl (fun b7 => ?_)
                    refine wl_nil ?_
                    refine wp_alt ?_ ?_
                    · refine o_app1 slc_71 zer_2 rfl rfl rfl hO (by repeat (first | exact Pick.here | apply Pick.next)) (by repeat (first | exact Has.here | apply Has.next)) (Nat.le_of_ble_eq_true rfl) (by simp only [maxLen]; omega) (by omega) (fun v' H' hO2 => ?_)
                      refine wl_nil ?_
                      refine wp_take _ _ ?_
                      refine o_asg rfl ?_
                      refine wl_nil ?_
                      refine wp_done ?_
                      exact w_again ⟨(v', H'), hO2, (by repeat (first | exact Sub.nil _ | refine Sub.cons rfl ?_)), (Take.sub (by repeat (first | exact Take.nil | exact Take.all _ | (apply Take.cons; focus (repeat (first | exact Pick.here | apply Pick.next))))))⟩
                    exact wp_stop
                  exact wp_stop
                exact wp_stop
              exact wp_stop
            exact wp_stop
          refine wp_alt ?_ ?_
          · refine o_load (v := .int .i16 ((winL k).getD j 0)) lod_35 rfl hm1 hg1 ?_
            refine wl_nil ?_
            refine wp_take _ _ ?_
            refine o_conv int_2 (by rw [Try.underlying35]; rfl) rfl (by first | exact IntWalk.i64_in _ (by omega) | rfl) ?_
            refine wl_nil ?_
            refine wp_alt ?_ ?_
            · refine o_call (ref9_sat _) fn_63 rfl (by repeat (first | exact Take.nil | exact Take.all _ | (apply Take.cons; focus (repeat (first | exact Pick.here | apply Pick.next))))) ?_
              rintro v ho ⟨rfl, rfl⟩
              rw [show clampI (backV c k j / k) (-2147483648) 2147483647 = backS c k j from rfl]
              refine wl_nil ?_
              refine wp_take _ _ ?_
              refine o_mul (c := backS c k j * (winL k).getD j 0) rfl rfl (IntWalk.i64_in _ (by omega)) ?_
              refine wl_nil ?_
              refine wp_alt ?_ ?_
              · refine o_call (ref_Round _ _ (by omega)) fn_55 rfl (by repeat (first | exact Take.nil | exact Take.all _ | (apply Take.cons; focus (repeat (first | exact Pick.here | apply Pick.next))))) ?_
                rintro v ho ⟨rfl, rfl⟩
                refine wl_nil ?_
                refine wp_alt ?_ ?_
                · refine o_call (ref9_sat _) fn_63 rfl (by repeat (first | exact Take.nil | exact Take.all _ | (apply Take.cons; focus (repeat (first | exact Pick.here | apply Pick.next))))) ?_
                  rintro v ho ⟨rfl, rfl⟩
                  rw [show clampI (roundI (backS c k j * (winL k).getD j 0) 15) (-2147483648) 2147483647 = (backL c k).getD j 0 by rw [backL_get (by omega)]; rfl]
                  refine wl_nil ?_
                  refine wp_alt ?_ ?_
                  · refine o_bslN [_] slc_71 zer_2 (Nat.le_of_ble_eq_true rfl) rfl rfl (fun b11 => ?_)
                    refine wl_nil ?_
                    refine wp_alt ?_ ?_
                    · refine o_app1 slc_71 zer_2 rfl rfl rfl hO (by repeat (first | exact Pick.here | apply Pick.next)) (by repeat (first | exact Has.here | apply Has.next)) (Nat.le_of_ble_eq_true rfl) (by simp only [maxLen]; omega) (by omega) (fun v' H' hO2 => ?_)
                      refine wl_nil ?_
                      refine wp_take _ _ ?_
                      refine o_asg rfl ?_
                      refine wl_nil ?_
                      refine wp_done ?_
                      exact w_again ⟨(v', H'), hO2, (by repeat (first | exact Sub.nil _ | refine Sub.cons rfl ?_)), (Take.sub (by repeat (first | exact Take.nil | exact Take.all _ | (apply Take.cons; focus (repeat (first | exact Pick.here | apply Pick.next))))))⟩
                    exact wp_stop
                  exact wp_stop
                exact wp_stop
              exact wp_stop
            exact wp_stop
          exact wp_stop
        rintro ⟨u2, H2⟩ hO2
        simp only at hO2 ⊢
        refine w_inB ?_
        refine w_region rfl ?_
        refine o_mov rfl ?_
        refine o_add rfl rfl (by first | exact IntWalk.i64_in _ (by omega) | rfl) ?_
        refine o_asg rfl ?_
        refine w_nil ?_
        exact w_again ⟨(j + 1, u2, H2), ⟨by simp only; omega, by rw [← take_get_step (by omega)]; exact hO2⟩, (by simp only; omega), (by repeat (first | exact Sub.nil _ | refine Sub.cons rfl ?_)), (Take.sub (by repeat (first | exact Take.nil | exact Take.all _ | (apply Take.cons; focus (repeat (first | exact Pick.here | apply Pick.next))))))⟩
  · simp only at hj hO hjl ⊢
    obtain rfl : j = 2 * n := by omega
    rw [List.take_of_length_le (Nat.le_of_eq hbl)] at hO
    refine w_exit rfl ?_
    refine w_seq ?_
    refine w_region rfl ?_
    refine o_mov rfl ?_
    refine o_asg rfl ?_
    refine w_nil ?_
    exact w_ret (ret1 rfl rfl) ⟨H, hO, rfl⟩ (Take.sub (by repeat (first | exact Take.nil | exact Take.all _ | (apply Take.cons; focus (repeat (first | exact Pick.here | apply Pick.next))))))

theorem ref_Unlap {n : Nat} (hn : n = 40 ∨ n = 60 ∨ n = 80 ∨ n = 120) {vo vc : Value} {old o c : List Int} {Ao Ac : Hp} (ho : Ints Ao vo .i64 old) (hol : old.length = 0 ∨ old.length = 2 * n) (hrel : ∀ j, j < n → o.getD j 0 = if 0 < old.length then old.getD (n + j) 0 else 0) (hoi : in32 o) (hc : Ints Ac vc .i32 c) (hcl : c.length = n) (hci : in32 c) : Ctr Try.prog 38 [vo, vc, .int .i64 n] ([Ao, Ac]) (fun v ho => ∃ H, OwnI H v 21 .i32 (unlL o c n) ∧ ho = [H, Ao, Ac]) := by
  refine spec_of Try.func38 rfl rfl fun w0 L => ?_
  have hul := unlL_len o c n
  have hbl := backL_len c n
  refine w_emp ?_
  refine w_seq ?_
  refine w_region rfl ?_
  refine o_asg rfl ?_
  refine w_nil ?_
  refine w_seq ?_
  refine w_region rfl ?_
  refine o_mov rfl ?_
  refine o_mov rfl ?_
  refine o_call (ref_Back hn hc hcl hci) fn_39 rfl (by repeat (first | exact Take.nil | exact Take.all _ | (apply Take.cons; focus (repeat (first | exact Pick.here | apply Pick.next))))) ?_
  rintro vz ho ⟨Hz, hZ, rfl⟩
  refine o_asg rfl ?_
  refine w_nil ?_
  refine w_seq ?_
  refine w_region rfl ?_
  refine o_asg rfl ?_
  refine w_nil ?_
  refine w_seq ?_
  refine w_seq ?_
  refine w_region rfl ?_
  refine o_asg rfl ?_
  refine w_nil ?_
  refine w_block ?_
  refine w_loop (X := Nat × Value × Hp) (fun y => [(0, vo), (2, .int .i64 n), (7, vz), (8, y.2.1), (9, .int .i64 y.1)]) (fun y => [y.2.2, Hz, Ao, Ac]) (fun y => y.1 ≤ n ∧ OwnI y.2.2 y.2.1 21 .i32 ((unlL o c n).take y.1)) (fun y => n - y.1) (0, .slice none 0 0, []) ⟨by simp, OwnI.nil _ _⟩ (by repeat (first | exact Sub.nil _ | refine Sub.cons rfl ?_)) (Take.sub (by repeat (first | exact Take.nil | exact Take.all _ | (apply Take.cons; focus (repeat (first | exact Pick.here | apply Pick.next)))))) ?_
  rintro ⟨j, u, H⟩ ⟨hj, hO⟩
  refine w_seq ?_
  refine w_seq ?_
  refine w_region rfl ?_
  refine o_mov rfl ?_
  refine o_mov rfl ?_
  refine o_lt rfl rfl ?_
  refine w_nil ?_
  refine w_if_d rfl (fun hjl => ?_) (fun hjl => ?_)
  · simp only at hj hO hjl ⊢
    have htk : ((unlL o c n).take j).length = j := by rw [List.length_take]; omega
    have hr := hrel j (by omega)
    have hoj := hoi.get j
    have hbi := backI_in c n j
    refine w_skip ?_
    refine w_seq ?_
    refine w_block ?_
    refine w_seq ?_
    refine w_region rfl ?_
    refine o_asg rfl ?_
    refine w_nil ?_
    refine w_seq ?_
    refine w_seq ?_
    refine w_region rfl ?_
    refine o_mov rfl ?_
    refine o_lenI ho slc_71 rfl ?_
    refine o_gt rfl rfl ?_
    refine w_nil ?_
    refine w_cut_x (X := Int) (fun y => [(0, vo), (2, .int .i64 n), (7, vz), (8, u), (9, .int .i64 j), (10, .int .i64 y)]) (fun _ => [H, Hz, Ao, Ac]) (fun y => y = o.getD j 0) ?_ ?_
    · refine w_if_d rfl (fun hpos => ?_) (fun hpos => ?_)
      · refine w_region rfl ?_
        refine o_mov rfl ?_
        refine o_mov rfl ?_
        refine o_mov rfl ?_
        refine o_add rfl rfl (by first | exact IntWalk.i64_in _ (by omega) | rfl) ?_
        refine o_idxI ho (by repeat (first | exact Has.here | apply Has.next)) slc_71 rfl rfl ⟨by omega, by omega⟩ (fun bb1 ff1 ar1 TT1 fr1 hm1 hg1 => ?_)
        rw [show ((n : Int) + j).toNat = n + j by omega] at hg1
        refine o_load lod_2 rfl hm1 hg1 ?_
        refine o_asg rfl ?_
        refine w_nil ?_
        exact w_again ⟨(old.getD (n + j) 0), (by rw [hr, if_pos (by omega)]), (by repeat (first | exact Sub.nil _ | refine Sub.cons rfl ?_)), (Take.sub (by repeat (first | exact Take.nil | exact Take.all _ | (apply Take.cons; focus (repeat (first | exact Pick.here | apply Pick.next))))))⟩
      · refine w_skip ?_
        exact w_again ⟨0, (by rw [hr, if_neg (by omega)]), (by repeat (first | exact Sub.nil _ | refine Sub.cons rfl ?_)), (Take.sub (by repeat (first | exact Take.nil | exact Take.all _ | (apply Take.cons; focus (repeat (first | exact Pick.here | apply Pick.next))))))⟩
    · intro y hy
      subst hy
      refine w_region rfl ?_
      refine o_mov rfl ?_
      refine o_mov rfl ?_
      refine o_mov rfl ?_
      refine o_mov rfl ?_
      refine o_idxI hZ.ints (by repeat (first | exact Has.here | apply Has.next)) slc_71 rfl rfl ⟨by omega, by omega⟩ (fun bb1 ff1 ar1 TT1 fr1 hm1 hg1 => ?_)
      rw [Int.toNat_natCast, backL_get (show j < 2 * n by omega)] at hg1
      refine o_load lod_2 rfl hm1 hg1 ?_
      refine o_add rfl rfl (by first | exact IntWalk.i64_in _ (by omega) | rfl) ?_
      refine o_call (ref9_sat _) fn_63 rfl (by repeat (first | exact Take.nil | exact Take.all _ | (apply Take.cons; focus (repeat (first | exact Pick.here | apply Pick.next))))) ?_
      rintro v ho ⟨rfl, rfl⟩
      have hcl2 := clamp_in (o.getD j 0 + backI c n j) (-2147483648) 2147483647 (by decide)
      refine o_conv int_21 (by rw [Try.underlying2]; rfl) rfl (by first | exact IntWalk.i32_in _ (by omega) | rfl) ?_
      rw [show clampI (o.getD j 0 + backI c n j) (-2147483648) 2147483647 = (unlL o c n).getD j 0 by rw [unlL_get (by omega)]; rfl]
      refine o_bslN [_] slc_43 zer_21 (Nat.le_of_ble_eq_true rfl) rfl rfl (fun b3 => ?_)
      refine o_app1 slc_43 zer_21 rfl rfl rfl hO (by repeat (first | exact Pick.here | apply Pick.next)) (by repeat (first | exact Has.here | apply Has.next)) (Nat.le_of_ble_eq_true rfl) (by simp only [maxLen]; omega) (by omega) (fun v' H' hO2 => ?_)
      refine o_asg rfl ?_
      refine w_nil ?_
      refine w_inB ?_
      refine w_region rfl ?_
      refine o_mov rfl ?_
      refine o_add rfl rfl (by first | exact IntWalk.i64_in _ (by omega) | rfl) ?_
      refine o_asg rfl ?_
      refine w_nil ?_
      exact w_again ⟨(j + 1, v', H'), ⟨by simp only; omega, by rw [← take_get_step (by omega)]; exact hO2⟩, (by simp only; omega), (by repeat (first | exact Sub.nil _ | refine Sub.cons rfl ?_)), (Take.sub (by repeat (first | exact Take.nil | exact Take.all _ | (apply Take.cons; focus (repeat (first | exact Pick.here | apply Pick.next))))))⟩
  · simp only at hj hO hjl ⊢
    obtain rfl : j = n := by omega
    rw [List.take_of_length_le (Nat.le_of_eq hul)] at hO
    refine w_exit rfl ?_
    refine w_seq ?_
    refine w_region rfl ?_
    refine o_mov rfl ?_
    refine o_asg rfl ?_
    refine w_nil ?_
    exact w_ret (ret1 rfl rfl) ⟨H, hO, rfl⟩ (Take.sub (by repeat (first | exact Take.nil | exact Take.all _ | (apply Take.cons; focus (repeat (first | exact Pick.here | apply Pick.next))))))

theorem fix_Add (a b : Int) (ha : -2147483648 ≤ a ∧ a ≤ 2147483647) (hb : -2147483648 ≤ b ∧ b ≤ 2147483647) : Ctr Try.prog 69 [.int .i32 a, .int .i32 b] ([]) (fun v ho => v = .int .i32 (clampI (a + b) (-2147483648) 2147483647) ∧ ho = []) := by
  refine spec_of Try.func69 rfl rfl fun w0 L => ?_
  refine w_seq ?_
  refine w_region rfl ?_
  refine o_asg rfl ?_
  refine w_nil ?_
  refine w_seq ?_
  refine w_region rfl ?_
  refine o_mov rfl ?_
  refine o_conv int_2 (by rw [Try.underlying21]; rfl) rfl (by first | exact IntWalk.i64_in _ (by omega) | rfl) ?_
  refine o_mov rfl ?_
  refine o_conv int_2 (by rw [Try.underlying21]; rfl) rfl (by first | exact IntWalk.i64_in _ (by omega) | rfl) ?_
  refine o_add rfl rfl (by first | exact IntWalk.i64_in _ (by omega) | rfl) ?_
  refine o_call (fix_Sat32 _) fn_61 rfl (by repeat (first | exact Take.nil | exact Take.all _ | (apply Take.cons; focus (repeat (first | exact Pick.here | apply Pick.next))))) ?_
  rintro v ho ⟨rfl, rfl⟩
  refine o_asg rfl ?_
  refine w_nil ?_
  exact w_ret (ret1 rfl rfl) ⟨rfl, rfl⟩ (HSub.refl _)

theorem lapped_down (n d : Int) (hd : 1 ≤ d ∧ d ≤ 1000) (hn : -9000000000000 ≤ n ∧ n ≤ 9000000000000) : Ctr Try.prog 88 [.int .i64 n, .int .i64 d] ([]) (fun v ho => v = .int .i64 (n / d) ∧ ho = []) := by
  refine spec_of Try.func88 rfl rfl fun w0 L => ?_
  refine w_seq ?_
  refine w_region rfl ?_
  refine o_asg rfl ?_
  refine w_nil ?_
  refine w_seq ?_
  refine w_region rfl ?_
  refine o_mov rfl ?_
  refine o_mov rfl ?_
  refine o_quo rfl rfl (by omega) (IntWalk.i64_quo' _ _ (by omega)) ?_
  refine o_asg rfl ?_
  refine w_nil ?_
  refine w_seq ?_
  refine w_seq ?_
  refine w_region rfl ?_
  have hde := down_eq n (d := d) (by omega)
  have htb : -9100000000000 ≤ n.tdiv d ∧ n.tdiv d ≤ 9100000000000 := by have h3 := tdiv_small n (show 1 ≤ d by omega); omega
  refine o_mov rfl ?_
  refine o_mov rfl ?_
  refine o_rem rfl rfl (by omega) rfl ?_
  refine o_lt rfl rfl ?_
  refine w_nil ?_
  refine w_if_d rfl (fun hneg => ?_) (fun hneg => ?_)
  · refine w_region rfl ?_
    refine o_mov rfl ?_
    refine o_sub rfl rfl (by first | exact IntWalk.i64_in _ (by omega) | rfl) ?_
    refine o_asg rfl ?_
    refine w_nil ?_
    refine w_seq ?_
    refine w_region rfl ?_
    refine o_mov rfl ?_
    refine o_asg rfl ?_
    refine w_nil ?_
    exact w_ret (ret1 rfl rfl) ⟨by rw [if_pos hneg] at hde; rw [hde], rfl⟩ (HSub.refl _)
  · refine w_skip ?_
    refine w_seq ?_
    refine w_region rfl ?_
    refine o_mov rfl ?_
    refine o_asg rfl ?_
    refine w_nil ?_
    exact w_ret (ret1 rfl rfl) ⟨by rw [if_neg hneg] at hde; rw [hde], rfl⟩ (HSub.refl _)

theorem unl_sample {n : Nat} (hn : n = 40 ∨ n = 60 ∨ n = 80 ∨ n = 120) {p : Nat} {T : TypeId} {wv tv ov : Value} {H1 H2 Ac : Hp} (h1 : Ints H1 wv .i16 (winL n)) (h2 : Ints H2 tv .i16 (turnL (8 * n))) {c : List Int} {vc : Value} (hc : Ints Ac vc .i32 c) (hcl : c.length = n) (hci : in32 c) {j : Nat} (hj : j < 2 * n) : Ctr Try.prog 70 [.pointer (some ⟨p, 0, none⟩), vc, .int .i64 j] ([[(p, .cells #[.int .i64 n, wv, tv, ov] T (0, 0))], H1, H2, Ac]) (fun v ho => v = .int .i32 (backI c n j) ∧ ho = [[(p, .cells #[.int .i64 n, wv, tv, ov] T (0, 0))], H1, H2, Ac]) := by
  refine spec_of Try.func70 rfl rfl fun w0 L => ?_
  have hbv := backV_in hci hn j
  have hbs := backS_in c n j
  have hbw := backW_in c n j
  refine w_seq ?_
  refine w_region rfl ?_
  refine o_asg rfl ?_
  refine w_nil ?_
  refine w_seq ?_
  refine w_region rfl ?_
  refine o_asg rfl ?_
  refine w_nil ?_
  refine w_seq ?_
  refine w_seq ?_
  refine w_region rfl ?_
  refine o_mov rfl ?_
  refine o_lenI hc slc_43 rfl ?_
  refine o_mov rfl ?_
  refine w_nil ?_
  refine w_block ?_
  refine w_loop (X := Nat) (fun k => [(0, .pointer (some ⟨p, 0, none⟩)), (2, .int .i64 j), (7, .int .i64 (sumN (backP c n j) k)), (12, vc), (13, .int .i64 c.length), (14, .int .i64 k)]) (fun _ => [[(p, .cells #[.int .i64 n, wv, tv, ov] T (0, 0))], H1, H2, Ac]) (fun k => k ≤ n) (fun k => n - k) 0 (by omega) (by repeat (first | exact Sub.nil _ | refine Sub.cons rfl ?_)) (Take.sub (by repeat (first | exact Take.nil | exact Take.all _ | (apply Take.cons; focus (repeat (first | exact Pick.here | apply Pick.next)))))) ?_
  intro k hk
  refine w_seq ?_
  refine w_region rfl ?_
  refine o_lt rfl rfl ?_
  refine w_nil ?_
  refine w_seq ?_
  refine w_if_d rfl (fun hkl => ?_) (fun hkl => ?_)
  · have hpi := backP_in hci hn j k
    have hsm := sumN_in (f := backP c n j) (B := 70368744177664) (by omega) k (fun q _ => backP_in hci hn j q)
    have hck := hci.get k
    refine w_skip ?_
    refine w_seq ?_
    refine w_block ?_
    refine w_seq ?_
    refine w_region rfl ?_
    refine o_mov rfl ?_
    refine o_idxI hc (by repeat (first | exact Has.here | apply Has.next)) slc_43 rfl rfl ⟨by omega, by omega⟩ (fun bb1 ff1 ar1 TT1 fr1 hm1 hg1 => ?_)
    rw [Int.toNat_natCast] at hg1
    refine o_load lod_21 rfl hm1 hg1 ?_
    refine o_asg rfl ?_
    refine o_asg rfl ?_
    refine w_nil ?_
    refine w_region rfl ?_
    refine o_mov rfl ?_
    refine o_mov rfl ?_
    refine o_conv int_2 (by rw [Try.underlying21]; rfl) rfl (by first | exact IntWalk.i64_in _ (by omega) | rfl) ?_
    refine o_mov rfl ?_
    refine o_nilc rfl ?_
    refine o_fld fld_131_0 rfl rfl ?_
    refine o_mov rfl ?_
    refine o_mov rfl ?_
    refine o_call (lapped_wave hn rfl rfl h2 (show j < 2 * n by omega) (show k < n by omega)) fn_60 rfl (by repeat (first | exact Take.nil | exact Take.all _ | (apply Take.cons; focus (repeat (first | exact Pick.here | apply Pick.next))))) ?_
    rintro v ho ⟨rfl, rfl⟩
    refine o_mul (c := backP c n j k) rfl rfl (IntWalk.i64_in (backP c n j k) (by omega)) ?_
    refine o_add rfl rfl (by first | exact IntWalk.i64_in _ (by omega) | rfl) ?_
    refine o_asg rfl ?_
    refine w_nil ?_
    refine w_inB ?_
    refine w_region rfl ?_
    refine o_add rfl rfl (by first | exact IntWalk.i64_in _ (by omega) | rfl) ?_
    refine o_mov rfl ?_
    refine w_nil ?_
    exact w_again ⟨(k + 1), (by omega), (by omega), (by repeat (first | exact Sub.nil _ | refine Sub.cons rfl ?_)), (Take.sub (by repeat (first | exact Take.nil | exact Take.all _ | (apply Take.cons; focus (repeat (first | exact Pick.here | apply Pick.next))))))⟩
  · have hkn : k = n := by omega
    subst hkn
    refine w_exit rfl ?_
    refine w_seq ?_
    refine w_region rfl ?_
    refine o_mov rfl ?_
    refine o_nilc rfl ?_
    refine o_fld fld_131_0 rfl rfl ?_
    refine o_fld fld_115_0 rfl rfl ?_
    refine o_load lod_3 rfl (by repeat (first | exact At.here | (refine At.inA ?_; assumption) | apply At.next)) rfl ?_
    refine o_asg rfl ?_
    refine w_nil ?_
    refine w_seq ?_
    refine w_region rfl ?_
    refine o_mov rfl ?_
    refine o_call (fix_Round _ _ (by omega)) fn_53 rfl (by repeat (first | exact Take.nil | exact Take.all _ | (apply Take.cons; focus (repeat (first | exact Pick.here | apply Pick.next))))) ?_
    rintro v ho ⟨rfl, rfl⟩
    refine o_mul rfl rfl (by first | exact IntWalk.i64_in _ (by omega) | rfl) ?_
    refine o_mov rfl ?_
    refine o_quo (c := ((k / 2 : Nat) : Int)) rfl rfl (by decide) (by rcases hn with rfl | rfl | rfl | rfl <;> rfl) ?_
    refine o_add rfl rfl (by first | exact IntWalk.i64_in _ (by omega) | rfl) ?_
    rw [show 2 * roundI (sumN (backP c k j) k) 15 + ((k / 2 : Nat) : Int) = backV c k j from rfl]
    refine o_mov rfl ?_
    refine o_call (lapped_down _ _ (by omega) (by omega)) fn_88 rfl (by repeat (first | exact Take.nil | exact Take.all _ | (apply Take.cons; focus (repeat (first | exact Pick.here | apply Pick.next))))) ?_
    rintro v ho ⟨rfl, rfl⟩
    refine o_call (fix_Sat32 _) fn_61 rfl (by repeat (first | exact Take.nil | exact Take.all _ | (apply Take.cons; focus (repeat (first | exact Pick.here | apply Pick.next))))) ?_
    rintro v ho ⟨rfl, rfl⟩
    change WL _ _ _ _ _ ((44, .int .i32 (backS c k j)) :: _) _
    refine o_asg rfl ?_
    refine w_nil ?_
    refine w_seq ?_
    refine w_region rfl ?_
    refine o_mov rfl ?_
    refine o_nilc rfl ?_
    refine o_fld fld_131_0 rfl rfl ?_
    refine o_mov rfl ?_
    refine o_conv int_2 (by rw [Try.underlying21]; rfl) rfl (by first | exact IntWalk.i64_in _ (by omega) | rfl) ?_
    refine o_mov rfl ?_
    refine o_call (lapped_windowed hn rfl h1 (by omega) hj) fn_59 rfl (by repeat (first | exact Take.nil | exact Take.all _ | (apply Take.cons; focus (repeat (first | exact Pick.here | apply Pick.next))))) ?_
    rintro v ho ⟨rfl, rfl⟩
    refine o_call (fix_Sat32 _) fn_61 rfl (by repeat (first | exact Take.nil | exact Take.all _ | (apply Take.cons; focus (repeat (first | exact Pick.here | apply Pick.next))))) ?_
    rintro v ho ⟨rfl, rfl⟩
    refine o_asg rfl ?_
    refine w_nil ?_
    exact w_ret (ret1 rfl rfl) ⟨rfl, rfl⟩ (Take.sub (by repeat (first | exact Take.nil | exact Take.all _ | (apply Take.cons; focus (repeat (first | exact Pick.here | apply Pick.next))))))

theorem unl_Feed {n : Nat} (hn : n = 40 ∨ n = 60 ∨ n = 80 ∨ n = 120) {p : Nat} {T : TypeId} {wv tv : Value} {bx : Nat} {o : List Int} (hol : o.length = n) (hoi : in32 o) {H1 H2 Ac : Hp} (h1 : Ints H1 wv .i16 (winL n)) (h2 : Ints H2 tv .i16 (turnL (8 * n))) {c : List Int} {vc : Value} (hc : Ints Ac vc .i32 c) (hcl : c.length = n) (hci : in32 c) : Ctr Try.prog 37 [.pointer (some ⟨p, 0, none⟩), vc] ([[(p, .cells #[.int .i64 n, wv, tv, .slice (some ⟨bx, 0, none⟩) n n] T (0, 0))], [(bx, .cells (ints .i32 (o)) 21 (0, 0))], H1, H2, Ac]) (fun v ho => ∃ v1 H', v = .tuple #[v1, .int .i64 0] ∧ OwnI H' v1 21 .i32 (unlL o c n) ∧ ho = [H', [(p, .cells #[.int .i64 n, wv, tv, .slice (some ⟨bx, 0, none⟩) n n] T (0, 0))], [(bx, .cells (ints .i32 (ovL c n)) 21 (0, 0))], H1, H2, Ac]) := by
  refine spec_of Try.func37 rfl rfl fun w0 L => ?_
  refine w_seq ?_
  refine w_region rfl ?_
  refine o_asg rfl ?_
  refine o_asg rfl ?_
  refine w_nil ?_
  refine w_seq ?_
  refine w_block ?_
  refine w_seq ?_
  refine w_region rfl ?_
  refine o_mov rfl ?_
  refine o_pnil Try.underlying66 rfl rfl ?_
  refine o_asg rfl ?_
  refine w_nil ?_
  refine w_if_f rfl ?_
  refine w_seq ?_
  refine w_region rfl ?_
  refine o_mov rfl ?_
  refine o_lenI hc slc_43 rfl ?_
  refine o_mov rfl ?_
  refine o_nilc rfl ?_
  refine o_fld fld_131_0 rfl rfl ?_
  refine o_fld fld_115_0 rfl rfl ?_
  refine o_load lod_3 rfl (by repeat (first | exact At.here | (refine At.inA ?_; assumption) | apply At.next)) rfl ?_
  refine o_ne_f rfl rfl (by omega) ?_
  refine o_asg rfl ?_
  refine w_nil ?_
  refine w_if_f rfl ?_
  have hul := unlL_len o c n
  have hvl := ovL_len c n
  refine w_skip ?_
  refine w_inB ?_
  refine w_seq ?_
  refine w_region rfl ?_
  refine o_mov rfl ?_
  refine o_nilc rfl ?_
  refine o_fld fld_131_0 rfl rfl ?_
  refine o_fld fld_115_0 rfl rfl ?_
  refine o_load lod_3 rfl (by repeat (first | exact At.here | (refine At.inA ?_; assumption) | apply At.next)) rfl ?_
  refine o_mks slc_43 zer_21 rfl rfl (by omega) (by omega) (by omega) (by omega) (fun b1 => ?_)
  rw [Int.toNat_natCast, show madeCells _ (n * 1) = ints .i32 (List.replicate n 0) from by rw [Nat.mul_one]; exact ints_made _ _]
  refine o_asg rfl ?_
  refine w_nil ?_
  refine w_seq ?_
  refine w_seq ?_
  refine w_region rfl ?_
  refine o_mov rfl ?_
  refine o_len slc_43 rfl ?_
  refine o_mov rfl ?_
  refine w_nil ?_
  refine w_block ?_
  refine w_loop (X := Nat) (fun j => [(0, .pointer (some ⟨p, 0, none⟩)), (1, vc), (6, .slice (some ⟨b1, 0, none⟩) n n), (28, .int .i64 n), (29, .int .i64 j)]) (fun j => [[(b1, .cells (ints .i32 ((unlL o c n).take j ++ List.replicate (n - j) 0)) 21 (0, 0))], [(p, .cells #[.int .i64 n, wv, tv, .slice (some ⟨bx, 0, none⟩) n n] T (0, 0))], [(bx, .cells (ints .i32 (o)) 21 (0, 0))], H1, H2, Ac]) (fun j => j ≤ n) (fun j => n - j) 0 (by omega) (by repeat (first | exact Sub.nil _ | refine Sub.cons rfl ?_)) (Take.sub (by repeat (first | exact Take.nil | exact Take.all _ | (apply Take.cons; focus (repeat (first | exact Pick.here | apply Pick.next)))))) ?_
  intro j hj
  refine w_seq ?_
  refine w_region rfl ?_
  refine o_lt rfl rfl ?_
  refine w_nil ?_
  refine w_seq ?_
  refine w_if_d rfl (fun hjl => ?_) (fun hjl => ?_)
  · have hoj := hoi.get j
    have hbi := backI_in c n j
    refine w_skip ?_
    refine w_seq ?_
    refine w_block ?_
    refine w_seq ?_
    refine w_region rfl ?_
    refine o_mov rfl ?_
    refine o_asg rfl ?_
    refine w_nil ?_
    refine w_cut_x (X := Unit) (fun _ => [(0, .pointer (some ⟨p, 0, none⟩)), (1, vc), (6, .slice (some ⟨b1, 0, none⟩) n n), (28, .int .i64 n), (29, .int .i64 j)]) (fun _ => [[(b1, .cells (ints .i32 (((unlL o c n).take j ++ List.replicate (n - j) 0).set j ((unlL o c n).getD j 0))) 21 (0, 0))], [(p, .cells #[.int .i64 n, wv, tv, .slice (some ⟨bx, 0, none⟩) n n] T (0, 0))], [(bx, .cells (ints .i32 (o)) 21 (0, 0))], H1, H2, Ac]) (fun _ => True) ?_ ?_
    · refine w_plan (takes [0, 1, 2, 3, 4, 6, 9, 10, 11] (.alt 5 (takes [7] (.alt 8 (.alt 12 (.alt 13 (takes [14] (.alt 15 .done .stop)) .stop) .stop) (.alt 12 (takes [8] (.alt 13 (takes [14] (.alt 15 .done .stop)) .stop)) .stop))) (.alt 12 (takes [5, 7, 8] (.alt 13 (takes [14] (.alt 15 .done .stop)) .stop)) .stop))) mixed (by kernel_rfl) ?_
      refine wp_take _ _ ?_
      refine o_mov rfl ?_
      refine o_mov rfl ?_
      refine o_mov rfl ?_
      refine o_nilc rfl ?_
      refine o_fld fld_131_1 rfl rfl ?_
      refine o_mov rfl ?_
      refine o_mov rfl ?_
      refine o_mov rfl ?_
      refine o_mov rfl ?_
      refine wl_nil ?_
      refine wp_alt ?_ ?_
      · refine o_load lod_43 rfl (by repeat (first | exact At.here | (refine At.inA ?_; assumption) | apply At.next)) rfl ?_
        refine wl_nil ?_
        refine wp_take _ _ ?_
        refine o_idx slc_43 (off := j) rfl rfl ⟨by omega, by omega⟩ (by omega) ?_
        refine wl_nil ?_
        refine wp_alt ?_ ?_
        · refine o_loadI lod_21 rfl (by repeat (first | exact At.here | (refine At.inA ?_; assumption) | apply At.next)) (by omega) ?_
          refine wl_nil ?_
          refine wp_alt ?_ ?_
          · refine o_call (unl_sample hn h1 h2 hc hcl hci (j := j) (by omega)) fn_70 rfl (by repeat (first | exact Take.nil | exact Take.all _ | (apply Take.cons; focus (repeat (first | exact Pick.here | apply Pick.next))))) ?_
            rintro v ho ⟨rfl, rfl⟩
            refine wl_nil ?_
            refine wp_alt ?_ ?_
            · refine o_call (fix_Add _ _ (by omega) (by omega)) fn_69 rfl (by repeat (first | exact Take.nil | exact Take.all _ | (apply Take.cons; focus (repeat (first | exact Pick.here | apply Pick.next))))) ?_
              rintro v ho ⟨rfl, rfl⟩
              rw [show clampI (o.getD j 0 + backI c n j) (-2147483648) 2147483647 = (unlL o c n).getD j 0 by rw [unlL_get (by omega)]; rfl]
              refine wl_nil ?_
              refine wp_take _ _ ?_
              refine o_idx slc_43 (off := j) rfl rfl ⟨by omega, by omega⟩ (by omega) ?_
              refine wl_nil ?_
              refine wp_alt ?_ ?_
              · refine o_storeI siz_21 rfl rfl (by repeat (first | exact Upd.here | apply Upd.next)) (by simp [hul]; omega) ?_
                refine wl_nil ?_
                refine wp_done ?_
                exact w_again ⟨(), trivial, (by repeat (first | exact Sub.nil _ | refine Sub.cons rfl ?_)), (Take.sub (by repeat (first | exact Take.nil | exact Take.all _ | (apply Take.cons; focus (repeat (first | exact Pick.here | apply Pick.next))))))⟩
              exact wp_stop
            exact wp_stop
          exact wp_stop
        refine wp_alt ?_ ?_
        · refine o_call (unl_sample hn h1 h2 hc hcl hci (j := j) (by omega)) fn_70 rfl (by repeat (first | exact Take.nil | exact Take.all _ | (apply Take.cons; focus (repeat (first | exact Pick.here | apply Pick.next))))) ?_
          rintro v ho ⟨rfl, rfl⟩
          refine wl_nil ?_
          refine wp_take _ _ ?_
          refine o_loadI lod_21 rfl (by repeat (first | exact At.here | (refine At.inA ?_; assumption) | apply At.next)) (by omega) ?_
          refine wl_nil ?_
          refine wp_alt ?_ ?_
          · refine o_call (fix_Add _ _ (by omega) (by omega)) fn_69 rfl (by repeat (first | exact Take.nil | exact Take.all _ | (apply Take.cons; focus (repeat (first | exact Pick.here | apply Pick.next))))) ?_
            rintro v ho ⟨rfl, rfl⟩
            rw [show clampI (o.getD j 0 + backI c n j) (-2147483648) 2147483647 = (unlL o c n).getD j 0 by rw [unlL_get (by omega)]; rfl]
            refine wl_nil ?_
            refine wp_take _ _ ?_
            refine o_idx slc_43 (off := j) rfl rfl ⟨by omega, by omega⟩ (by omega) ?_
            refine wl_nil ?_
            refine wp_alt ?_ ?_
            · refine o_storeI siz_21 rfl rfl (by repeat (first | exact Upd.here | apply Upd.next)) (by simp [hul]; omega) ?_
              refine wl_nil ?_
              refine wp_done ?_
              exact w_again ⟨(), trivial, (by repeat (first | exact Sub.nil _ | refine Sub.cons rfl ?_)), (Take.sub (by repeat (first | exact Take.nil | exact Take.all _ | (apply Take.cons; focus (repeat (first | exact Pick.here | apply Pick.next))))))⟩
            exact wp_stop
          exact wp_stop
        exact wp_stop
      refine wp_alt ?_ ?_
      · refine o_call (unl_sample hn h1 h2 hc hcl hci (j := j) (by omega)) fn_70 rfl (by repeat (first | exact Take.nil | exact Take.all _ | (apply Take.cons; focus (repeat (first | exact Pick.here | apply Pick.next))))) ?_
        rintro v ho ⟨rfl, rfl⟩
        refine wl_nil ?_
        refine wp_take _ _ ?_
        refine o_load lod_43 rfl (by repeat (first | exact At.here | (refine At.inA ?_; assumption) | apply At.next)) rfl ?_
        refine o_idx slc_43 (off := j) rfl rfl ⟨by omega, by omega⟩ (by omega) ?_
        refine o_loadI lod_21 rfl (by repeat (first | exact At.here | (refine At.inA ?_; assumption) | apply At.next)) (by omega) ?_
        refine wl_nil ?_
        refine wp_alt ?_ ?_
        · refine o_call (fix_Add _ _ (by omega) (by omega)) fn_69 rfl (by repeat (first | exact Take.nil | exact Take.all _ | (apply Take.cons; focus (repeat (first | exact Pick.here | apply Pick.next))))) ?_
          rintro v ho ⟨rfl, rfl⟩
          rw [show clampI (o.getD j 0 + backI c n j) (-2147483648) 2147483647 = (unlL o c n).getD j 0 by rw [unlL_get (by omega)]; rfl]
          refine wl_nil ?_
          refine wp_take _ _ ?_
          refine o_idx slc_43 (off := j) rfl rfl ⟨by omega, by omega⟩ (by omega) ?_
          refine wl_nil ?_
          refine wp_alt ?_ ?_
          · refine o_storeI siz_21 rfl rfl (by repeat (first | exact Upd.here | apply Upd.next)) (by simp [hul]; omega) ?_
            refine wl_nil ?_
            refine wp_done ?_
            exact w_again ⟨(), trivial, (by repeat (first | exact Sub.nil _ | refine Sub.cons rfl ?_)), (Take.sub (by repeat (first | exact Take.nil | exact Take.all _ | (apply Take.cons; focus (repeat (first | exact Pick.here | apply Pick.next))))))⟩
          exact wp_stop
        exact wp_stop
      exact wp_stop
    rintro ⟨⟩ -
    rw [fill_step hul (by omega)]
    refine w_inB ?_
    refine w_region rfl ?_
    refine o_add rfl rfl (by first | exact IntWalk.i64_in _ (by omega) | rfl) ?_
    refine o_mov rfl ?_
    refine w_nil ?_
    exact w_again ⟨(j + 1), (by omega), (by omega), (by repeat (first | exact Sub.nil _ | refine Sub.cons rfl ?_)), (Take.sub (by repeat (first | exact Take.nil | exact Take.all _ | (apply Take.cons; focus (repeat (first | exact Pick.here | apply Pick.next))))))⟩
  · obtain rfl : j = n := by omega
    rw [List.take_of_length_le (Nat.le_of_eq hul), Nat.sub_self, List.replicate_zero, List.append_nil]
    have h0 : o = (ovL c j).take 0 ++ o.drop 0 := by simp
    have hOut : OwnI [(b1, .cells (ints .i32 (unlL o c j)) 21 (0, 0))] (.slice (some ⟨b1, 0, none⟩) j j) 21 .i32 (unlL o c j) := by have := OwnI.mk_ (b := b1) (el := 21) (k := .i32) (xs := unlL o c j) (by simp only [maxLen]; omega); rwa [hul] at this
    generalize unlL o c j = out at hOut hul ⊢
    rw [show ints .i32 o = ints .i32 ((ovL c j).take 0 ++ o.drop 0) from congrArg _ h0]
    refine w_exit rfl ?_
    refine w_seq ?_
    refine w_seq ?_
    refine w_region rfl ?_
    refine o_mov rfl ?_
    refine o_nilc rfl ?_
    refine o_fld fld_131_1 rfl rfl ?_
    refine o_load lod_43 rfl (by repeat (first | exact At.here | (refine At.inA ?_; assumption) | apply At.next)) rfl ?_
    refine o_len slc_43 rfl ?_
    refine o_mov rfl ?_
    refine w_nil ?_
    refine w_block ?_
    refine w_loop (X := Nat) (fun i => [(0, .pointer (some ⟨p, 0, none⟩)), (1, vc), (6, .slice (some ⟨b1, 0, none⟩) j j), (52, .int .i64 j), (53, .int .i64 i)]) (fun i => [[(b1, .cells (ints .i32 (out)) 21 (0, 0))], [(p, .cells #[.int .i64 j, wv, tv, .slice (some ⟨bx, 0, none⟩) j j] T (0, 0))], [(bx, .cells (ints .i32 ((ovL c j).take i ++ o.drop i)) 21 (0, 0))], H1, H2, Ac]) (fun i => i ≤ j) (fun i => j - i) 0 (by omega) (by repeat (first | exact Sub.nil _ | refine Sub.cons rfl ?_)) (Take.sub (by repeat (first | exact Take.nil | exact Take.all _ | (apply Take.cons; focus (repeat (first | exact Pick.here | apply Pick.next)))))) ?_
    intro i hi
    refine w_seq ?_
    refine w_region rfl ?_
    refine o_lt rfl rfl ?_
    refine w_nil ?_
    refine w_seq ?_
    refine w_if_d rfl (fun hil => ?_) (fun hil => ?_)
    · have hbi := backI_in c j (j + i)
      refine w_skip ?_
      refine w_seq ?_
      refine w_block ?_
      refine w_seq ?_
      refine w_region rfl ?_
      refine o_mov rfl ?_
      refine o_asg rfl ?_
      refine w_nil ?_
      refine w_cut_x (X := Unit) (fun _ => [(0, .pointer (some ⟨p, 0, none⟩)), (1, vc), (6, .slice (some ⟨b1, 0, none⟩) j j), (52, .int .i64 j), (53, .int .i64 i)]) (fun _ => [[(b1, .cells (ints .i32 (out)) 21 (0, 0))], [(p, .cells #[.int .i64 j, wv, tv, .slice (some ⟨bx, 0, none⟩) j j] T (0, 0))], [(bx, .cells (ints .i32 (((ovL c j).take i ++ o.drop i).set i ((ovL c j).getD i 0))) 21 (0, 0))], H1, H2, Ac]) (fun _ => True) ?_ ?_
      · refine w_plan (takes [0, 1, 2, 4, 5, 6, 7, 8, 9, 10, 11, 12, 13] (.alt 3 (.alt 14 (takes [15] (.alt 16 .done .stop)) .stop) (.alt 14 (takes [3, 15] (.alt 16 .done .stop)) .stop))) mixed (by kernel_rfl) ?_
        refine wp_take _ _ ?_
        refine o_mov rfl ?_
        refine o_nilc rfl ?_
        refine o_fld fld_131_1 rfl rfl ?_
        refine o_mov rfl ?_
        refine o_mov rfl ?_
        refine o_mov rfl ?_
        refine o_mov rfl ?_
        refine o_nilc rfl ?_
        refine o_fld fld_131_0 rfl rfl ?_
        refine o_fld fld_115_0 rfl rfl ?_
        refine o_load lod_3 rfl (by repeat (first | exact At.here | (refine At.inA ?_; assumption) | apply At.next)) rfl ?_
        refine o_mov rfl ?_
        refine o_add (c := ((j + i : Nat) : Int)) rfl rfl (by rw [show (j : Int) + i = ((j + i : Nat) : Int) by omega]; exact IntWalk.i64_in _ (by omega)) ?_
        refine wl_nil ?_
        refine wp_alt ?_ ?_
        · refine o_load lod_43 rfl (by repeat (first | exact At.here | (refine At.inA ?_; assumption) | apply At.next)) rfl ?_
          refine wl_nil ?_
          refine wp_alt ?_ ?_
          · refine o_call (unl_sample hn h1 h2 hc hcl hci (j := j + i) (by omega)) fn_70 rfl (by repeat (first | exact Take.nil | exact Take.all _ | (apply Take.cons; focus (repeat (first | exact Pick.here | apply Pick.next))))) ?_
            rintro v ho ⟨rfl, rfl⟩
            rw [← ovL_get (show i < j by omega)]
            refine wl_nil ?_
            refine wp_take _ _ ?_
            refine o_idx slc_43 (off := i) rfl rfl ⟨by omega, by omega⟩ (by omega) ?_
            refine wl_nil ?_
            refine wp_alt ?_ ?_
            · refine o_storeI siz_21 rfl rfl (by repeat (first | exact Upd.here | apply Upd.next)) (by rw [List.length_append, List.length_take, List.length_drop]; omega) ?_
              refine wl_nil ?_
              refine wp_done ?_
              exact w_again ⟨(), trivial, (by repeat (first | exact Sub.nil _ | refine Sub.cons rfl ?_)), (Take.sub (by repeat (first | exact Take.nil | exact Take.all _ | (apply Take.cons; focus (repeat (first | exact Pick.here | apply Pick.next))))))⟩
            exact wp_stop
          exact wp_stop
        refine wp_alt ?_ ?_
        · refine o_call (unl_sample hn h1 h2 hc hcl hci (j := j + i) (by omega)) fn_70 rfl (by repeat (first | exact Take.nil | exact Take.all _ | (apply Take.cons; focus (repeat (first | exact Pick.here | apply Pick.next))))) ?_
          rintro v ho ⟨rfl, rfl⟩
          rw [← ovL_get (show i < j by omega)]
          refine wl_nil ?_
          refine wp_take _ _ ?_
          refine o_load lod_43 rfl (by repeat (first | exact At.here | (refine At.inA ?_; assumption) | apply At.next)) rfl ?_
          refine o_idx slc_43 (off := i) rfl rfl ⟨by omega, by omega⟩ (by omega) ?_
          refine wl_nil ?_
          refine wp_alt ?_ ?_
          · refine o_storeI siz_21 rfl rfl (by repeat (first | exact Upd.here | apply Upd.next)) (by rw [List.length_append, List.length_take, List.length_drop]; omega) ?_
            refine wl_nil ?_
            refine wp_done ?_
            exact w_again ⟨(), trivial, (by repeat (first | exact Sub.nil _ | refine Sub.cons rfl ?_)), (Take.sub (by repeat (first | exact Take.nil | exact Take.all _ | (apply Take.cons; focus (repeat (first | exact Pick.here | apply Pick.next))))))⟩
          exact wp_stop
        exact wp_stop
      rintro ⟨⟩ -
      rw [over_step (by omega) (by omega)]
      refine w_inB ?_
      refine w_region rfl ?_
      refine o_add rfl rfl (by first | exact IntWalk.i64_in _ (by omega) | rfl) ?_
      refine o_mov rfl ?_
      refine w_nil ?_
      exact w_again ⟨(i + 1), (by omega), (by omega), (by repeat (first | exact Sub.nil _ | refine Sub.cons rfl ?_)), (Take.sub (by repeat (first | exact Take.nil | exact Take.all _ | (apply Take.cons; focus (repeat (first | exact Pick.here | apply Pick.next))))))⟩
    · obtain rfl : i = j := by omega
      rw [List.take_of_length_le (Nat.le_of_eq hvl), List.drop_of_length_le (by omega), List.append_nil]
      refine w_exit rfl ?_
      refine w_seq ?_
      refine w_region rfl ?_
      refine o_mov rfl ?_
      refine o_asg rfl ?_
      refine o_asg rfl ?_
      refine w_nil ?_
      exact w_ret (ret2 rfl rfl rfl) ⟨_, _, rfl, hOut, rfl⟩ (Take.sub (by repeat (first | exact Take.nil | exact Take.all _ | (apply Take.cons; focus (repeat (first | exact Pick.here | apply Pick.next))))))

theorem LappedUnlaps_ctr (a : Int) (ha : 0 ≤ a ∧ a ≤ 255) {v : Value} {xs : List Int} {A : Hp} (hx : Ints A v .i32 xs) (hwf : ∀ a ∈ xs, (Lit.int .i32 a).wf = true) : Ctr Try.prog 10 [.int .u8 a, v] ([A]) (fun v ho => v = .bool true ∧ ho = [A]) := by
  refine spec_of Try.func10 rfl rfl fun w0 L => ?_
  refine w_seq ?_
  refine w_region rfl ?_
  refine o_asg rfl ?_
  refine w_nil ?_
  refine w_seq ?_
  refine w_seq ?_
  refine w_region rfl ?_
  refine o_call (alive09) fn_27 rfl (by repeat (first | exact Take.nil | exact Take.all _ | (apply Take.cons; focus (repeat (first | exact Pick.here | apply Pick.next))))) ?_
  rintro v ho ⟨rfl, rfl⟩
  refine o_not rfl ?_
  refine w_nil ?_
  refine w_if_f rfl ?_
  have hxi : in32 xs := fun a ha => wf_i32 (hwf a ha)
  refine w_skip ?_
  refine w_seq ?_
  refine w_region rfl ?_
  refine o_mov rfl ?_
  refine o_call (law_length a ha) fn_28 rfl (by repeat (first | exact Take.nil | exact Take.all _ | (apply Take.cons; focus (repeat (first | exact Pick.here | apply Pick.next))))) ?_
  rintro v ho ⟨n, rfl, hn, rfl⟩
  refine o_asg rfl ?_
  refine w_nil ?_
  refine w_emp ?_
  refine w_seq ?_
  refine w_region rfl ?_
  refine o_call (bank_New) fn_12 rfl (by repeat (first | exact Take.nil | exact Take.all _ | (apply Take.cons; focus (repeat (first | exact Pick.here | apply Pick.next))))) ?_
  rintro v ho ⟨b, rfl, rfl⟩
  refine o_mov rfl ?_
  refine o_call (lapped_NewUnlapper (T := 98) (n := n) BankRep.new (by omega) (by omega) hn) fn_34 rfl (by repeat (first | exact Take.nil | exact Take.all _ | (apply Take.cons; focus (repeat (first | exact Pick.here | apply Pick.next))))) ?_
  rintro v ho ⟨p, bx, wv, tv, H1, H2, ar1, Tb1, s1, m1, t1, rfl, hO1, hO2, hB1, -, -, -, -, rfl⟩
  refine o_mov rfl ?_
  refine o_ext rfl rfl ?_
  refine o_ext rfl rfl ?_
  refine o_asg rfl ?_
  refine o_asg rfl ?_
  refine w_nil ?_
  refine w_seq ?_
  refine w_seq ?_
  refine w_region rfl ?_
  refine o_mov rfl ?_
  refine o_ne_f rfl rfl (by omega) ?_
  refine o_mov rfl ?_
  refine o_yes rfl rfl ?_
  refine o_mov rfl ?_
  refine o_yes rfl rfl ?_
  refine o_lenI hx slc_43 rfl ?_
  refine o_yes rfl rfl ?_
  refine o_gt_s rfl rfl (fun hlen => ?_) (fun hlen => ?_)
  · refine o_pick_f rfl rfl ?_
    refine w_nil ?_
    refine w_if_t rfl ?_
    refine w_seq ?_
    refine w_region rfl ?_
    refine o_mov rfl ?_
    refine o_eq_t rfl rfl (by omega) ?_
    refine o_asg rfl ?_
    refine w_nil ?_
    exact w_ret (ret1 rfl rfl) ⟨rfl, rfl⟩ (Take.sub (by repeat (first | exact Take.nil | exact Take.all _ | (apply Take.cons; focus (repeat (first | exact Pick.here | apply Pick.next))))))
  · refine o_pick_f rfl rfl ?_
    refine w_nil ?_
    refine w_if_f rfl ?_
    refine w_emp ?_
    refine w_skip ?_
    refine w_seq ?_
    refine w_region rfl ?_
    refine o_asg rfl ?_
    refine w_nil ?_
    refine w_seq ?_
    refine w_seq ?_
    refine w_region rfl ?_
    refine o_asg rfl ?_
    refine w_nil ?_
    refine w_block ?_
    refine w_loop (X := Nat × List Int × List Int × Value × Hp) (fun y => [(1, v), (5, .int .i64 n), (6, .pointer (some ⟨p, 0, none⟩)), (8, y.2.2.2.1), (9, .int .i64 y.1)]) (fun y => [[(p, .cells #[.int .i64 n, wv, tv, .slice (some ⟨bx, 0, none⟩) n n] 131 (0, 0))], [(bx, .cells (ints .i32 (y.2.1)) 21 (0, 0))], H1, H2, y.2.2.2.2, A]) (fun y => y.1 ≤ xs.length + n ∧ y.2.1.length = n ∧ in32 y.2.1 ∧ (y.2.2.1.length = 0 ∨ y.2.2.1.length = 2 * n) ∧ (∀ j, j < n → y.2.1.getD j 0 = if 0 < y.2.2.1.length then y.2.2.1.getD (n + j) 0 else 0) ∧ OwnI y.2.2.2.2 y.2.2.2.1 2 .i64 y.2.2.1) (fun y => xs.length + n - y.1) (0, List.replicate n 0, [], .slice none 0 0, []) ⟨by simp, by simp, in32_rep _, by simp, fun j hj => by simpa using getD_rep n j, OwnI.nil _ _⟩ (by repeat (first | exact Sub.nil _ | refine Sub.cons rfl ?_)) (Take.sub (by repeat (first | exact Take.nil | exact Take.all _ | (apply Take.cons; focus (repeat (first | exact Pick.here | apply Pick.next)))))) ?_
    rintro ⟨at_, o, old, vo, Ho⟩ ⟨hat, hol, hoi, hold, hrel, hP⟩
    refine w_seq ?_
    refine w_seq ?_
    refine w_region rfl ?_
    refine o_mov rfl ?_
    refine o_mov rfl ?_
    refine o_lenI hx slc_43 rfl ?_
    refine o_lt rfl rfl ?_
    refine w_nil ?_
    refine w_if_d rfl (fun hl => ?_) (fun hl => ?_)
    · simp only at hat hol hoi hold hrel hP hl ⊢
      have hpl := padL_len xs at_ n
      have hpdi := padL_in32 hxi at_ n
      refine w_skip ?_
      refine w_seq ?_
      refine w_block ?_
      refine w_seq ?_
      refine w_region rfl ?_
      refine o_mov rfl ?_
      refine o_mks slc_43 zer_21 rfl rfl (by omega) (by omega) (by omega) (by omega) (fun b5 => ?_)
      rw [Int.toNat_natCast, show madeCells _ (n * 1) = ints .i32 (List.replicate n 0) from by rw [Nat.mul_one]; exact ints_made _ _]
      refine o_asg rfl ?_
      refine w_nil ?_
      refine w_seq ?_
      refine w_seq ?_
      refine w_region rfl ?_
      refine o_asg rfl ?_
      refine w_nil ?_
      refine w_block ?_
      refine w_loop (X := Nat) (fun i => [(1, v), (5, .int .i64 n), (6, .pointer (some ⟨p, 0, none⟩)), (8, vo), (9, .int .i64 at_), (10, .slice (some ⟨b5, 0, none⟩) n n), (11, .int .i64 i)]) (fun i => [[(b5, .cells (ints .i32 ((padL xs at_ n).take i ++ List.replicate (n - i) 0)) 21 (0, 0))], [(p, .cells #[.int .i64 n, wv, tv, .slice (some ⟨bx, 0, none⟩) n n] 131 (0, 0))], [(bx, .cells (ints .i32 (o)) 21 (0, 0))], H1, H2, Ho, A]) (fun i => i ≤ n) (fun i => n - i) 0 (by omega) (by repeat (first | exact Sub.nil _ | refine Sub.cons rfl ?_)) (Take.sub (by repeat (first | exact Take.nil | exact Take.all _ | (apply Take.cons; focus (repeat (first | exact Pick.here | apply Pick.next)))))) ?_
      intro i hi
      refine w_seq ?_
      refine w_seq ?_
      refine w_cut_x (X := Bool) (fun y => [(1, v), (5, .int .i64 n), (6, .pointer (some ⟨p, 0, none⟩)), (8, vo), (9, .int .i64 at_), (10, .slice (some ⟨b5, 0, none⟩) n n), (11, .int .i64 i), (52, .bool y)]) (fun _ => [[(b5, .cells (ints .i32 ((padL xs at_ n).take i ++ List.replicate (n - i) 0)) 21 (0, 0))], [(p, .cells #[.int .i64 n, wv, tv, .slice (some ⟨bx, 0, none⟩) n n] 131 (0, 0))], [(bx, .cells (ints .i32 (o)) 21 (0, 0))], H1, H2, Ho, A]) (fun y => y = decide (i < n ∧ at_ + i < xs.length)) ?_ ?_
      · refine w_region rfl ?_
        refine o_mov rfl ?_
        refine o_mov rfl ?_
        refine o_lt_s rfl rfl (fun h1 => ?_) (fun h1 => ?_)
        · refine o_mov rfl ?_
          refine o_yes rfl rfl ?_
          refine o_mov rfl ?_
          refine o_yes rfl rfl ?_
          refine o_mov rfl ?_
          refine o_yes rfl rfl ?_
          refine o_add rfl rfl (by first | exact IntWalk.i64_in _ (by omega) | rfl) ?_
          refine o_yes rfl rfl ?_
          refine o_mov rfl ?_
          refine o_yes rfl rfl ?_
          refine o_lenI hx slc_43 rfl ?_
          refine o_yes rfl rfl ?_
          refine o_lt_s rfl rfl (fun h2 => ?_) (fun h2 => ?_)
          · refine o_pick_t rfl rfl ?_
            refine w_nil ?_
            exact w_again ⟨true, (decide_eq_true ⟨by omega, by omega⟩).symm, (by repeat (first | exact Sub.nil _ | refine Sub.cons rfl ?_)), (Take.sub (by repeat (first | exact Take.nil | exact Take.all _ | (apply Take.cons; focus (repeat (first | exact Pick.here | apply Pick.next))))))⟩
          · refine o_pick_t rfl rfl ?_
            refine w_nil ?_
            exact w_again ⟨false, (decide_eq_false (fun h => by omega)).symm, (by repeat (first | exact Sub.nil _ | refine Sub.cons rfl ?_)), (Take.sub (by repeat (first | exact Take.nil | exact Take.all _ | (apply Take.cons; focus (repeat (first | exact Pick.here | apply Pick.next))))))⟩
        · refine o_mov rfl ?_
          refine o_no rfl rfl rfl ?_
          refine o_no rfl rfl rfl ?_
          refine o_no rfl rfl rfl ?_
          refine o_no rfl rfl rfl ?_
          refine o_no rfl rfl rfl ?_
          refine o_no rfl rfl rfl ?_
          refine o_pick_f rfl rfl ?_
          refine w_nil ?_
          exact w_again ⟨false, (decide_eq_false (fun h => by omega)).symm, (by repeat (first | exact Sub.nil _ | refine Sub.cons rfl ?_)), (Take.sub (by repeat (first | exact Take.nil | exact Take.all _ | (apply Take.cons; focus (repeat (first | exact Pick.here | apply Pick.next))))))⟩
      intro y hy
      subst hy
      refine w_if_d rfl (fun hil => ?_) (fun hil => ?_)
      · refine w_skip ?_
        refine w_seq ?_
        refine w_block ?_
        refine w_region rfl ?_
        refine o_mov rfl ?_
        refine o_mov rfl ?_
        refine o_mov rfl ?_
        refine o_mov rfl ?_
        refine o_mov rfl ?_
        refine o_add rfl rfl (by first | exact IntWalk.i64_in _ (by omega) | rfl) ?_
        refine o_idxI hx (by repeat (first | exact Has.here | apply Has.next)) slc_43 rfl rfl ⟨by omega, by omega⟩ (fun bb1 ff1 ar1 TT1 fr1 hm1 hg1 => ?_)
        rw [show ((at_ : Int) + i).toNat = at_ + i by omega, ← padL_get (n := n) (show i < n by omega)] at hg1
        refine o_load lod_21 rfl hm1 hg1 ?_
        refine o_idx slc_43 (off := i) rfl rfl ⟨by omega, by omega⟩ (by omega) ?_
        refine o_storeI siz_21 rfl rfl (by repeat (first | exact Upd.here | apply Upd.next)) (by simp [hpl]; omega) ?_
        refine w_nil ?_
        refine w_inB ?_
        refine w_region rfl ?_
        rw [fill_step hpl (by omega)]
        refine o_mov rfl ?_
        refine o_add rfl rfl (by first | exact IntWalk.i64_in _ (by omega) | rfl) ?_
        refine o_asg rfl ?_
        refine w_nil ?_
        exact w_again ⟨(i + 1), (by omega), (by omega), (by repeat (first | exact Sub.nil _ | refine Sub.cons rfl ?_)), (Take.sub (by repeat (first | exact Take.nil | exact Take.all _ | (apply Take.cons; focus (repeat (first | exact Pick.here | apply Pick.next))))))⟩
      · rw [padL_end hi hil]
        have hX : OwnI [(b5, .cells (ints .i32 (padL xs at_ n)) 21 (0, 0))] (.slice (some ⟨b5, 0, none⟩) n n) 21 .i32 (padL xs at_ n) := by have := OwnI.mk_ (b := b5) (el := 21) (k := .i32) (xs := padL xs at_ n) (by simp only [maxLen]; omega); rwa [hpl] at this
        generalize padL xs at_ n = c at *
        refine w_exit rfl ?_
        refine w_seq ?_
        refine w_region rfl ?_
        refine o_mov rfl ?_
        refine o_mov rfl ?_
        refine o_call (unl_Feed (T := 131) hn hol hoi hO1.ints hO2.ints hX.ints hpl hpdi) fn_37 rfl (by repeat (first | exact Take.nil | exact Take.all _ | (apply Take.cons; focus (repeat (first | exact Pick.here | apply Pick.next))))) ?_
        rintro v ho ⟨v1, H', rfl, hO3, rfl⟩
        refine o_mov rfl ?_
        refine o_ext rfl rfl ?_
        refine o_ext rfl rfl ?_
        refine o_asg rfl ?_
        refine o_asg rfl ?_
        refine w_nil ?_
        refine w_seq ?_
        refine w_seq ?_
        refine w_region rfl ?_
        refine o_mov rfl ?_
        refine o_ne_f rfl rfl (by omega) ?_
        refine o_mov rfl ?_
        refine o_yes rfl rfl ?_
        refine o_mov rfl ?_
        refine o_yes rfl rfl ?_
        refine o_mov rfl ?_
        refine o_yes rfl rfl ?_
        refine o_mov rfl ?_
        refine o_yes rfl rfl ?_
        refine o_mov rfl ?_
        refine o_yes rfl rfl ?_
        refine o_call (ref_Unlap hn hP.ints hold hrel hoi hX.ints hpl hpdi) fn_38 rfl (by repeat (first | exact Take.nil | exact Take.all _ | (apply Take.cons; focus (repeat (first | exact Pick.here | apply Pick.next))))) ?_
        rintro v ho ⟨H4, hO4, rfl⟩
        refine o_yes rfl rfl ?_
        refine o_call (same_i32 hO3.ints hO4.ints) fn_21 rfl (by repeat (first | exact Take.nil | exact Take.all _ | (apply Take.cons; focus (repeat (first | exact Pick.here | apply Pick.next))))) ?_
        rintro v ho ⟨rfl, rfl⟩
        rw [decide_eq_true rfl]
        refine o_yes rfl rfl ?_
        refine o_not rfl ?_
        refine o_pick_f rfl rfl ?_
        refine w_nil ?_
        refine w_if_f rfl ?_
        refine w_skip ?_
        refine w_region rfl ?_
        refine o_mov rfl ?_
        refine o_mov rfl ?_
        refine o_call (ref_Back hn hX.ints hpl hpdi) fn_39 rfl (by repeat (first | exact Take.nil | exact Take.all _ | (apply Take.cons; focus (repeat (first | exact Pick.here | apply Pick.next))))) ?_
        rintro vb ho ⟨H5, hO5, rfl⟩
        refine o_asg rfl ?_
        refine w_nil ?_
        refine w_inB ?_
        refine w_region rfl ?_
        refine o_mov rfl ?_
        refine o_mov rfl ?_
        refine o_add rfl rfl (by first | exact IntWalk.i64_in _ (by omega) | rfl) ?_
        refine o_asg rfl ?_
        refine w_nil ?_
        exact w_again ⟨(at_ + n, ovL c n, backL c n, vb, H5), ⟨by simp only; omega, ovL_len _ _, ovL_in _ _, .inr (backL_len _ _), fun j hj => by simp only; rw [backL_len, if_pos (by omega), ovL_get hj, backL_get (by omega)], hO5⟩, (by simp only; omega), (by repeat (first | exact Sub.nil _ | refine Sub.cons rfl ?_)), (Take.sub (by repeat (first | exact Take.nil | exact Take.all _ | (apply Take.cons; focus (repeat (first | exact Pick.here | apply Pick.next))))))⟩
    · refine w_exit rfl ?_
      refine w_seq ?_
      refine w_region rfl ?_
      refine o_asg rfl ?_
      refine w_nil ?_
      exact w_ret (ret1 rfl rfl) ⟨rfl, rfl⟩ (Take.sub (by repeat (first | exact Take.nil | exact Take.all _ | (apply Take.cons; focus (repeat (first | exact Pick.here | apply Pick.next))))))

end Go.Proofs.Ytjmnidcfgkdhcaa
