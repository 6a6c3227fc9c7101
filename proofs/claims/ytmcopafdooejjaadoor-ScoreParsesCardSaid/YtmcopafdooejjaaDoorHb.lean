/- Contracts: numbers of texts, words of a line, by the document and by the program. No condition but on the lengths. -/
import Derived.Test.YtmcopafdooejjaaDoorTy
import Derived.Test.YtmcopafdooejjaaDoorHa
namespace Go.Proofs.YtmcopafdooejjaaDoor
open Go.Eng
set_option linter.unusedVariables false
set_option linter.unusedSimpArgs false
set_option maxRecDepth 20000
attribute [local irreducible] WL WT
theorem ref_Number (w : List UInt8) (most : Int) (hl : w.length ≤ 1000000) : Ctr Tryd.prog 23 [str w, .int .i64 most] ([]) (fun v ho => v = .tuple #[.int .i64 ((numP w most).getD 0), .bool (numP w most).isSome] ∧ ho = []) := by
  refine spec_of Tryd.func23 rfl rfl fun w0 L => ?_
  refine w_seq ?_
  refine w_region rfl ?_
  refine o_asg rfl ?_
  refine o_asg rfl ?_
  refine w_nil ?_
  refine w_seq ?_
  refine w_seq ?_
  refine w_cut_x (X := Bool) (fun y => [(0, str w), (1, .int .i64 most), (25, .bool y)]) (fun _ => []) (fun y => y = decide (¬ ((1 ≤ w.length ∧ w.length ≤ 10) ∧ (w.length ≤ 1 ∨ (w.getD 0 0).toNat ≠ 48)))) ?_ ?_
  · refine w_region rfl ?_
    refine o_mov rfl ?_
    refine o_lenT Tryd.underlying9 rfl ?_
    refine o_lt_s rfl rfl (fun h1_2 => ?_) (fun h1_2 => ?_)
    · refine o_mov rfl ?_
      refine o_no rfl rfl rfl ?_
      refine o_no rfl rfl rfl ?_
      refine o_no rfl rfl rfl ?_
      refine o_pick_t rfl rfl ?_
      refine o_mov rfl ?_
      refine o_no rfl rfl rfl ?_
      refine o_no rfl rfl rfl ?_
      refine o_no rfl rfl rfl ?_
      refine o_no rfl rfl rfl ?_
      refine o_skip rfl rfl ?_
      refine o_skip rfl rfl ?_
      refine o_skip rfl rfl ?_
      refine o_no rfl rfl rfl ?_
      refine o_pick_t rfl rfl ?_
      refine w_nil ?_
      exact w_again ⟨true, (decide_eq_true (by (try simp only [z0] at *); omega)).symm, (by repeat (first | exact Sub.nil _ | refine Sub.cons rfl ?_)), (Take.sub (by repeat (first | exact Take.nil | exact Take.all _ | (apply Take.cons; focus (repeat (first | exact Pick.here | apply Pick.next))))))⟩
    · refine o_mov rfl ?_
      refine o_yes rfl rfl ?_
      refine o_mov rfl ?_
      refine o_yes rfl rfl ?_
      refine o_lenT Tryd.underlying9 rfl ?_
      refine o_yes rfl rfl ?_
      refine o_gt_s rfl rfl (fun h1_6 => ?_) (fun h1_6 => ?_)
      · refine o_pick_f rfl rfl ?_
        refine o_mov rfl ?_
        refine o_no rfl rfl rfl ?_
        refine o_no rfl rfl rfl ?_
        refine o_no rfl rfl rfl ?_
        refine o_no rfl rfl rfl ?_
        refine o_skip rfl rfl ?_
        refine o_skip rfl rfl ?_
        refine o_skip rfl rfl ?_
        refine o_no rfl rfl rfl ?_
        refine o_pick_t rfl rfl ?_
        refine w_nil ?_
        exact w_again ⟨true, (decide_eq_true (by (try simp only [z0] at *); omega)).symm, (by repeat (first | exact Sub.nil _ | refine Sub.cons rfl ?_)), (Take.sub (by repeat (first | exact Take.nil | exact Take.all _ | (apply Take.cons; focus (repeat (first | exact Pick.here | apply Pick.next))))))⟩
      · refine o_pick_f rfl rfl ?_
        refine o_mov rfl ?_
        refine o_yes rfl rfl ?_
        refine o_mov rfl ?_
        refine o_yes rfl rfl ?_
        refine o_lenT Tryd.underlying9 rfl ?_
        refine o_yes rfl rfl ?_
        refine o_gt_s rfl rfl (fun h1_11 => ?_) (fun h1_11 => ?_)
        · refine o_yes rfl rfl ?_
          refine o_mov rfl ?_
          refine o_yes rfl rfl ?_
          refine o_mov rfl ?_
          refine o_yes rfl rfl ?_
          refine o_idxT Tryd.underlying9 rfl rfl ⟨by omega, by omega⟩ ?_
          refine o_yes rfl rfl ?_
          refine o_eq_s rfl rfl (fun h1_15 => ?_) (fun h1_15 => ?_)
          · refine o_yes rfl rfl ?_
            refine o_pick_t rfl rfl ?_
            refine o_pick_f rfl rfl ?_
            refine w_nil ?_
            exact w_again ⟨true, (decide_eq_true (by (try simp only [z0] at *); omega)).symm, (by repeat (first | exact Sub.nil _ | refine Sub.cons rfl ?_)), (Take.sub (by repeat (first | exact Take.nil | exact Take.all _ | (apply Take.cons; focus (repeat (first | exact Pick.here | apply Pick.next))))))⟩
          · refine o_yes rfl rfl ?_
            refine o_pick_t rfl rfl ?_
            refine o_pick_f rfl rfl ?_
            refine w_nil ?_
            exact w_again ⟨false, (decide_eq_false (by (try simp only [z0] at *); omega)).symm, (by repeat (first | exact Sub.nil _ | refine Sub.cons rfl ?_)), (Take.sub (by repeat (first | exact Take.nil | exact Take.all _ | (apply Take.cons; focus (repeat (first | exact Pick.here | apply Pick.next))))))⟩
        · refine o_yes rfl rfl ?_
          refine o_mov rfl ?_
          refine o_no rfl rfl rfl ?_
          refine o_no rfl rfl rfl ?_
          refine o_no rfl rfl rfl ?_
          refine o_yes rfl rfl ?_
          refine o_pick_f rfl rfl ?_
          refine o_pick_f rfl rfl ?_
          refine w_nil ?_
          exact w_again ⟨false, (decide_eq_false (by (try simp only [z0] at *); omega)).symm, (by repeat (first | exact Sub.nil _ | refine Sub.cons rfl ?_)), (Take.sub (by repeat (first | exact Take.nil | exact Take.all _ | (apply Take.cons; focus (repeat (first | exact Pick.here | apply Pick.next))))))⟩
  intro y hy
  subst hy
  refine w_if_d rfl (fun hbad => ?_) (fun hbad => ?_)
  · have hn := numP_none most (fun h : numOk w => hbad ⟨⟨h.1, h.2.1⟩, h.2.2.1⟩)
    refine w_seq ?_
    refine w_region rfl ?_
    refine o_asg rfl ?_
    refine o_asg rfl ?_
    refine w_nil ?_
    exact w_ret (ret2 rfl rfl rfl) ⟨by rw [hn]; rfl, rfl⟩ (Take.sub (by repeat (first | exact Take.nil | exact Take.all _ | (apply Take.cons; focus (repeat (first | exact Pick.here | apply Pick.next))))))
  · have hok := Decidable.not_not.1 hbad
    refine w_skip ?_
    refine w_seq ?_
    refine w_region rfl ?_
    refine o_asg rfl ?_
    refine w_nil ?_
    refine w_seq ?_
    refine w_seq ?_
    refine w_region rfl ?_
    refine o_asg rfl ?_
    refine w_nil ?_
    refine w_block ?_
    refine w_loop (X := Nat) (fun i => [(0, str w), (1, .int .i64 most), (6, .int .i64 (numV (w.take i))), (7, .int .i64 i)]) (fun _ => []) (fun i => i ≤ w.length ∧ digs (w.take i)) (fun i => w.length - i) 0 ⟨by omega, fun b hb => by simp at hb⟩ (by repeat (first | exact Sub.nil _ | refine Sub.cons rfl ?_)) (Take.sub (by repeat (first | exact Take.nil | exact Take.all _ | (apply Take.cons; focus (repeat (first | exact Pick.here | apply Pick.next)))))) ?_
    rintro i ⟨hi, hd⟩
    refine w_seq ?_
    refine w_seq ?_
    refine w_region rfl ?_
    refine o_mov rfl ?_
    refine o_mov rfl ?_
    refine o_lenT Tryd.underlying9 rfl ?_
    refine o_lt rfl rfl ?_
    refine w_nil ?_
    refine w_if_d rfl (fun hlt => ?_) (fun hlt => ?_)
    · have hlt2 : i < w.length := by omega
      have hvi := numV_in10 hi hd (by omega)
      have hb8 := u8_lt (w.getD i 0)
      refine w_skip ?_
      refine w_seq ?_
      refine w_block ?_
      refine w_seq ?_
      refine w_seq ?_
      refine w_cut_x (X := Bool) (fun y => [(0, str w), (1, .int .i64 most), (6, .int .i64 (numV (w.take i))), (7, .int .i64 i), (41, .bool y)]) (fun _ => []) (fun y => y = decide (¬ (48 ≤ (w.getD i 0).toNat ∧ (w.getD i 0).toNat ≤ 57))) ?_ ?_
      · refine w_region rfl ?_
        refine o_mov rfl ?_
        refine o_mov rfl ?_
        refine o_idxT Tryd.underlying9 rfl rfl ⟨by omega, by omega⟩ ?_
        refine o_lt_s rfl rfl (fun h7_3 => ?_) (fun h7_3 => ?_)
        · refine o_mov rfl ?_
          refine o_no rfl rfl rfl ?_
          refine o_no rfl rfl rfl ?_
          refine o_no rfl rfl rfl ?_
          refine o_no rfl rfl rfl ?_
          refine o_pick_t rfl rfl ?_
          refine w_nil ?_
          exact w_again ⟨true, (decide_eq_true (by (try simp only [Int.toNat_natCast] at *); omega)).symm, (by repeat (first | exact Sub.nil _ | refine Sub.cons rfl ?_)), (Take.sub (by repeat (first | exact Take.nil | exact Take.all _ | (apply Take.cons; focus (repeat (first | exact Pick.here | apply Pick.next))))))⟩
        · refine o_mov rfl ?_
          refine o_yes rfl rfl ?_
          refine o_mov rfl ?_
          refine o_yes rfl rfl ?_
          refine o_mov rfl ?_
          refine o_yes rfl rfl ?_
          refine o_idxT Tryd.underlying9 rfl rfl ⟨by omega, by omega⟩ ?_
          refine o_yes rfl rfl ?_
          refine o_gt_s rfl rfl (fun h7_8 => ?_) (fun h7_8 => ?_)
          · refine o_pick_f rfl rfl ?_
            refine w_nil ?_
            exact w_again ⟨true, (decide_eq_true (by (try simp only [Int.toNat_natCast] at *); omega)).symm, (by repeat (first | exact Sub.nil _ | refine Sub.cons rfl ?_)), (Take.sub (by repeat (first | exact Take.nil | exact Take.all _ | (apply Take.cons; focus (repeat (first | exact Pick.here | apply Pick.next))))))⟩
          · refine o_pick_f rfl rfl ?_
            refine w_nil ?_
            exact w_again ⟨false, (decide_eq_false (by (try simp only [Int.toNat_natCast] at *); omega)).symm, (by repeat (first | exact Sub.nil _ | refine Sub.cons rfl ?_)), (Take.sub (by repeat (first | exact Take.nil | exact Take.all _ | (apply Take.cons; focus (repeat (first | exact Pick.here | apply Pick.next))))))⟩
      intro y hy
      subst hy
      refine w_if_d rfl (fun hnd => ?_) (fun hnd => ?_)
      · have hn := numP_none most (fun h : numOk w => digs_not hlt2 hnd h.2.2.2)
        refine w_seq ?_
        refine w_region rfl ?_
        refine o_asg rfl ?_
        refine o_asg rfl ?_
        refine w_nil ?_
        exact w_ret (ret2 rfl rfl rfl) ⟨by rw [hn]; rfl, rfl⟩ (Take.sub (by repeat (first | exact Take.nil | exact Take.all _ | (apply Take.cons; focus (repeat (first | exact Pick.here | apply Pick.next))))))
      · have hdg := Decidable.not_not.1 hnd
        refine w_skip ?_
        refine w_region rfl ?_
        refine o_mov rfl ?_
        refine o_mul rfl rfl (by first | exact IntWalk.i64_in _ (by omega) | rfl) ?_
        refine o_mov rfl ?_
        refine o_mov rfl ?_
        refine o_idxT Tryd.underlying9 rfl rfl ⟨by omega, by omega⟩ ?_
        rw [Int.toNat_natCast]
        refine o_conv int_2 (by rw [Tryd.underlying5]; rfl) rfl (by first | exact IntWalk.i64_in _ (by omega) | rfl) ?_
        refine o_add rfl rfl (by first | exact IntWalk.i64_in _ (by omega) | rfl) ?_
        refine o_sub rfl rfl (by first | exact IntWalk.i64_in _ (by omega) | rfl) ?_
        rw [show numV (w.take i) * 10 + ((w.getD i 0).toNat : Int) - 48 = numV (w.take (i + 1)) by rw [numV_step hlt2]; omega]
        refine o_asg rfl ?_
        refine w_nil ?_
        refine w_inB ?_
        refine w_region rfl ?_
        refine o_mov rfl ?_
        refine o_add rfl rfl (by first | exact IntWalk.i64_in _ (by omega) | rfl) ?_
        refine o_asg rfl ?_
        refine w_nil ?_
        exact w_again ⟨(i + 1), ⟨by omega, digs_step hlt2 hd hdg⟩, (by omega), (by repeat (first | exact Sub.nil _ | refine Sub.cons rfl ?_)), (Take.sub (by repeat (first | exact Take.nil | exact Take.all _ | (apply Take.cons; focus (repeat (first | exact Pick.here | apply Pick.next))))))⟩
    · obtain rfl : i = w.length := by omega
      rw [List.take_length] at hd ⊢
      refine w_exit rfl ?_
      refine w_seq ?_
      refine w_seq ?_
      refine w_region rfl ?_
      refine o_mov rfl ?_
      refine o_mov rfl ?_
      refine o_gt rfl rfl ?_
      refine w_nil ?_
      refine w_if_d rfl (fun hbig => ?_) (fun hbig => ?_)
      · have hn := numP_big (w := w) (m := most) (by omega)
        refine w_seq ?_
        refine w_region rfl ?_
        refine o_asg rfl ?_
        refine o_asg rfl ?_
        refine w_nil ?_
        exact w_ret (ret2 rfl rfl rfl) ⟨by rw [hn]; rfl, rfl⟩ (Take.sub (by repeat (first | exact Take.nil | exact Take.all _ | (apply Take.cons; focus (repeat (first | exact Pick.here | apply Pick.next))))))
      · have hn := numP_some (w := w) (m := most) ⟨hok.1.1, hok.1.2, hok.2, hd⟩ (by omega)
        refine w_skip ?_
        refine w_seq ?_
        refine w_region rfl ?_
        refine o_mov rfl ?_
        refine o_asg rfl ?_
        refine o_asg rfl ?_
        refine w_nil ?_
        exact w_ret (ret2 rfl rfl rfl) ⟨by rw [hn]; rfl, rfl⟩ (Take.sub (by repeat (first | exact Take.nil | exact Take.all _ | (apply Take.cons; focus (repeat (first | exact Pick.here | apply Pick.next))))))

theorem ref_numbers {vw vm : Value} {W : List (List UInt8)} {M : List Int} {Aw Am : Hp} (hw : RW Aw vw W) (hm : Ints Am vm .i64 M) (hwl : ∀ i, i < W.length → (W.getD i []).length ≤ 1000000) (hM : M.length ≤ 1000) : Ctr Tryd.prog 24 [vw, vm] ([Aw, Am]) (fun v ho => ∃ v1 H, v = .tuple #[v1, .bool (decide (numsOk W M))] ∧ (numsOk W M → OwnI H v1 2 .i64 (numsL W M)) ∧ ho = [H, Aw, Am]) := by
  refine spec_of Tryd.func24 rfl rfl fun w0 L => ?_
  unfold RW at hw
  refine w_seq ?_
  refine w_region rfl ?_
  refine o_asg rfl ?_
  refine o_asg rfl ?_
  refine w_nil ?_
  refine w_seq ?_
  refine w_seq ?_
  refine w_region rfl ?_
  refine o_mov rfl ?_
  refine o_lenR hw slc_43 rfl ?_
  refine o_mov rfl ?_
  refine o_lenI hm slc_66 rfl ?_
  refine o_ne rfl rfl ?_
  refine w_nil ?_
  refine w_if_d rfl (fun hne => ?_) (fun hne => ?_)
  · refine w_emp ?_
    refine w_seq ?_
    refine w_region rfl ?_
    refine o_asg rfl ?_
    refine o_asg rfl ?_
    refine w_nil ?_
    exact w_ret (ret2 rfl rfl rfl) ⟨_, [], by rw [decide_eq_false (fun h : numsOk W M => hne (by rw [h.1]))], fun h => absurd h.1 (by omega), rfl⟩ (Take.sub (by repeat (first | exact Take.nil | exact Take.all _ | (apply Take.cons; focus (repeat (first | exact Pick.here | apply Pick.next))))))
  · have hle : W.length = M.length := by omega
    have hnl := numsL_len W M
    refine w_emp ?_
    refine w_skip ?_
    refine w_seq ?_
    refine w_region rfl ?_
    refine o_asg rfl ?_
    refine w_nil ?_
    refine w_seq ?_
    refine w_seq ?_
    refine w_region rfl ?_
    refine o_asg rfl ?_
    refine w_nil ?_
    refine w_block ?_
    refine w_loop (X := Nat × Value × Hp) (fun x => [(0, vw), (1, vm), (6, x.2.1), (7, .int .i64 x.1)]) (fun x => [x.2.2, Aw, Am]) (fun x => x.1 ≤ W.length ∧ OwnI x.2.2 x.2.1 2 .i64 ((numsL W M).take x.1) ∧ ∀ k, k < x.1 → (numP (W.getD k []) (M.getD k 0)).isSome = true) (fun x => W.length - x.1) (0, .slice none 0 0, []) ⟨by simp, OwnI.nil _ _, fun k hk => by simp at hk⟩ (by repeat (first | exact Sub.nil _ | refine Sub.cons rfl ?_)) (Take.sub (by repeat (first | exact Take.nil | exact Take.all _ | (apply Take.cons; focus (repeat (first | exact Pick.here | apply Pick.next)))))) ?_
    rintro ⟨i, u, H⟩ ⟨hi, hO, hall⟩
    refine w_seq ?_
    refine w_seq ?_
    refine w_region rfl ?_
    refine o_mov rfl ?_
    refine o_mov rfl ?_
    refine o_lenR hw slc_43 rfl ?_
    refine o_lt rfl rfl ?_
    refine w_nil ?_
    refine w_if_d rfl (fun hlt => ?_) (fun hlt => ?_)
    · simp only at hi hO hall hlt ⊢
      have hlt2 : i < W.length := by omega
      have htk : ((numsL W M).take i).length = i := by rw [List.length_take]; omega
      rcases hnum : numP (W.getD i []) (M.getD i 0) with _ | n
      · refine w_skip ?_
        refine w_seq ?_
        refine w_block ?_
        refine w_seq ?_
        refine w_line [(0, true), (1, true), (2, true), (3, true), (4, true), (5, true), (6, true), (7, true), (8, false), (9, true), (10, true), (11, true), (12, true), (13, true)] mixed (by kernel_rfl) ?_
        refine o_mov rfl ?_
        refine o_mov rfl ?_
        refine o_idxR hw (by repeat (first | exact Has.here | apply Has.next)) slc_43 rfl rfl ⟨by omega, by omega⟩ (fun bb1 ff1 ar1 TT1 fr1 hm1 hg1 => ?_)
        refine o_load (v := str (W.getD i [])) lod_9 rfl hm1 (hg1 0 _ (by rw [show (i : Int).toNat * 1 + 0 = i by omega]; exact RW.cell (by omega))) ?_
        refine o_mov rfl ?_
        refine o_mov rfl ?_
        refine o_idxI hm (by repeat (first | exact Has.here | apply Has.next)) slc_66 rfl rfl ⟨by omega, by omega⟩ (fun bb2 ff2 ar2 TT2 fr2 hm2 hg2 => ?_)
        refine o_load (v := .int .i64 (M.getD i 0)) lod_2 rfl hm2 hg2 ?_
        refine o_call (ref_Number (W.getD i []) (M.getD i 0) (hwl i hlt2)) fn_23 rfl (by repeat (first | exact Take.nil | exact Take.all _ | (apply Take.cons; focus (repeat (first | exact Pick.here | apply Pick.next))))) ?_
        rintro v ho ⟨rfl, rfl⟩
        rw [hnum]
        refine o_mov rfl ?_
        refine o_ext rfl rfl ?_
        refine o_ext rfl rfl ?_
        refine o_asg rfl ?_
        refine o_asg rfl ?_
        refine w_nil ?_
        refine w_seq ?_
        refine w_seq ?_
        refine w_region rfl ?_
        refine o_mov rfl ?_
        refine o_not rfl ?_
        refine w_nil ?_
        refine w_if_t rfl ?_
        refine w_seq ?_
        refine w_region rfl ?_
        refine o_asg rfl ?_
        refine o_asg rfl ?_
        refine w_nil ?_
        exact w_ret (ret2 rfl rfl rfl) ⟨_, H, by rw [decide_eq_false (fun h : numsOk W M => by have := h.2 i hlt2; rw [hnum] at this; cases this)], fun h => absurd (h.2 i hlt2) (by rw [hnum]; simp), rfl⟩ (Take.sub (by repeat (first | exact Take.nil | exact Take.all _ | (apply Take.cons; focus (repeat (first | exact Pick.here | apply Pick.next))))))
      · refine w_skip ?_
        refine w_seq ?_
        refine w_block ?_
        refine w_seq ?_
        refine w_line [(0, true), (1, true), (2, true), (3, true), (4, true), (5, true), (6, true), (7, true), (8, false), (9, true), (10, true), (11, true), (12, true), (13, true)] mixed (by kernel_rfl) ?_
        refine o_mov rfl ?_
        refine o_mov rfl ?_
        refine o_idxR hw (by repeat (first | exact Has.here | apply Has.next)) slc_43 rfl rfl ⟨by omega, by omega⟩ (fun bb1 ff1 ar1 TT1 fr1 hm1 hg1 => ?_)
        refine o_load (v := str (W.getD i [])) lod_9 rfl hm1 (hg1 0 _ (by rw [show (i : Int).toNat * 1 + 0 = i by omega]; exact RW.cell (by omega))) ?_
        refine o_mov rfl ?_
        refine o_mov rfl ?_
        refine o_idxI hm (by repeat (first | exact Has.here | apply Has.next)) slc_66 rfl rfl ⟨by omega, by omega⟩ (fun bb2 ff2 ar2 TT2 fr2 hm2 hg2 => ?_)
        refine o_load (v := .int .i64 (M.getD i 0)) lod_2 rfl hm2 hg2 ?_
        refine o_call (ref_Number (W.getD i []) (M.getD i 0) (hwl i hlt2)) fn_23 rfl (by repeat (first | exact Take.nil | exact Take.all _ | (apply Take.cons; focus (repeat (first | exact Pick.here | apply Pick.next))))) ?_
        rintro v ho ⟨rfl, rfl⟩
        rw [hnum]
        refine o_mov rfl ?_
        refine o_ext rfl rfl ?_
        refine o_ext rfl rfl ?_
        refine o_asg rfl ?_
        refine o_asg rfl ?_
        refine w_nil ?_
        refine w_seq ?_
        refine w_seq ?_
        refine w_region rfl ?_
        refine o_mov rfl ?_
        refine o_not rfl ?_
        refine w_nil ?_
        refine w_if_f rfl ?_
        refine w_skip ?_
        refine w_region rfl ?_
        refine o_mov rfl ?_
        refine o_mov rfl ?_
        rw [show ((some n : Option Int).getD 0) = (numsL W M).getD i 0 by rw [numsL_get hlt2, hnum]]
        refine o_bslN [_] slc_66 zer_2 (Nat.le_of_ble_eq_true rfl) rfl rfl (fun b3 => ?_)
        refine o_app1 slc_66 zer_2 rfl rfl rfl hO (by repeat (first | exact Pick.here | apply Pick.next)) (by repeat (first | exact Has.here | apply Has.next)) (Nat.le_of_ble_eq_true rfl) (by simp only [maxLen]; omega) (by omega) (fun v' H' hO2 => ?_)
        refine o_asg rfl ?_
        refine w_nil ?_
        refine w_inB ?_
        refine w_region rfl ?_
        refine o_mov rfl ?_
        refine o_add rfl rfl (by first | exact IntWalk.i64_in _ (by omega) | rfl) ?_
        refine o_asg rfl ?_
        refine w_nil ?_
        exact w_again ⟨(i + 1, v', H'), ⟨by simp only; omega, by rw [← take_getG (d := 0) (show i < (numsL W M).length by omega)]; exact hO2, fun k hk => by simp only at hk; rcases Nat.lt_succ_iff_lt_or_eq.1 hk with h | h; exact hall k h; rw [h, hnum]; rfl⟩, (by simp only; omega), (by repeat (first | exact Sub.nil _ | refine Sub.cons rfl ?_)), (Take.sub (by repeat (first | exact Take.nil | exact Take.all _ | (apply Take.cons; focus (repeat (first | exact Pick.here | apply Pick.next))))))⟩
    · simp only at hi hO hall hlt ⊢
      obtain rfl : i = W.length := by omega
      have hok : numsOk W M := ⟨hle, hall⟩
      rw [List.take_of_length_le (Nat.le_of_eq hnl)] at hO
      refine w_exit rfl ?_
      refine w_seq ?_
      refine w_region rfl ?_
      refine o_mov rfl ?_
      refine o_asg rfl ?_
      refine o_asg rfl ?_
      refine w_nil ?_
      exact w_ret (ret2 rfl rfl rfl) ⟨_, H, by rw [decide_eq_true hok], fun _ => hO, rfl⟩ (Take.sub (by repeat (first | exact Take.nil | exact Take.all _ | (apply Take.cons; focus (repeat (first | exact Pick.here | apply Pick.next))))))

end Go.Proofs.YtmcopafdooejjaaDoor
