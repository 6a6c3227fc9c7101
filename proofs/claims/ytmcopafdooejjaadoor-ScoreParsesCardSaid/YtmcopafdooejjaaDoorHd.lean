/- Contracts: the program's reader of a line's words: word, value, number, sample, digit, bytes. No condition but on the lengths. -/
import Derived.Test.YtmcopafdooejjaaDoorTy
import Derived.Test.YtmcopafdooejjaaDoorHc
namespace Go.Proofs.YtmcopafdooejjaaDoor
open Go.Eng
set_option linter.unusedVariables false
set_option linter.unusedSimpArgs false
set_option maxRecDepth 20000
attribute [local irreducible] WL WT
theorem rd_word {p : Nat} {T : TypeId} {bad : Bool} {vw : Value} {Hw : Hp} {W : List (List UInt8)} (hw : RW Hw vw W) : Ctr Tryd.prog 16 [.pointer (some ⟨p, 0, none⟩)] ([[(p, .cells #[vw, .bool bad] T (0, 0))], Hw]) (fun v ho => ∃ vw', v = str (W.headD []) ∧ RW Hw vw' W.tail ∧ ho = [[(p, .cells #[vw', .bool (bad || W.isEmpty)] T (0, 0))], Hw]) := by
  refine spec_of Tryd.func16 rfl rfl fun w0 L => ?_
  have hw2 := hw
  unfold RW at hw2
  rcases W with _ | ⟨w0_, ws⟩
  · simp only [List.length_nil] at hw2 ⊢
    cases bad
    · refine w_seq ?_
      refine w_region rfl ?_
      refine o_asg rfl ?_
      refine w_nil ?_
      refine w_seq ?_
      refine w_seq ?_
      refine w_region rfl ?_
      refine o_mov rfl ?_
      refine o_nilc rfl ?_
      refine o_fld fld_46_0 rfl rfl ?_
      refine o_load lod_43 rfl (by repeat (first | exact At.here | (refine At.inA ?_; assumption) | apply At.next)) rfl ?_
      refine o_lenR hw2 slc_43 rfl ?_
      refine o_eq rfl rfl ?_
      refine w_nil ?_
      refine w_if_t rfl ?_
      refine w_seq ?_
      refine w_region rfl ?_
      refine o_mov rfl ?_
      refine o_nilc rfl ?_
      refine o_fld fld_46_1 rfl rfl ?_
      refine o_store siz_4 rfl rfl rfl (by repeat (first | exact Upd.here | apply Upd.next)) rfl (by simp) ?_
      refine w_nil ?_
      refine w_seq ?_
      refine w_region rfl ?_
      refine o_asg rfl ?_
      refine w_nil ?_
      exact w_ret (ret1 rfl rfl) ⟨vw, rfl, hw, rfl⟩ (Take.sub (by repeat (first | exact Take.nil | exact Take.all _ | (apply Take.cons; focus (repeat (first | exact Pick.here | apply Pick.next))))))
    · refine w_seq ?_
      refine w_region rfl ?_
      refine o_asg rfl ?_
      refine w_nil ?_
      refine w_seq ?_
      refine w_seq ?_
      refine w_region rfl ?_
      refine o_mov rfl ?_
      refine o_nilc rfl ?_
      refine o_fld fld_46_0 rfl rfl ?_
      refine o_load lod_43 rfl (by repeat (first | exact At.here | (refine At.inA ?_; assumption) | apply At.next)) rfl ?_
      refine o_lenR hw2 slc_43 rfl ?_
      refine o_eq rfl rfl ?_
      refine w_nil ?_
      refine w_if_t rfl ?_
      refine w_seq ?_
      refine w_region rfl ?_
      refine o_mov rfl ?_
      refine o_nilc rfl ?_
      refine o_fld fld_46_1 rfl rfl ?_
      refine o_store siz_4 rfl rfl rfl (by repeat (first | exact Upd.here | apply Upd.next)) rfl (by simp) ?_
      refine w_nil ?_
      refine w_seq ?_
      refine w_region rfl ?_
      refine o_asg rfl ?_
      refine w_nil ?_
      exact w_ret (ret1 rfl rfl) ⟨vw, rfl, hw, rfl⟩ (Take.sub (by repeat (first | exact Take.nil | exact Take.all _ | (apply Take.cons; focus (repeat (first | exact Pick.here | apply Pick.next))))))
  · obtain ⟨pw, cw, rfl, hcw⟩ := Rd.slice hw2
    have htl := RW.tail hw (by simp)
    have hc1 : 1 ≤ cw := by simp only [List.length_cons] at hcw; omega
    cases bad
    · refine w_seq ?_
      refine w_region rfl ?_
      refine o_asg rfl ?_
      refine w_nil ?_
      refine w_seq ?_
      refine w_seq ?_
      refine w_region rfl ?_
      refine o_mov rfl ?_
      refine o_nilc rfl ?_
      refine o_fld fld_46_0 rfl rfl ?_
      refine o_load lod_43 rfl (by repeat (first | exact At.here | (refine At.inA ?_; assumption) | apply At.next)) rfl ?_
      refine o_lenR hw2 slc_43 rfl ?_
      refine o_eq rfl rfl ?_
      refine w_nil ?_
      refine w_if_f rfl ?_
      refine w_skip ?_
      refine w_seq ?_
      refine w_region rfl ?_
      refine o_mov rfl ?_
      refine o_nilc rfl ?_
      refine o_fld fld_46_0 rfl rfl ?_
      refine o_load lod_43 rfl (by repeat (first | exact At.here | (refine At.inA ?_; assumption) | apply At.next)) rfl ?_
      refine o_idxR hw2 (by repeat (first | exact Has.here | apply Has.next)) slc_43 rfl rfl ⟨by omega, by simp only [List.length_cons]; omega⟩ (fun bb ff ar1 TT fr hm1 hg1 => ?_)
      refine o_load (v := str w0_) lod_9 rfl hm1 (hg1 0 _ rfl) ?_
      refine o_asg rfl ?_
      refine w_nil ?_
      refine w_seq ?_
      refine w_region rfl ?_
      refine o_mov rfl ?_
      refine o_mov rfl ?_
      refine o_nilc rfl ?_
      refine o_fld fld_46_0 rfl rfl ?_
      refine o_load lod_43 rfl (by repeat (first | exact At.here | (refine At.inA ?_; assumption) | apply At.next)) rfl ?_
      refine o_slS (i := 1) (j := ((w0_ :: ws).length : Nat)) slc_43 rfl ⟨_, rfl⟩ rfl ⟨by omega, by simp only [List.length_cons]; omega, by omega⟩ ?_
      rw [show (1 : Int).toNat = 1 from rfl, Int.toNat_natCast, show (w0_ :: ws).length - 1 = ws.length from rfl]
      refine o_nilc rfl ?_
      refine o_fld fld_46_0 rfl rfl ?_
      refine o_store siz_43 rfl rfl rfl (by repeat (first | exact Upd.here | apply Upd.next)) rfl (by simp) ?_
      refine w_nil ?_
      refine w_seq ?_
      refine w_region rfl ?_
      refine o_mov rfl ?_
      refine o_asg rfl ?_
      refine w_nil ?_
      exact w_ret (ret1 rfl rfl) ⟨_, rfl, htl, rfl⟩ (Take.sub (by repeat (first | exact Take.nil | exact Take.all _ | (apply Take.cons; focus (repeat (first | exact Pick.here | apply Pick.next))))))
    · refine w_seq ?_
      refine w_region rfl ?_
      refine o_asg rfl ?_
      refine w_nil ?_
      refine w_seq ?_
      refine w_seq ?_
      refine w_region rfl ?_
      refine o_mov rfl ?_
      refine o_nilc rfl ?_
      refine o_fld fld_46_0 rfl rfl ?_
      refine o_load lod_43 rfl (by repeat (first | exact At.here | (refine At.inA ?_; assumption) | apply At.next)) rfl ?_
      refine o_lenR hw2 slc_43 rfl ?_
      refine o_eq rfl rfl ?_
      refine w_nil ?_
      refine w_if_f rfl ?_
      refine w_skip ?_
      refine w_seq ?_
      refine w_region rfl ?_
      refine o_mov rfl ?_
      refine o_nilc rfl ?_
      refine o_fld fld_46_0 rfl rfl ?_
      refine o_load lod_43 rfl (by repeat (first | exact At.here | (refine At.inA ?_; assumption) | apply At.next)) rfl ?_
      refine o_idxR hw2 (by repeat (first | exact Has.here | apply Has.next)) slc_43 rfl rfl ⟨by omega, by simp only [List.length_cons]; omega⟩ (fun bb ff ar1 TT fr hm1 hg1 => ?_)
      refine o_load (v := str w0_) lod_9 rfl hm1 (hg1 0 _ rfl) ?_
      refine o_asg rfl ?_
      refine w_nil ?_
      refine w_seq ?_
      refine w_region rfl ?_
      refine o_mov rfl ?_
      refine o_mov rfl ?_
      refine o_nilc rfl ?_
      refine o_fld fld_46_0 rfl rfl ?_
      refine o_load lod_43 rfl (by repeat (first | exact At.here | (refine At.inA ?_; assumption) | apply At.next)) rfl ?_
      refine o_slS (i := 1) (j := ((w0_ :: ws).length : Nat)) slc_43 rfl ⟨_, rfl⟩ rfl ⟨by omega, by simp only [List.length_cons]; omega, by omega⟩ ?_
      rw [show (1 : Int).toNat = 1 from rfl, Int.toNat_natCast, show (w0_ :: ws).length - 1 = ws.length from rfl]
      refine o_nilc rfl ?_
      refine o_fld fld_46_0 rfl rfl ?_
      refine o_store siz_43 rfl rfl rfl (by repeat (first | exact Upd.here | apply Upd.next)) rfl (by simp) ?_
      refine w_nil ?_
      refine w_seq ?_
      refine w_region rfl ?_
      refine o_mov rfl ?_
      refine o_asg rfl ?_
      refine w_nil ?_
      exact w_ret (ret1 rfl rfl) ⟨_, rfl, htl, rfl⟩ (Take.sub (by repeat (first | exact Take.nil | exact Take.all _ | (apply Take.cons; focus (repeat (first | exact Pick.here | apply Pick.next))))))

theorem rd_value {p : Nat} {T : TypeId} {bad : Bool} {vw : Value} (w : List UInt8) (most : Int) (hl : w.length ≤ 1000000) : Ctr Tryd.prog 35 [.pointer (some ⟨p, 0, none⟩), str w, .int .i64 most] ([[(p, .cells #[vw, .bool bad] T (0, 0))]]) (fun v ho => v = .int .i64 ((numP w most).getD 0) ∧ ho = [[(p, .cells #[vw, .bool (bad || (numP w most).isNone)] T (0, 0))]]) := by
  refine spec_of Tryd.func35 rfl rfl fun w0 L => ?_
  refine w_seq ?_
  refine w_region rfl ?_
  refine o_asg rfl ?_
  refine w_nil ?_
  refine w_seq ?_
  refine w_region rfl ?_
  refine o_asg rfl ?_
  refine w_nil ?_
  refine w_seq ?_
  refine w_seq ?_
  refine w_region rfl ?_
  refine o_mov rfl ?_
  refine o_lenT Tryd.underlying9 rfl ?_
  refine o_mov rfl ?_
  refine w_nil ?_
  refine w_block ?_
  refine w_loop (X := Nat) (fun i => [(0, .pointer (some ⟨p, 0, none⟩)), (1, str w), (2, .int .i64 most), (7, .int .i64 (numV (w.take (min i 10)))), (10, .int .i64 w.length), (11, .int .i64 i)]) (fun _ => [[(p, .cells #[vw, .bool bad] T (0, 0))]]) (fun i => i ≤ w.length ∧ digs (w.take i)) (fun i => w.length - i) 0 ⟨by omega, fun b hb => by simp at hb⟩ (by repeat (first | exact Sub.nil _ | refine Sub.cons rfl ?_)) (Take.sub (by repeat (first | exact Take.nil | exact Take.all _ | (apply Take.cons; focus (repeat (first | exact Pick.here | apply Pick.next)))))) ?_
  rintro i ⟨hi, hd⟩
  refine w_seq ?_
  refine w_region rfl ?_
  refine o_lt rfl rfl ?_
  refine w_nil ?_
  refine w_seq ?_
  refine w_if_d rfl (fun hlt => ?_) (fun hlt => ?_)
  · have hlt2 : i < w.length := by omega
    have hvi := numV_in10 (w := w) (i := min i 10) (by omega) (by have := digs_take hd (min i 10); rwa [List.take_take, Nat.min_eq_left (Nat.min_le_left i 10)] at this) (by omega)
    have hb8 := u8_lt (w.getD i 0)
    refine w_skip ?_
    refine w_seq ?_
    refine w_block ?_
    refine w_seq ?_
    refine w_region rfl ?_
    refine o_mov rfl ?_
    refine o_asg rfl ?_
    refine w_nil ?_
    refine w_seq ?_
    refine w_seq ?_
    refine w_cut_x (X := Bool) (fun y => [(0, .pointer (some ⟨p, 0, none⟩)), (1, str w), (2, .int .i64 most), (7, .int .i64 (numV (w.take (min i 10)))), (10, .int .i64 w.length), (11, .int .i64 i), (8, .int .i64 i), (23, .bool y)]) (fun _ => [[(p, .cells #[vw, .bool bad] T (0, 0))]]) (fun y => y = decide (¬ (48 ≤ (w.getD i 0).toNat ∧ (w.getD i 0).toNat ≤ 57))) ?_ ?_
    · refine w_region rfl ?_
      refine o_mov rfl ?_
      refine o_mov rfl ?_
      refine o_idxT Tryd.underlying9 rfl rfl ⟨by omega, by omega⟩ ?_
      refine o_lt_s rfl rfl (fun h5_3 => ?_) (fun h5_3 => ?_)
      · refine o_mov rfl ?_
        refine o_no rfl rfl rfl ?_
        refine o_no rfl rfl rfl ?_
        refine o_no rfl rfl rfl ?_
        refine o_no rfl rfl rfl ?_
        refine o_pick_t rfl rfl ?_
        refine w_nil ?_
        exact w_again ⟨true, (decide_eq_true (by (try simp only [Int.toNat_natCast] at *); omega)).symm, (by repeat (first | exact Sub.nil _ | refine Sub.cons rfl ?_)), (Take.sub (by repeat (first | exact Take.nil | exact Take.all _ | (apply Take.cons; focus (repeat (first | exact Pick.here | apply Pick.next))))))⟩
      · refine o_mov rfl ?_
        refine o_yes rfl rfl ?_
        refine o_mov rfl ?_
        refine o_yes rfl rfl ?_
        refine o_mov rfl ?_
        refine o_yes rfl rfl ?_
        refine o_idxT Tryd.underlying9 rfl rfl ⟨by omega, by omega⟩ ?_
        refine o_yes rfl rfl ?_
        refine o_gt_s rfl rfl (fun h5_8 => ?_) (fun h5_8 => ?_)
        · refine o_pick_f rfl rfl ?_
          refine w_nil ?_
          exact w_again ⟨true, (decide_eq_true (by (try simp only [Int.toNat_natCast] at *); omega)).symm, (by repeat (first | exact Sub.nil _ | refine Sub.cons rfl ?_)), (Take.sub (by repeat (first | exact Take.nil | exact Take.all _ | (apply Take.cons; focus (repeat (first | exact Pick.here | apply Pick.next))))))⟩
        · refine o_pick_f rfl rfl ?_
          refine w_nil ?_
          exact w_again ⟨false, (decide_eq_false (by (try simp only [Int.toNat_natCast] at *); omega)).symm, (by repeat (first | exact Sub.nil _ | refine Sub.cons rfl ?_)), (Take.sub (by repeat (first | exact Take.nil | exact Take.all _ | (apply Take.cons; focus (repeat (first | exact Pick.here | apply Pick.next))))))⟩
    intro y hy
    subst hy
    refine w_if_d rfl (fun hnd => ?_) (fun hnd => ?_)
    · have hn := numP_none most (fun h : numOk w => digs_not hlt2 hnd h.2.2.2)
      refine w_seq ?_
      refine w_region rfl ?_
      refine o_mov rfl ?_
      refine o_nilc rfl ?_
      refine o_fld fld_46_1 rfl rfl ?_
      refine o_store siz_4 rfl rfl rfl (by repeat (first | exact Upd.here | apply Upd.next)) rfl (by simp) ?_
      refine w_nil ?_
      refine w_seq ?_
      refine w_region rfl ?_
      refine o_asg rfl ?_
      refine w_nil ?_
      exact w_ret (ret1 rfl rfl) ⟨by rw [hn]; rfl, (show ([[(p, .cells #[vw, .bool true] T (0, 0))]] : Hs) = [[(p, .cells #[vw, .bool (bad || (numP w most).isNone)] T (0, 0))]] by rw [hn]; cases bad <;> rfl)⟩ (Take.sub (by repeat (first | exact Take.nil | exact Take.all _ | (apply Take.cons; focus (repeat (first | exact Pick.here | apply Pick.next))))))
    · have hdg := Decidable.not_not.1 hnd
      refine w_skip ?_
      refine w_seq ?_
      refine w_region rfl ?_
      refine o_mov rfl ?_
      refine o_lt rfl rfl ?_
      refine w_nil ?_
      refine w_cut_x (X := Int) (fun y => [(0, .pointer (some ⟨p, 0, none⟩)), (1, str w), (2, .int .i64 most), (7, .int .i64 y), (10, .int .i64 w.length), (11, .int .i64 i)]) (fun _ => [[(p, .cells #[vw, .bool bad] T (0, 0))]]) (fun y => y = numV (w.take (min (i + 1) 10))) ?_ ?_
      · refine w_if_d rfl (fun h10 => ?_) (fun h10 => ?_)
        · refine w_region rfl ?_
          refine o_mov rfl ?_
          refine o_mul rfl rfl (by first | exact IntWalk.i64_in _ (by omega) | rfl) ?_
          refine o_mov rfl ?_
          refine o_mov rfl ?_
          refine o_idxT Tryd.underlying9 rfl rfl ⟨by omega, by omega⟩ ?_
          rw [Int.toNat_natCast]
          refine o_sub rfl rfl (by first | exact IntWalk.u8_in _ (by omega) | rfl) ?_
          refine o_conv int_2 (by rw [Tryd.underlying5]; rfl) rfl (by first | exact IntWalk.i64_in _ (by omega) | rfl) ?_
          refine o_add rfl rfl (by first | exact IntWalk.i64_in _ (by omega) | rfl) ?_
          refine o_asg rfl ?_
          refine w_nil ?_
          exact w_again ⟨(10 * numV (w.take (min i 10)) + (((w.getD i 0).toNat : Int) - 48)), (by rw [Nat.min_eq_left (show i + 1 ≤ 10 by omega), numV_step hlt2, Nat.min_eq_left (show i ≤ 10 by omega)]), (by repeat (first | exact Sub.nil _ | refine Sub.cons rfl ?_)), (Take.sub (by repeat (first | exact Take.nil | exact Take.all _ | (apply Take.cons; focus (repeat (first | exact Pick.here | apply Pick.next))))))⟩
        · refine w_skip ?_
          exact w_again ⟨(numV (w.take (min i 10))), (by rw [show min i 10 = min (i + 1) 10 by omega]), (by repeat (first | exact Sub.nil _ | refine Sub.cons rfl ?_)), (Take.sub (by repeat (first | exact Take.nil | exact Take.all _ | (apply Take.cons; focus (repeat (first | exact Pick.here | apply Pick.next))))))⟩
      · intro y hy
        subst hy
        refine w_inB ?_
        refine w_region rfl ?_
        refine o_add rfl rfl (by first | exact IntWalk.i64_in _ (by omega) | rfl) ?_
        refine o_mov rfl ?_
        refine w_nil ?_
        exact w_again ⟨(i + 1), ⟨by omega, digs_step hlt2 hd hdg⟩, (by omega), (by repeat (first | exact Sub.nil _ | refine Sub.cons rfl ?_)), (Take.sub (by repeat (first | exact Take.nil | exact Take.all _ | (apply Take.cons; focus (repeat (first | exact Pick.here | apply Pick.next))))))⟩
  · obtain rfl : i = w.length := by omega
    rw [List.take_length] at hd
    refine w_exit rfl ?_
    refine w_seq ?_
    refine w_seq ?_
    refine w_cut_x (X := Bool) (fun y => [(0, .pointer (some ⟨p, 0, none⟩)), (1, str w), (2, .int .i64 most), (7, .int .i64 (numV (w.take (min w.length 10)))), (59, .bool y)]) (fun _ => [[(p, .cells #[vw, .bool bad] T (0, 0))]]) (fun y => y = decide (¬ (((1 ≤ w.length ∧ w.length ≤ 10) ∧ (w.length ≤ 1 ∨ (w.getD 0 0).toNat ≠ 48)) ∧ numV (w.take (min w.length 10)) ≤ most))) ?_ ?_
    · refine w_region rfl ?_
      refine o_mov rfl ?_
      refine o_eqT_s rfl rfl (fun h11_1 => ?_) (fun h11_1 => ?_)
      · refine o_mov rfl ?_
        refine o_no rfl rfl rfl ?_
        refine o_no rfl rfl rfl ?_
        refine o_no rfl rfl rfl ?_
        refine o_pick_t rfl rfl ?_
        refine o_mov rfl ?_
        refine o_no rfl rfl rfl ?_
        refine o_no rfl rfl rfl ?_
        refine o_no rfl rfl rfl ?_
        refine o_no rfl rfl rfl ?_
        refine o_skip rfl rfl ?_
        refine o_skip rfl rfl ?_
        refine o_skip rfl rfl ?_
        refine o_no rfl rfl rfl ?_
        refine o_pick_t rfl rfl ?_
        refine o_mov rfl ?_
        refine o_no rfl rfl rfl ?_
        refine o_no rfl rfl rfl ?_
        refine o_no rfl rfl rfl ?_
        refine o_pick_t rfl rfl ?_
        refine w_nil ?_
        exact w_again ⟨true, (decide_eq_true (by (try simp only [← List.length_eq_zero_iff] at *); (try simp only [z0] at *); omega)).symm, (by repeat (first | exact Sub.nil _ | refine Sub.cons rfl ?_)), (Take.sub (by repeat (first | exact Take.nil | exact Take.all _ | (apply Take.cons; focus (repeat (first | exact Pick.here | apply Pick.next))))))⟩
      · refine o_mov rfl ?_
        refine o_yes rfl rfl ?_
        refine o_mov rfl ?_
        refine o_yes rfl rfl ?_
        refine o_lenT Tryd.underlying9 rfl ?_
        refine o_yes rfl rfl ?_
        refine o_gt_s rfl rfl (fun h11_5 => ?_) (fun h11_5 => ?_)
        · refine o_pick_f rfl rfl ?_
          refine o_mov rfl ?_
          refine o_no rfl rfl rfl ?_
          refine o_no rfl rfl rfl ?_
          refine o_no rfl rfl rfl ?_
          refine o_no rfl rfl rfl ?_
          refine o_skip rfl rfl ?_
          refine o_skip rfl rfl ?_
          refine o_skip rfl rfl ?_
          refine o_no rfl rfl rfl ?_
          refine o_pick_t rfl rfl ?_
          refine o_mov rfl ?_
          refine o_no rfl rfl rfl ?_
          refine o_no rfl rfl rfl ?_
          refine o_no rfl rfl rfl ?_
          refine o_pick_t rfl rfl ?_
          refine w_nil ?_
          exact w_again ⟨true, (decide_eq_true (by (try simp only [← List.length_eq_zero_iff] at *); (try simp only [z0] at *); omega)).symm, (by repeat (first | exact Sub.nil _ | refine Sub.cons rfl ?_)), (Take.sub (by repeat (first | exact Take.nil | exact Take.all _ | (apply Take.cons; focus (repeat (first | exact Pick.here | apply Pick.next))))))⟩
        · refine o_pick_f rfl rfl ?_
          refine o_mov rfl ?_
          refine o_yes rfl rfl ?_
          refine o_mov rfl ?_
          refine o_yes rfl rfl ?_
          refine o_lenT Tryd.underlying9 rfl ?_
          refine o_yes rfl rfl ?_
          refine o_gt_s rfl rfl (fun h11_10 => ?_) (fun h11_10 => ?_)
          · refine o_yes rfl rfl ?_
            refine o_mov rfl ?_
            refine o_yes rfl rfl ?_
            refine o_mov rfl ?_
            refine o_yes rfl rfl ?_
            refine o_idxT Tryd.underlying9 rfl rfl ⟨by omega, by omega⟩ ?_
            refine o_yes rfl rfl ?_
            refine o_eq_s rfl rfl (fun h11_14 => ?_) (fun h11_14 => ?_)
            · refine o_yes rfl rfl ?_
              refine o_pick_t rfl rfl ?_
              refine o_pick_f rfl rfl ?_
              refine o_mov rfl ?_
              refine o_no rfl rfl rfl ?_
              refine o_no rfl rfl rfl ?_
              refine o_no rfl rfl rfl ?_
              refine o_pick_t rfl rfl ?_
              refine w_nil ?_
              exact w_again ⟨true, (decide_eq_true (by (try simp only [← List.length_eq_zero_iff] at *); (try simp only [z0] at *); omega)).symm, (by repeat (first | exact Sub.nil _ | refine Sub.cons rfl ?_)), (Take.sub (by repeat (first | exact Take.nil | exact Take.all _ | (apply Take.cons; focus (repeat (first | exact Pick.here | apply Pick.next))))))⟩
            · refine o_yes rfl rfl ?_
              refine o_pick_t rfl rfl ?_
              refine o_pick_f rfl rfl ?_
              refine o_mov rfl ?_
              refine o_yes rfl rfl ?_
              refine o_mov rfl ?_
              refine o_yes rfl rfl ?_
              refine o_mov rfl ?_
              refine o_yes rfl rfl ?_
              refine o_gt_s rfl rfl (fun h11_20 => ?_) (fun h11_20 => ?_)
              · refine o_pick_f rfl rfl ?_
                refine w_nil ?_
                exact w_again ⟨true, (decide_eq_true (by (try simp only [← List.length_eq_zero_iff] at *); (try simp only [z0] at *); omega)).symm, (by repeat (first | exact Sub.nil _ | refine Sub.cons rfl ?_)), (Take.sub (by repeat (first | exact Take.nil | exact Take.all _ | (apply Take.cons; focus (repeat (first | exact Pick.here | apply Pick.next))))))⟩
              · refine o_pick_f rfl rfl ?_
                refine w_nil ?_
                exact w_again ⟨false, (decide_eq_false (by (try simp only [← List.length_eq_zero_iff] at *); (try simp only [z0] at *); omega)).symm, (by repeat (first | exact Sub.nil _ | refine Sub.cons rfl ?_)), (Take.sub (by repeat (first | exact Take.nil | exact Take.all _ | (apply Take.cons; focus (repeat (first | exact Pick.here | apply Pick.next))))))⟩
          · refine o_yes rfl rfl ?_
            refine o_mov rfl ?_
            refine o_no rfl rfl rfl ?_
            refine o_no rfl rfl rfl ?_
            refine o_no rfl rfl rfl ?_
            refine o_yes rfl rfl ?_
            refine o_pick_f rfl rfl ?_
            refine o_pick_f rfl rfl ?_
            refine o_mov rfl ?_
            refine o_yes rfl rfl ?_
            refine o_mov rfl ?_
            refine o_yes rfl rfl ?_
            refine o_mov rfl ?_
            refine o_yes rfl rfl ?_
            refine o_gt_s rfl rfl (fun h11_20 => ?_) (fun h11_20 => ?_)
            · refine o_pick_f rfl rfl ?_
              refine w_nil ?_
              exact w_again ⟨true, (decide_eq_true (by (try simp only [← List.length_eq_zero_iff] at *); (try simp only [z0] at *); omega)).symm, (by repeat (first | exact Sub.nil _ | refine Sub.cons rfl ?_)), (Take.sub (by repeat (first | exact Take.nil | exact Take.all _ | (apply Take.cons; focus (repeat (first | exact Pick.here | apply Pick.next))))))⟩
            · refine o_pick_f rfl rfl ?_
              refine w_nil ?_
              exact w_again ⟨false, (decide_eq_false (by (try simp only [← List.length_eq_zero_iff] at *); (try simp only [z0] at *); omega)).symm, (by repeat (first | exact Sub.nil _ | refine Sub.cons rfl ?_)), (Take.sub (by repeat (first | exact Take.nil | exact Take.all _ | (apply Take.cons; focus (repeat (first | exact Pick.here | apply Pick.next))))))⟩
    intro y hy
    subst hy
    refine w_if_d rfl (fun hbad => ?_) (fun hbad => ?_)
    · have hn : numP w most = none := by unfold numP; rw [if_neg]; rintro ⟨h1, h2⟩; exact hbad ⟨⟨⟨h1.1, h1.2.1⟩, h1.2.2.1⟩, by rw [Nat.min_eq_left h1.2.1, List.take_length]; exact h2⟩
      refine w_seq ?_
      refine w_region rfl ?_
      refine o_mov rfl ?_
      refine o_nilc rfl ?_
      refine o_fld fld_46_1 rfl rfl ?_
      refine o_store siz_4 rfl rfl rfl (by repeat (first | exact Upd.here | apply Upd.next)) rfl (by simp) ?_
      refine w_nil ?_
      refine w_seq ?_
      refine w_region rfl ?_
      refine o_asg rfl ?_
      refine w_nil ?_
      exact w_ret (ret1 rfl rfl) ⟨by rw [hn]; rfl, (show ([[(p, .cells #[vw, .bool true] T (0, 0))]] : Hs) = [[(p, .cells #[vw, .bool (bad || (numP w most).isNone)] T (0, 0))]] by rw [hn]; cases bad <;> rfl)⟩ (Take.sub (by repeat (first | exact Take.nil | exact Take.all _ | (apply Take.cons; focus (repeat (first | exact Pick.here | apply Pick.next))))))
    · have hok := Decidable.not_not.1 hbad
      have hn := numP_some (w := w) (m := most) ⟨hok.1.1.1, hok.1.1.2, hok.1.2, hd⟩ (by have := hok.2; rwa [Nat.min_eq_left hok.1.1.2, List.take_length] at this)
      rw [Nat.min_eq_left hok.1.1.2, List.take_length]
      refine w_skip ?_
      refine w_seq ?_
      refine w_region rfl ?_
      refine o_mov rfl ?_
      refine o_asg rfl ?_
      refine w_nil ?_
      exact w_ret (ret1 rfl rfl) ⟨by rw [hn]; rfl, (show ([[(p, .cells #[vw, .bool bad] T (0, 0))]] : Hs) = [[(p, .cells #[vw, .bool (bad || (numP w most).isNone)] T (0, 0))]] by rw [hn]; cases bad <;> rfl)⟩ (Take.sub (by repeat (first | exact Take.nil | exact Take.all _ | (apply Take.cons; focus (repeat (first | exact Pick.here | apply Pick.next))))))

theorem rd_number {p : Nat} {T : TypeId} {bad : Bool} {vw : Value} {Hw : Hp} {W : List (List UInt8)} (hw : RW Hw vw W) (hwl : (W.headD []).length ≤ 1000000) {most : Int} (hm : 0 ≤ most ∧ most ≤ 4294967295) : Ctr Tryd.prog 19 [.pointer (some ⟨p, 0, none⟩), .int .i64 most] ([[(p, .cells #[vw, .bool bad] T (0, 0))], Hw]) (fun v ho => ∃ vw', v = .int .i64 ((numP (W.headD []) most).getD 0) ∧ RW Hw vw' W.tail ∧ ho = [[(p, .cells #[vw', .bool (bad || (numP (W.headD []) most).isNone)] T (0, 0))], Hw]) := by
  refine spec_of Tryd.func19 rfl rfl fun w0 L => ?_
  refine w_seq ?_
  refine w_region rfl ?_
  refine o_asg rfl ?_
  refine w_nil ?_
  refine w_seq ?_
  refine w_region rfl ?_
  refine o_mov rfl ?_
  refine o_mov rfl ?_
  refine o_call (rd_word hw) fn_16 rfl (by repeat (first | exact Take.nil | exact Take.all _ | (apply Take.cons; focus (repeat (first | exact Pick.here | apply Pick.next))))) ?_
  rintro v ho ⟨vw', rfl, hw', rfl⟩
  refine o_mov rfl ?_
  refine o_call (rd_value (W.headD []) most hwl) fn_35 rfl (by repeat (first | exact Take.nil | exact Take.all _ | (apply Take.cons; focus (repeat (first | exact Pick.here | apply Pick.next))))) ?_
  rintro v ho ⟨rfl, rfl⟩
  rw [flag_word]
  have hng := numP_get (W.headD []) hm.1
  refine o_asg rfl ?_
  refine w_nil ?_
  exact w_ret (ret1 rfl rfl) ⟨vw', rfl, hw', rfl⟩ (Take.sub (by repeat (first | exact Take.nil | exact Take.all _ | (apply Take.cons; focus (repeat (first | exact Pick.here | apply Pick.next))))))

theorem rd_sample {p : Nat} {T : TypeId} {bad : Bool} {vw : Value} {Hw : Hp} {W : List (List UInt8)} (hw : RW Hw vw W) (hwl : (W.headD []).length ≤ 1000000) : Ctr Tryd.prog 17 [.pointer (some ⟨p, 0, none⟩)] ([[(p, .cells #[vw, .bool bad] T (0, 0))], Hw]) (fun v ho => ∃ vw', v = .int .i16 ((sampleP (W.headD [])).getD 0) ∧ RW Hw vw' W.tail ∧ ho = [[(p, .cells #[vw', .bool (bad || (sampleP (W.headD [])).isNone)] T (0, 0))], Hw]) := by
  refine spec_of Tryd.func17 rfl rfl fun w0 L => ?_
  by_cases hc : (W.headD []).head? = some 45
  · refine w_seq ?_
    refine w_region rfl ?_
    refine o_asg rfl ?_
    refine w_nil ?_
    refine w_seq ?_
    refine w_region rfl ?_
    refine o_mov rfl ?_
    refine o_call (rd_word hw) fn_16 rfl (by repeat (first | exact Take.nil | exact Take.all _ | (apply Take.cons; focus (repeat (first | exact Pick.here | apply Pick.next))))) ?_
    rintro v ho ⟨vw', rfl, hw', rfl⟩
    refine o_call (s_CutPrefix (W.headD []) 45 hwl) fn_34 rfl (by repeat (first | exact Take.nil | exact Take.all _ | (apply Take.cons; focus (repeat (first | exact Pick.here | apply Pick.next))))) ?_
    rintro v ho ⟨rfl, rfl⟩
    rw [if_pos hc, decide_eq_true hc]
    refine o_mov rfl ?_
    refine o_ext rfl rfl ?_
    refine o_ext rfl rfl ?_
    refine o_asg rfl ?_
    refine o_asg rfl ?_
    refine w_nil ?_
    refine w_seq ?_
    refine w_seq ?_
    refine w_region rfl ?_
    refine o_mov rfl ?_
    refine w_nil ?_
    refine w_if_t rfl ?_
    refine w_seq ?_
    refine w_region rfl ?_
    refine o_mov rfl ?_
    refine o_mov rfl ?_
    refine o_call (rd_value (W.headD []).tail 32768 (by rw [List.length_tail]; omega)) fn_35 rfl (by repeat (first | exact Take.nil | exact Take.all _ | (apply Take.cons; focus (repeat (first | exact Pick.here | apply Pick.next))))) ?_
    rintro v ho ⟨rfl, rfl⟩
    rw [flag_tail hc, ← (sampleP_neg hc).1]
    have hng := numP_get (W.headD []).tail (show (0 : Int) ≤ 32768 by omega)
    refine o_neg rfl (by first | exact IntWalk.i64_in _ (by omega) | rfl) ?_
    refine o_conv int_54 (by rw [Tryd.underlying2]; rfl) rfl (by first | exact IntWalk.i16_in _ (by omega) | rfl) ?_
    rw [show (0 - (numP (W.headD []).tail 32768).getD 0) = (sampleP (W.headD [])).getD 0 by rw [(sampleP_neg hc).2]; omega]
    refine o_asg rfl ?_
    refine w_nil ?_
    exact w_ret (ret1 rfl rfl) ⟨vw', rfl, hw', rfl⟩ (Take.sub (by repeat (first | exact Take.nil | exact Take.all _ | (apply Take.cons; focus (repeat (first | exact Pick.here | apply Pick.next))))))
  · refine w_seq ?_
    refine w_region rfl ?_
    refine o_asg rfl ?_
    refine w_nil ?_
    refine w_seq ?_
    refine w_region rfl ?_
    refine o_mov rfl ?_
    refine o_call (rd_word hw) fn_16 rfl (by repeat (first | exact Take.nil | exact Take.all _ | (apply Take.cons; focus (repeat (first | exact Pick.here | apply Pick.next))))) ?_
    rintro v ho ⟨vw', rfl, hw', rfl⟩
    refine o_call (s_CutPrefix (W.headD []) 45 hwl) fn_34 rfl (by repeat (first | exact Take.nil | exact Take.all _ | (apply Take.cons; focus (repeat (first | exact Pick.here | apply Pick.next))))) ?_
    rintro v ho ⟨rfl, rfl⟩
    rw [if_neg hc, decide_eq_false hc]
    refine o_mov rfl ?_
    refine o_ext rfl rfl ?_
    refine o_ext rfl rfl ?_
    refine o_asg rfl ?_
    refine o_asg rfl ?_
    refine w_nil ?_
    refine w_seq ?_
    refine w_seq ?_
    refine w_region rfl ?_
    refine o_mov rfl ?_
    refine w_nil ?_
    refine w_if_f rfl ?_
    refine w_skip ?_
    refine w_seq ?_
    refine w_region rfl ?_
    refine o_mov rfl ?_
    refine o_mov rfl ?_
    refine o_call (rd_value (W.headD []) 32767 hwl) fn_35 rfl (by repeat (first | exact Take.nil | exact Take.all _ | (apply Take.cons; focus (repeat (first | exact Pick.here | apply Pick.next))))) ?_
    rintro v ho ⟨rfl, rfl⟩
    rw [flag_word, ← sampleP_pos hc]
    have hng := numP_get (W.headD []) (show (0 : Int) ≤ 32767 by omega)
    rw [← sampleP_pos hc] at hng
    refine o_conv int_54 (by rw [Tryd.underlying2]; rfl) rfl (by first | exact IntWalk.i16_in _ (by omega) | rfl) ?_
    refine o_asg rfl ?_
    refine w_nil ?_
    exact w_ret (ret1 rfl rfl) ⟨vw', rfl, hw', rfl⟩ (Take.sub (by repeat (first | exact Take.nil | exact Take.all _ | (apply Take.cons; focus (repeat (first | exact Pick.here | apply Pick.next))))))

theorem rd_digit {p : Nat} {T : TypeId} {bad : Bool} {vw : Value} (c : UInt8) : Ctr Tryd.prog 38 [.pointer (some ⟨p, 0, none⟩), .int .u8 (c.toNat : Int)] ([[(p, .cells #[vw, .bool bad] T (0, 0))]]) (fun v ho => v = .int .u8 ((d16 c).getD 0) ∧ ho = [[(p, .cells #[vw, .bool (bad || (d16 c).isNone)] T (0, 0))]]) := by
  refine spec_of Tryd.func38 rfl rfl fun w0 L => ?_
  rcases hd : d16 c with _ | x
  · refine w_seq ?_
    refine w_region rfl ?_
    refine o_asg rfl ?_
    refine w_nil ?_
    refine w_seq ?_
    refine w_region rfl ?_
    refine o_mov rfl ?_
    refine o_call (s_IndexByte hexD c) fn_58 rfl (by repeat (first | exact Take.nil | exact Take.all _ | (apply Take.cons; focus (repeat (first | exact Pick.here | apply Pick.next))))) ?_
    rintro v ho ⟨rfl, rfl⟩
    rw [d16_ix, hd]
    simp only [Option.getD_none]
    refine o_asg rfl ?_
    refine w_nil ?_
    refine w_seq ?_
    refine w_seq ?_
    refine w_region rfl ?_
    refine o_mov rfl ?_
    refine o_lt_t rfl rfl (by omega) ?_
    refine w_nil ?_
    refine w_if_t rfl ?_
    refine w_seq ?_
    refine w_region rfl ?_
    refine o_mov rfl ?_
    refine o_nilc rfl ?_
    refine o_fld fld_46_1 rfl rfl ?_
    refine o_store siz_4 rfl rfl rfl (by repeat (first | exact Upd.here | apply Upd.next)) rfl (by simp) ?_
    refine w_nil ?_
    refine w_seq ?_
    refine w_region rfl ?_
    refine o_asg rfl ?_
    refine w_nil ?_
    exact w_ret (ret1 rfl rfl) ⟨rfl, (show ([[(p, .cells #[vw, .bool true] T (0, 0))]] : Hs) = [[(p, .cells #[vw, .bool (bad || (none : Option Int).isNone)] T (0, 0))]] by cases bad <;> rfl)⟩ (Take.sub (by repeat (first | exact Take.nil | exact Take.all _ | (apply Take.cons; focus (repeat (first | exact Pick.here | apply Pick.next))))))
  · have hx := d16_in hd
    refine w_seq ?_
    refine w_region rfl ?_
    refine o_asg rfl ?_
    refine w_nil ?_
    refine w_seq ?_
    refine w_region rfl ?_
    refine o_mov rfl ?_
    refine o_call (s_IndexByte hexD c) fn_58 rfl (by repeat (first | exact Take.nil | exact Take.all _ | (apply Take.cons; focus (repeat (first | exact Pick.here | apply Pick.next))))) ?_
    rintro v ho ⟨rfl, rfl⟩
    rw [d16_ix, hd]
    simp only [Option.getD_some]
    refine o_asg rfl ?_
    refine w_nil ?_
    refine w_seq ?_
    refine w_seq ?_
    refine w_region rfl ?_
    refine o_mov rfl ?_
    refine o_lt_f rfl rfl (by omega) ?_
    refine w_nil ?_
    refine w_if_f rfl ?_
    refine w_skip ?_
    refine w_seq ?_
    refine w_region rfl ?_
    refine o_mov rfl ?_
    refine o_conv int_5 (by rw [Tryd.underlying3]; rfl) rfl (by first | exact IntWalk.u8_in _ (by omega) | rfl) ?_
    refine o_asg rfl ?_
    refine w_nil ?_
    exact w_ret (ret1 rfl rfl) ⟨rfl, (show ([[(p, .cells #[vw, .bool bad] T (0, 0))]] : Hs) = [[(p, .cells #[vw, .bool (bad || (some x : Option Int).isNone)] T (0, 0))]] by cases bad <;> rfl)⟩ (Take.sub (by repeat (first | exact Take.nil | exact Take.all _ | (apply Take.cons; focus (repeat (first | exact Pick.here | apply Pick.next))))))

theorem rd_bytes {p : Nat} {T : TypeId} {bad : Bool} {vw : Value} {Hw : Hp} {W : List (List UInt8)} (hw : RW Hw vw W) (hwl : (W.headD []).length ≤ 1000000) : Ctr Tryd.prog 20 [.pointer (some ⟨p, 0, none⟩)] ([[(p, .cells #[vw, .bool bad] T (0, 0))], Hw]) (fun v ho => ∃ vw' H, (∃ xs, OwnI H v 5 .u8 xs ∧ ∀ ys, hexP (W.headD []) = some ys → xs = ys) ∧ RW Hw vw' W.tail ∧ ho = [H, [(p, .cells #[vw', .bool (bad || (hexP (W.headD [])).isNone)] T (0, 0))], Hw]) := by
  refine spec_of Tryd.func20 rfl rfl fun w0 L => ?_
  refine w_seq ?_
  refine w_region rfl ?_
  refine o_asg rfl ?_
  refine w_nil ?_
  refine w_seq ?_
  refine w_region rfl ?_
  refine o_mov rfl ?_
  refine o_call (rd_word hw) fn_16 rfl (by repeat (first | exact Take.nil | exact Take.all _ | (apply Take.cons; focus (repeat (first | exact Pick.here | apply Pick.next))))) ?_
  rintro v ho ⟨vw', rfl, hw', rfl⟩
  refine o_asg rfl ?_
  refine w_nil ?_
  refine w_seq ?_
  refine w_seq ?_
  refine w_region rfl ?_
  refine o_mov rfl ?_
  refine o_eqT rfl rfl ?_
  refine w_nil ?_
  refine w_if_d rfl (fun hd => ?_) (fun hd => ?_)
  · have hemp : (bad || W.isEmpty) = bad := by cases W with
    | nil => cases hd
    | cons a t => cases bad <;> rfl
    rw [hemp]
    have hn : hexP (W.headD []) = some [] := by rw [hd]; rfl
    refine w_emp ?_
    refine w_seq ?_
    refine w_region rfl ?_
    refine o_asg rfl ?_
    refine w_nil ?_
    exact w_ret (ret1 rfl rfl) ⟨vw', [], ⟨[], OwnI.nil _ _, fun ys hy => by rw [hn] at hy; exact Option.some.inj hy⟩, hw', (show ([[], [(p, .cells #[vw', .bool bad] T (0, 0))], Hw] : Hs) = [[], [(p, .cells #[vw', .bool (bad || (hexP (W.headD [])).isNone)] T (0, 0))], Hw] by rw [hn]; cases bad <;> rfl)⟩ (Take.sub (by repeat (first | exact Take.nil | exact Take.all _ | (apply Take.cons; focus (repeat (first | exact Pick.here | apply Pick.next))))))
  · refine w_skip ?_
    refine w_seq ?_
    refine w_seq ?_
    refine w_cut_x (X := Bool) (fun y => [(0, .pointer (some ⟨p, 0, none⟩)), (3, str (W.headD [])), (17, .bool y)]) (fun _ => [[(p, .cells #[vw', .bool (bad || W.isEmpty)] T (0, 0))], Hw]) (fun y => y = decide ((W.headD []) = [] ∨ (W.headD []).length % 2 = 1)) ?_ ?_
    · refine w_region rfl ?_
      refine o_mov rfl ?_
      refine o_eqT_s rfl rfl (fun h4_1 => ?_) (fun h4_1 => ?_)
      · refine o_mov rfl ?_
        refine o_no rfl rfl rfl ?_
        refine o_no rfl rfl rfl ?_
        refine o_no rfl rfl rfl ?_
        refine o_no rfl rfl rfl ?_
        refine o_pick_t rfl rfl ?_
        refine w_nil ?_
        exact w_again ⟨true, (decide_eq_true (by first | (left; assumption) | (right; omega) | (rintro (h | h); (first | contradiction | omega); omega))).symm, (by repeat (first | exact Sub.nil _ | refine Sub.cons rfl ?_)), (Take.sub (by repeat (first | exact Take.nil | exact Take.all _ | (apply Take.cons; focus (repeat (first | exact Pick.here | apply Pick.next))))))⟩
      · refine o_mov rfl ?_
        refine o_yes rfl rfl ?_
        refine o_mov rfl ?_
        refine o_yes rfl rfl ?_
        refine o_lenT Tryd.underlying9 rfl ?_
        refine o_yes rfl rfl ?_
        refine o_rem rfl rfl (by first | decide | omega) (by first | exact IntWalk.rem_in _ _ (by omega) | rfl) ?_
        refine o_yes rfl rfl ?_
        refine o_eq_s rfl rfl (fun h4_6 => ?_) (fun h4_6 => ?_)
        · refine o_pick_f rfl rfl ?_
          refine w_nil ?_
          exact w_again ⟨true, (decide_eq_true (by first | (left; assumption) | (right; omega) | (rintro (h | h); (first | contradiction | omega); omega))).symm, (by repeat (first | exact Sub.nil _ | refine Sub.cons rfl ?_)), (Take.sub (by repeat (first | exact Take.nil | exact Take.all _ | (apply Take.cons; focus (repeat (first | exact Pick.here | apply Pick.next))))))⟩
        · refine o_pick_f rfl rfl ?_
          refine w_nil ?_
          exact w_again ⟨false, (decide_eq_false (by first | (left; assumption) | (right; omega) | (rintro (h | h); (first | contradiction | omega); omega))).symm, (by repeat (first | exact Sub.nil _ | refine Sub.cons rfl ?_)), (Take.sub (by repeat (first | exact Take.nil | exact Take.all _ | (apply Take.cons; focus (repeat (first | exact Pick.here | apply Pick.next))))))⟩
    intro y hy
    subst hy
    refine w_if_d rfl (fun hbad => ?_) (fun hbad => ?_)
    · have hn := hexP_bad hd hbad
      refine w_emp ?_
      refine w_seq ?_
      refine w_region rfl ?_
      refine o_mov rfl ?_
      refine o_nilc rfl ?_
      refine o_fld fld_46_1 rfl rfl ?_
      refine o_store siz_4 rfl rfl rfl (by repeat (first | exact Upd.here | apply Upd.next)) rfl (by simp) ?_
      refine w_nil ?_
      refine w_seq ?_
      refine w_region rfl ?_
      refine o_asg rfl ?_
      refine w_nil ?_
      exact w_ret (ret1 rfl rfl) ⟨vw', [], ⟨[], OwnI.nil _ _, fun ys hy => by rw [hn] at hy; cases hy⟩, hw', (show ([[], [(p, .cells #[vw', .bool true] T (0, 0))], Hw] : Hs) = [[], [(p, .cells #[vw', .bool (bad || (hexP (W.headD [])).isNone)] T (0, 0))], Hw] by rw [hn]; cases bad <;> rfl)⟩ (Take.sub (by repeat (first | exact Take.nil | exact Take.all _ | (apply Take.cons; focus (repeat (first | exact Pick.here | apply Pick.next))))))
    · have hemp : (bad || W.isEmpty) = (bad || !hexF (W.headD []) (2 * 0)) := by rw [Nat.mul_zero, hexF_0]; cases W with
    | nil => exact absurd (.inl rfl) hbad
    | cons a t => cases bad <;> rfl
      rw [hemp]
      have hll := hexL_len (W.headD [])
      have hev : (W.headD []).length % 2 = 0 := by have : ¬ (W.headD []).length % 2 = 1 := fun h => hbad (.inr h); omega
      refine w_emp ?_
      refine w_skip ?_
      refine w_seq ?_
      refine w_region rfl ?_
      refine o_asg rfl ?_
      refine w_nil ?_
      refine w_seq ?_
      refine w_seq ?_
      refine w_region rfl ?_
      refine o_asg rfl ?_
      refine w_nil ?_
      refine w_block ?_
      refine w_loop (X := Nat × Value × Hp) (fun x => [(0, .pointer (some ⟨p, 0, none⟩)), (3, str (W.headD [])), (4, x.2.1), (5, .int .i64 (2 * x.1 : Nat))]) (fun x => [x.2.2, [(p, .cells #[vw', .bool (bad || !hexF (W.headD []) (2 * x.1))] T (0, 0))], Hw]) (fun x => 2 * x.1 ≤ (W.headD []).length ∧ OwnI x.2.2 x.2.1 5 .u8 ((hexL (W.headD [])).take x.1)) (fun x => (W.headD []).length - 2 * x.1) (0, .slice none 0 0, []) ⟨by simp, OwnI.nil _ _⟩ (by repeat (first | exact Sub.nil _ | refine Sub.cons rfl ?_)) (Take.sub (by repeat (first | exact Take.nil | exact Take.all _ | (apply Take.cons; focus (repeat (first | exact Pick.here | apply Pick.next)))))) ?_
      rintro ⟨h, u, H⟩ ⟨hh, hO⟩
      refine w_seq ?_
      refine w_seq ?_
      refine w_region rfl ?_
      refine o_mov rfl ?_
      refine o_mov rfl ?_
      refine o_lenT Tryd.underlying9 rfl ?_
      refine o_lt rfl rfl ?_
      refine w_nil ?_
      refine w_if_d rfl (fun hlt => ?_) (fun hlt => ?_)
      · simp only at hh hO hlt ⊢
        have htk : ((hexL (W.headD [])).take h).length = h := by rw [List.length_take]; omega
        have hd1 := d16_get ((W.headD []).getD (2 * h) 0)
        have hd2 := d16_get ((W.headD []).getD (2 * h + 1) 0)
        have hbi := hexB_in (W.headD []) h
        refine w_skip ?_
        refine w_seq ?_
        refine w_block ?_
        refine w_line [(0, true), (1, true), (2, true), (3, true), (4, true), (7, true), (8, true), (9, true), (10, true), (11, true), (5, false), (6, true), (12, false), (13, true), (14, false), (15, false), (16, true)] mixed (by kernel_rfl) ?_
        refine o_mov rfl ?_
        refine o_mov rfl ?_
        refine o_mov rfl ?_
        refine o_mov rfl ?_
        refine o_idxT (i := (2 * h : Nat)) Tryd.underlying9 rfl rfl ⟨by omega, by omega⟩ ?_
        refine o_mov rfl ?_
        refine o_mov rfl ?_
        refine o_mov rfl ?_
        refine o_add rfl rfl (by first | exact IntWalk.i64_in _ (by omega) | rfl) ?_
        refine o_idxT (i := ((2 * h : Nat) : Int) + 1) Tryd.underlying9 rfl rfl ⟨by omega, by omega⟩ ?_
        rw [Int.toNat_natCast]
        refine o_call (rd_digit ((W.headD []).getD (2 * h) 0)) fn_38 rfl (by repeat (first | exact Take.nil | exact Take.all _ | (apply Take.cons; focus (repeat (first | exact Pick.here | apply Pick.next))))) ?_
        rintro v ho ⟨rfl, rfl⟩
        try rw [hexflagA]
        try rw [hexflagB]
        refine o_shl (c := 16 * (d16 ((W.headD []).getD (2 * h) 0)).getD 0) rfl rfl (by decide) (shl_c (m := 16) rfl (by rw [Int.mul_comm]; exact IntWalk.u8_in _ (by omega))) ?_
        rw [show (((2 * h : Nat) : Int) + 1).toNat = 2 * h + 1 by omega]
        refine o_call (rd_digit ((W.headD []).getD (2 * h + 1) 0)) fn_38 rfl (by repeat (first | exact Take.nil | exact Take.all _ | (apply Take.cons; focus (repeat (first | exact Pick.here | apply Pick.next))))) ?_
        rintro v ho ⟨rfl, rfl⟩
        try rw [hexflagA]
        try rw [hexflagB]
        refine o_or (c := (hexL (W.headD [])).getD h 0) rfl rfl (by rw [hexL_get (by omega)]; exact or16 hd1 hd2) ?_
        refine o_bslN [_] slc_34 zer_5 (Nat.le_of_ble_eq_true rfl) rfl rfl (fun b4 => ?_)
        refine o_app1 slc_34 zer_5 rfl rfl rfl hO (by repeat (first | exact Pick.here | apply Pick.next)) (by repeat (first | exact Has.here | apply Has.next)) (Nat.le_of_ble_eq_true rfl) (by simp only [maxLen]; omega) (by omega) (fun v' H' hO2 => ?_)
        refine o_asg rfl ?_
        refine w_nil ?_
        refine w_inB ?_
        refine w_region rfl ?_
        refine o_mov rfl ?_
        refine o_add rfl rfl (by first | exact IntWalk.i64_in _ (by omega) | rfl) ?_
        rw [show ((2 * h : Nat) : Int) + 2 = ((2 * (h + 1) : Nat) : Int) by omega]
        refine o_asg rfl ?_
        refine w_nil ?_
        exact w_again ⟨(h + 1, v', H'), ⟨by simp only; omega, by rw [← take_getG (d := 0) (show h < (hexL (W.headD [])).length by omega)]; exact hO2⟩, (by simp only; omega), (by repeat (first | exact Sub.nil _ | refine Sub.cons rfl ?_)), (Take.sub (by repeat (first | exact Take.nil | exact Take.all _ | (apply Take.cons; focus (repeat (first | exact Pick.here | apply Pick.next))))))⟩
      · simp only at hh hO hlt ⊢
        rw [List.take_of_length_le (by omega)] at hO
        rw [show 2 * h = (W.headD []).length by omega, hexF_ok]
        by_cases hok : hexOk (W.headD [])
        · have hn := hexP_yes hd hbad hok
          rw [decide_eq_true hok]
          refine w_exit rfl ?_
          refine w_seq ?_
          refine w_region rfl ?_
          refine o_mov rfl ?_
          refine o_asg rfl ?_
          refine w_nil ?_
          exact w_ret (ret1 rfl rfl) ⟨vw', H, ⟨_, hO, fun ys hy => by rw [hn] at hy; exact Option.some.inj hy⟩, hw', (show ([H, [(p, .cells #[vw', .bool (bad || !true)] T (0, 0))], Hw] : Hs) = [H, [(p, .cells #[vw', .bool (bad || (hexP (W.headD [])).isNone)] T (0, 0))], Hw] by rw [hn]; cases bad <;> rfl)⟩ (Take.sub (by repeat (first | exact Take.nil | exact Take.all _ | (apply Take.cons; focus (repeat (first | exact Pick.here | apply Pick.next))))))
        · have hn := hexP_no hd hok
          rw [decide_eq_false hok]
          refine w_exit rfl ?_
          refine w_seq ?_
          refine w_region rfl ?_
          refine o_mov rfl ?_
          refine o_asg rfl ?_
          refine w_nil ?_
          exact w_ret (ret1 rfl rfl) ⟨vw', H, ⟨_, hO, fun ys hy => by rw [hn] at hy; cases hy⟩, hw', (show ([H, [(p, .cells #[vw', .bool (bad || !false)] T (0, 0))], Hw] : Hs) = [H, [(p, .cells #[vw', .bool (bad || (hexP (W.headD [])).isNone)] T (0, 0))], Hw] by rw [hn]; cases bad <;> rfl)⟩ (Take.sub (by repeat (first | exact Take.nil | exact Take.all _ | (apply Take.cons; focus (repeat (first | exact Pick.here | apply Pick.next))))))

end Go.Proofs.YtmcopafdooejjaaDoor
