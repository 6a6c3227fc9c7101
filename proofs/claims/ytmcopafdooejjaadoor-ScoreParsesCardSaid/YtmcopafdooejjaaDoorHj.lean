/- Contracts: steps of lines, by the program. No condition but on the length. -/
import Derived.Test.YtmcopafdooejjaaDoorTy
import Derived.Test.YtmcopafdooejjaaDoorHi
import Derived.Test.YtmcopafdooejjaaDoorPx
namespace Go.Proofs.YtmcopafdooejjaaDoor
open Go.Eng
set_option linter.unusedVariables false
set_option linter.unusedSimpArgs false
set_option maxRecDepth 20000
attribute [local irreducible] WL WT
theorem sc_Parse_long (l : List UInt8) (hl : 65536 < l.length) : Ctr Tryd.prog 5 [str l] ([]) (fun v ho => v = .tuple #[.slice none 0 0, .int .i64 0, .int .i64 2] ∧ ho = []) := by
  refine spec_of Tryd.func5 rfl rfl fun w0 L => ?_
  refine w_seq ?_
  refine w_region rfl ?_
  refine o_asg rfl ?_
  refine o_asg rfl ?_
  refine o_asg rfl ?_
  refine w_nil ?_
  refine w_seq ?_
  refine w_seq ?_
  refine w_region rfl ?_
  refine o_mov rfl ?_
  refine o_lenT Tryd.underlying9 rfl ?_
  refine o_gt_t rfl rfl (by omega) ?_
  refine w_nil ?_
  refine w_if_t rfl ?_
  refine w_seq ?_
  refine w_region rfl ?_
  refine o_asg rfl ?_
  refine o_asg rfl ?_
  refine o_asg rfl ?_
  refine w_nil ?_
  exact w_ret (ret3 rfl rfl rfl rfl) ⟨rfl, rfl⟩ (Take.sub (by repeat (first | exact Take.nil | exact Take.all _ | (apply Take.cons; focus (repeat (first | exact Pick.here | apply Pick.next))))))

theorem sc_Parse (l : List UInt8) (hl : l.length ≤ 65536) : Ctr Tryd.prog 5 [str l] ([]) (fun v ho => ∃ v1 L Ho Hi n e, v = .tuple #[v1, .int .i64 n, .int .i64 e] ∧ SRows Ho Hi v1 37 L ∧ PRes (parseL 1 [] (cutB 10 l)) L n e ∧ L.length ≤ 4096 ∧ ho = [Ho, Hi]) := by
  refine spec_of Tryd.func5 rfl rfl fun w0 L => ?_
  refine w_seq ?_
  refine w_region rfl ?_
  refine o_asg rfl ?_
  refine o_asg rfl ?_
  refine o_asg rfl ?_
  refine w_nil ?_
  refine w_seq ?_
  refine w_seq ?_
  refine w_region rfl ?_
  refine o_mov rfl ?_
  refine o_lenT Tryd.underlying9 rfl ?_
  refine o_gt_f rfl rfl (by omega) ?_
  refine w_nil ?_
  refine w_if_f rfl ?_
  refine w_emp ?_
  refine w_emp ?_
  refine w_skip ?_
  refine w_seq ?_
  refine w_region rfl ?_
  refine o_asg rfl ?_
  refine w_nil ?_
  refine w_seq ?_
  refine w_seq ?_
  refine w_region rfl ?_
  refine o_asg rfl ?_
  refine w_nil ?_
  refine w_block ?_
  refine w_loop (X := Nat × List UInt8 × List StepP × Value × Hp × Hp) (fun x => [(0, str x.2.1), (5, x.2.2.2.1), (6, .int .i64 x.1)]) (fun x => [x.2.2.2.2.1, x.2.2.2.2.2]) (fun x => parseL 1 [] (cutB 10 l) = parseL x.1 x.2.2.1 (cutB 10 x.2.1) ∧ x.1 + x.2.1.length ≤ 65537 ∧ SRows x.2.2.2.2.1 x.2.2.2.2.2 x.2.2.2.1 37 x.2.2.1 ∧ x.2.2.1.length ≤ 4096) (fun x => x.2.1.length) (1, l, [], .slice none 0 0, [], []) ⟨rfl, by simp only; omega, SRows.nil _, by simp⟩ (by repeat (first | exact Sub.nil _ | refine Sub.cons rfl ?_)) (Take.sub (by repeat (first | exact Take.nil | exact Take.all _ | (apply Take.cons; focus (repeat (first | exact Pick.here | apply Pick.next)))))) ?_
  rintro ⟨k, r, out, u, Ho, Hi⟩ ⟨hinv, hk, hR, hol⟩
  simp only at hinv hk hR hol ⊢
  refine w_seq ?_
  refine w_seq ?_
  refine w_region rfl ?_
  refine o_mov rfl ?_
  refine o_neT rfl rfl ?_
  refine w_nil ?_
  refine w_if_d rfl (fun hr => ?_) (fun hr => ?_)
  · refine w_skip ?_
    refine w_seq ?_
    refine w_block ?_
    refine w_seq ?_
    refine w_region rfl ?_
    refine o_mov rfl ?_
    refine o_call (s_Cut r 10 (by omega)) fn_9 rfl (by repeat (first | exact Take.nil | exact Take.all _ | (apply Take.cons; focus (repeat (first | exact Pick.here | apply Pick.next))))) ?_
    rintro v ho ⟨a, b, f, rfl, hf1, hf2, rfl⟩
    refine o_mov rfl ?_
    refine o_ext rfl rfl ?_
    refine o_ext rfl rfl ?_
    refine o_ext rfl rfl ?_
    refine o_asg rfl ?_
    refine o_asg rfl ?_
    refine o_asg rfl ?_
    refine w_nil ?_
    cases f
    · obtain ⟨rfl, rfl, hno⟩ := hf2 rfl
      rw [cutB_none hno, parse_tail hr] at hinv
      refine w_seq ?_
      refine w_region rfl ?_
      refine o_mov rfl ?_
      refine o_asg rfl ?_
      refine w_nil ?_
      refine w_seq ?_
      refine w_seq ?_
      refine w_region rfl ?_
      refine o_mov rfl ?_
      refine o_mov rfl ?_
      refine o_no rfl rfl rfl ?_
      refine o_no rfl rfl rfl ?_
      refine o_no rfl rfl rfl ?_
      refine o_skip rfl rfl ?_
      refine o_skip rfl rfl ?_
      refine o_skip rfl rfl ?_
      refine o_no rfl rfl rfl ?_
      refine o_pick_f rfl rfl ?_
      refine w_nil ?_
      refine w_if_f rfl ?_
      obtain ⟨cs, hOw, hall, hst⟩ := hR
      have hcw : ∀ u ∈ cutB 32 a, u.length ≤ 1000000 := fun u hu => by have := cutB_word hu; omega
      have hcc := cutB_count 32 a
      refine w_skip ?_
      refine w_seq ?_
      refine w_region rfl ?_
      refine o_mov rfl ?_
      refine o_call (s_Split a 32 (by omega)) fn_10 rfl (by repeat (first | exact Take.nil | exact Take.all _ | (apply Take.cons; focus (repeat (first | exact Pick.here | apply Pick.next))))) ?_
      rintro vs ho ⟨Hs_, hS, rfl⟩
      have hSr : RW Hs_ vs (cutB 32 a) := hS.rd
      have hline : lineS a = stepsP (cutB 32 a) := rfl
      obtain ⟨ps, cs0, rfl, -⟩ := Rd.slice hS.rd
      rcases hcb : cutB 32 a with _ | ⟨w, V⟩
      · exact absurd hcb (cutB_ne 32 a)
      rw [hcb] at hSr hline hcw hcc
      refine o_bld bld_46 rfl rfl ?_
      refine o_alloc zer_46 (fun b3 => ?_)
      refine o_storeW siz_46 rfl rfl rfl (by repeat (first | exact Upd.here | apply Upd.next)) rfl rfl ?_
      refine w_nil ?_
      refine w_seq ?_
      refine w_region rfl ?_
      refine o_call (rd_steps hSr (fun u hu => hcw u (List.mem_cons_of_mem _ hu)) (by simp only [List.length_cons] at hcc; omega)) fn_11 rfl (by repeat (first | exact Take.nil | exact Take.all _ | (apply Take.cons; focus (repeat (first | exact Pick.here | apply Pick.next))))) ?_
      rintro v2 ho ⟨vw', W', bad', L2, Ho2, Hi2, ⟨cs2, hOw2, hall2, hst2⟩, hw', hres, hll, rfl⟩
      have hw2 := hw'
      unfold RW at hw2
      refine o_asg rfl ?_
      refine w_nil ?_
      refine w_seq ?_
      refine w_region rfl ?_
      refine o_mov rfl ?_
      refine o_mov rfl ?_
      refine o_app (news := cs2) slc_23 zer_37 rfl rfl rfl hOw (by repeat (first | exact Pick.here | apply Pick.next)) hOw2.rd (by repeat (first | exact Has.here | apply Has.next)) (fun u hu => List.all_eq_true.1 hall2 u hu) (by simp only [maxLen]; omega) (by omega) (fun v' H' hO hn => ?_)
      refine o_asg rfl ?_
      refine w_nil ?_
      refine w_seq ?_
      refine w_region rfl ?_
      refine o_mov rfl ?_
      refine o_not rfl ?_
      refine o_mov rfl ?_
      refine o_no rfl rfl rfl ?_
      refine o_no rfl rfl rfl ?_
      refine o_pick_t rfl rfl ?_
      refine o_mov rfl ?_
      refine o_no rfl rfl rfl ?_
      refine o_no rfl rfl rfl ?_
      refine o_no rfl rfl rfl ?_
      refine o_no rfl rfl rfl ?_
      refine o_pick_t rfl rfl ?_
      refine o_mov rfl ?_
      refine o_no rfl rfl rfl ?_
      refine o_no rfl rfl rfl ?_
      refine o_no rfl rfl rfl ?_
      refine o_pick_t rfl rfl ?_
      refine w_nil ?_
      refine w_if_t rfl ?_
      refine w_emp ?_
      refine w_emp ?_
      refine w_seq ?_
      refine w_region rfl ?_
      refine o_mov rfl ?_
      refine o_asg rfl ?_
      refine o_asg rfl ?_
      refine o_asg rfl ?_
      refine w_nil ?_
      exact w_ret (ret3 rfl rfl rfl rfl) ⟨_, [], [], [], _, _, rfl, SRows.nil _, PRes.no (hinv.trans rfl), by simp, rfl⟩ (Take.sub (by repeat (first | exact Take.nil | exact Take.all _ | (apply Take.cons; focus (repeat (first | exact Pick.here | apply Pick.next))))))
    · obtain ⟨hno, hra⟩ := hf1 rfl
      have hrl := congrArg List.length hra
      simp only [List.length_append, List.length_cons] at hrl
      rw [hra, cutB_first hno] at hinv
      have hbn := cutB_ne 10 b
      refine w_seq ?_
      refine w_region rfl ?_
      refine o_mov rfl ?_
      refine o_asg rfl ?_
      refine w_nil ?_
      refine w_seq ?_
      refine w_seq ?_
      refine w_cut_x (X := Bool) (fun y => [(5, u), (6, .int .i64 k), (7, str a), (0, str b), (9, .bool true), (35, .bool y)]) (fun _ => [Ho, Hi]) (fun y => y = decide (skipL a)) ?_ ?_
      · refine w_region rfl ?_
        refine o_mov rfl ?_
        refine o_mov rfl ?_
        refine o_yes rfl rfl ?_
        refine o_mov rfl ?_
        refine o_yes rfl rfl ?_
        refine o_eqT_s rfl rfl (fun h9_3 => ?_) (fun h9_3 => ?_)
        · refine o_yes rfl rfl ?_
          refine o_mov rfl ?_
          refine o_no rfl rfl rfl ?_
          refine o_no rfl rfl rfl ?_
          refine o_no rfl rfl rfl ?_
          refine o_yes rfl rfl ?_
          refine o_pick_t rfl rfl ?_
          refine o_pick_t rfl rfl ?_
          refine w_nil ?_
          exact w_again ⟨true, (decide_eq_true (by unfold skipL; (try simp only [z0] at *); first | (left; assumption) | (right; omega) | (rintro (h | h); (first | contradiction | omega); omega))).symm, (by repeat (first | exact Sub.nil _ | refine Sub.cons rfl ?_)), (Take.sub (by repeat (first | exact Take.nil | exact Take.all _ | (apply Take.cons; focus (repeat (first | exact Pick.here | apply Pick.next))))))⟩
        · refine o_yes rfl rfl ?_
          refine o_mov rfl ?_
          refine o_yes rfl rfl ?_
          refine o_mov rfl ?_
          refine o_yes rfl rfl ?_
          refine o_idxT Tryd.underlying9 rfl rfl ⟨by omega, by have := List.length_pos_iff.2 h9_3; omega⟩ ?_
          refine o_yes rfl rfl ?_
          refine o_eq_s rfl rfl (fun h9_7 => ?_) (fun h9_7 => ?_)
          · refine o_yes rfl rfl ?_
            refine o_pick_f rfl rfl ?_
            refine o_pick_t rfl rfl ?_
            refine w_nil ?_
            exact w_again ⟨true, (decide_eq_true (by unfold skipL; (try simp only [z0] at *); first | (left; assumption) | (right; omega) | (rintro (h | h); (first | contradiction | omega); omega))).symm, (by repeat (first | exact Sub.nil _ | refine Sub.cons rfl ?_)), (Take.sub (by repeat (first | exact Take.nil | exact Take.all _ | (apply Take.cons; focus (repeat (first | exact Pick.here | apply Pick.next))))))⟩
          · refine o_yes rfl rfl ?_
            refine o_pick_f rfl rfl ?_
            refine o_pick_t rfl rfl ?_
            refine w_nil ?_
            exact w_again ⟨false, (decide_eq_false (by unfold skipL; (try simp only [z0] at *); first | (left; assumption) | (right; omega) | (rintro (h | h); (first | contradiction | omega); omega))).symm, (by repeat (first | exact Sub.nil _ | refine Sub.cons rfl ?_)), (Take.sub (by repeat (first | exact Take.nil | exact Take.all _ | (apply Take.cons; focus (repeat (first | exact Pick.here | apply Pick.next))))))⟩
      intro y hy
      subst hy
      refine w_if_d rfl (fun hsk => ?_) (fun hsk => ?_)
      · refine w_exit rfl ?_
        refine w_region rfl ?_
        refine o_mov rfl ?_
        refine o_add rfl rfl (by first | exact IntWalk.i64_in _ (by omega) | rfl) ?_
        refine o_asg rfl ?_
        refine w_nil ?_
        exact w_again ⟨(k + 1, b, out, u, Ho, Hi), ⟨by simp only; rw [hinv, parse_skip hbn hsk], by simp only; omega, hR, hol⟩, (by simp only; omega), (by repeat (first | exact Sub.nil _ | refine Sub.cons rfl ?_)), (Take.sub (by repeat (first | exact Take.nil | exact Take.all _ | (apply Take.cons; focus (repeat (first | exact Pick.here | apply Pick.next))))))⟩
      · obtain ⟨cs, hOw, hall, hst⟩ := hR
        have hcw : ∀ u ∈ cutB 32 a, u.length ≤ 1000000 := fun u hu => by have := cutB_word hu; omega
        have hcc := cutB_count 32 a
        refine w_skip ?_
        refine w_seq ?_
        refine w_region rfl ?_
        refine o_mov rfl ?_
        refine o_call (s_Split a 32 (by omega)) fn_10 rfl (by repeat (first | exact Take.nil | exact Take.all _ | (apply Take.cons; focus (repeat (first | exact Pick.here | apply Pick.next))))) ?_
        rintro vs ho ⟨Hs_, hS, rfl⟩
        have hSr : RW Hs_ vs (cutB 32 a) := hS.rd
        have hline : lineS a = stepsP (cutB 32 a) := rfl
        obtain ⟨ps, cs0, rfl, -⟩ := Rd.slice hS.rd
        rcases hcb : cutB 32 a with _ | ⟨w, V⟩
        · exact absurd hcb (cutB_ne 32 a)
        rw [hcb] at hSr hline hcw hcc
        refine o_bld bld_46 rfl rfl ?_
        refine o_alloc zer_46 (fun b6 => ?_)
        refine o_storeW siz_46 rfl rfl rfl (by repeat (first | exact Upd.here | apply Upd.next)) rfl rfl ?_
        refine w_nil ?_
        refine w_seq ?_
        refine w_region rfl ?_
        refine o_call (rd_steps hSr (fun u hu => hcw u (List.mem_cons_of_mem _ hu)) (by simp only [List.length_cons] at hcc; omega)) fn_11 rfl (by repeat (first | exact Take.nil | exact Take.all _ | (apply Take.cons; focus (repeat (first | exact Pick.here | apply Pick.next))))) ?_
        rintro v2 ho ⟨vw', W', bad', L2, Ho2, Hi2, ⟨cs2, hOw2, hall2, hst2⟩, hw', hres, hll, rfl⟩
        have hw2 := hw'
        unfold RW at hw2
        refine o_asg rfl ?_
        refine w_nil ?_
        cases bad'
        · refine w_seq ?_
          refine w_region rfl ?_
          refine o_mov rfl ?_
          refine o_mov rfl ?_
          refine o_app (news := cs2) slc_23 zer_37 rfl rfl rfl hOw (by repeat (first | exact Pick.here | apply Pick.next)) hOw2.rd (by repeat (first | exact Has.here | apply Has.next)) (fun u hu => List.all_eq_true.1 hall2 u hu) (by simp only [maxLen]; omega) (by omega) (fun v' H' hO hn => ?_)
          refine o_asg rfl ?_
          refine w_nil ?_
          refine w_seq ?_
          refine w_region rfl ?_
          refine o_mov rfl ?_
          refine o_not rfl ?_
          refine o_mov rfl ?_
          refine o_yes rfl rfl ?_
          refine o_fld fld_46_1 rfl rfl ?_
          refine o_yes rfl rfl ?_
          refine o_load (v := .bool false) lod_4 rfl (by repeat (first | exact At.here | (refine At.inA ?_; assumption) | apply At.next)) rfl ?_
          refine o_pick_f rfl rfl ?_
          refine o_mov rfl ?_
          refine o_yes rfl rfl ?_
          refine o_fld fld_46_0 rfl rfl ?_
          refine o_yes rfl rfl ?_
          refine o_load lod_43 rfl (by repeat (first | exact At.here | (refine At.inA ?_; assumption) | apply At.next)) rfl ?_
          refine o_yes rfl rfl ?_
          refine o_lenR hw2 slc_43 rfl ?_
          refine o_yes rfl rfl ?_
          refine o_gt_s rfl rfl (fun hwl0 => ?_) (fun hwl0 => ?_)
          · refine o_pick_f rfl rfl ?_
            refine o_mov rfl ?_
            refine o_no rfl rfl rfl ?_
            refine o_no rfl rfl rfl ?_
            refine o_no rfl rfl rfl ?_
            refine o_pick_t rfl rfl ?_
            refine w_nil ?_
            refine w_if_t rfl ?_
            refine w_emp ?_
            refine w_emp ?_
            refine w_seq ?_
            refine w_region rfl ?_
            refine o_mov rfl ?_
            refine o_asg rfl ?_
            refine o_asg rfl ?_
            refine o_asg rfl ?_
            refine w_nil ?_
            exact w_ret (ret3 rfl rfl rfl rfl) ⟨_, [], [], [], _, _, rfl, SRows.nil _, PRes.no (hinv.trans (parse_none hbn hsk (by rw [hline]; exact hres.isNone (.inr (fun h => by rw [h] at hwl0; simp at hwl0))))), by simp, rfl⟩ (Take.sub (by repeat (first | exact Take.nil | exact Take.all _ | (apply Take.cons; focus (repeat (first | exact Pick.here | apply Pick.next))))))
          · refine o_pick_f rfl rfl ?_
            have hW' : W' = [] := List.eq_nil_of_length_eq_zero (by omega)
            refine o_mov rfl ?_
            refine o_yes rfl rfl ?_
            refine o_mov rfl ?_
            refine o_yes rfl rfl ?_
            refine o_lenR hO.rd slc_23 rfl ?_
            refine o_yes rfl rfl ?_
            refine o_gt_s rfl rfl (fun hbig => ?_) (fun hbig => ?_)
            · refine o_pick_f rfl rfl ?_
              refine w_nil ?_
              refine w_if_t rfl ?_
              refine w_emp ?_
              refine w_emp ?_
              refine w_seq ?_
              refine w_region rfl ?_
              refine o_mov rfl ?_
              refine o_asg rfl ?_
              refine o_asg rfl ?_
              refine o_asg rfl ?_
              refine w_nil ?_
              exact w_ret (ret3 rfl rfl rfl rfl) ⟨_, [], [], [], _, _, rfl, SRows.nil _, PRes.no (hinv.trans ((parse_some hbn hsk (by rw [hline]; exact hres.isSome hW')).trans (if_pos (by rw [List.length_append]; omega)))), by simp, rfl⟩ (Take.sub (by repeat (first | exact Take.nil | exact Take.all _ | (apply Take.cons; focus (repeat (first | exact Pick.here | apply Pick.next))))))
            · refine o_pick_f rfl rfl ?_
              refine w_nil ?_
              refine w_if_f rfl ?_
              have hnew := SRows.app hOw.1 hO hall hall2 hst hst2
              refine WT.sub (h' := Hi2 :: Hi :: H' :: []) ?_ (Sub.refl _) (Take.sub (by repeat (first | exact Take.nil | exact Take.all _ | (apply Take.cons; focus (repeat (first | exact Pick.here | apply Pick.next))))))
              refine w_merge ?_
              refine w_skip ?_
              refine w_inB ?_
              refine w_region rfl ?_
              refine o_mov rfl ?_
              refine o_add rfl rfl (by first | exact IntWalk.i64_in _ (by omega) | rfl) ?_
              refine o_asg rfl ?_
              refine w_nil ?_
              exact w_again ⟨(k + 1, b, out ++ L2, v', H', Hi2 ++ Hi), ⟨by simp only; rw [hinv, parse_some hbn hsk (by rw [hline]; exact hres.isSome hW'), if_neg (by rw [List.length_append]; omega)], by simp only; omega, hnew, by simp only [List.length_append]; omega⟩, (by simp only; omega), (by repeat (first | exact Sub.nil _ | refine Sub.cons rfl ?_)), (Take.sub (by repeat (first | exact Take.nil | exact Take.all _ | (apply Take.cons; focus (repeat (first | exact Pick.here | apply Pick.next))))))⟩
        · refine w_seq ?_
          refine w_region rfl ?_
          refine o_mov rfl ?_
          refine o_mov rfl ?_
          refine o_app (news := cs2) slc_23 zer_37 rfl rfl rfl hOw (by repeat (first | exact Pick.here | apply Pick.next)) hOw2.rd (by repeat (first | exact Has.here | apply Has.next)) (fun u hu => List.all_eq_true.1 hall2 u hu) (by simp only [maxLen]; omega) (by omega) (fun v' H' hO hn => ?_)
          refine o_asg rfl ?_
          refine w_nil ?_
          refine w_seq ?_
          refine w_region rfl ?_
          refine o_mov rfl ?_
          refine o_not rfl ?_
          refine o_mov rfl ?_
          refine o_yes rfl rfl ?_
          refine o_fld fld_46_1 rfl rfl ?_
          refine o_yes rfl rfl ?_
          refine o_load (v := .bool true) lod_4 rfl (by repeat (first | exact At.here | (refine At.inA ?_; assumption) | apply At.next)) rfl ?_
          refine o_pick_f rfl rfl ?_
          refine o_mov rfl ?_
          refine o_no rfl rfl rfl ?_
          refine o_no rfl rfl rfl ?_
          refine o_no rfl rfl rfl ?_
          refine o_no rfl rfl rfl ?_
          refine o_pick_t rfl rfl ?_
          refine o_mov rfl ?_
          refine o_no rfl rfl rfl ?_
          refine o_no rfl rfl rfl ?_
          refine o_no rfl rfl rfl ?_
          refine o_pick_t rfl rfl ?_
          refine w_nil ?_
          refine w_if_t rfl ?_
          refine w_emp ?_
          refine w_emp ?_
          refine w_seq ?_
          refine w_region rfl ?_
          refine o_mov rfl ?_
          refine o_asg rfl ?_
          refine o_asg rfl ?_
          refine o_asg rfl ?_
          refine w_nil ?_
          exact w_ret (ret3 rfl rfl rfl rfl) ⟨_, [], [], [], _, _, rfl, SRows.nil _, PRes.no (hinv.trans (parse_none hbn hsk (by rw [hline]; exact hres.isNone (.inl rfl)))), by simp, rfl⟩ (Take.sub (by repeat (first | exact Take.nil | exact Take.all _ | (apply Take.cons; focus (repeat (first | exact Pick.here | apply Pick.next))))))
  · obtain rfl : r = [] := by simpa using hr
    refine w_exit rfl ?_
    refine w_seq ?_
    refine w_region rfl ?_
    refine o_mov rfl ?_
    refine o_asg rfl ?_
    refine o_asg rfl ?_
    refine o_asg rfl ?_
    refine w_nil ?_
    exact w_ret (ret3 rfl rfl rfl rfl) ⟨_, out, Ho, Hi, _, _, rfl, hR, PRes.yes (hinv.trans (parse_end _ _)), hol, rfl⟩ (Take.sub (by repeat (first | exact Take.nil | exact Take.all _ | (apply Take.cons; focus (repeat (first | exact Pick.here | apply Pick.next))))))

end Go.Proofs.YtmcopafdooejjaaDoor
