/- The law ScoreParses: the steps of any lines, by the document and by the program. No condition. -/
import Derived.Test.YtmcopafdooejjaaDoorTy
import Derived.Test.YtmcopafdooejjaaDoorHn
import Derived.Test.YtmcopafdooejjaaDoorPq
namespace Go.Proofs.YtmcopafdooejjaaDoor
open Go.Eng
set_option linter.unusedVariables false
set_option linter.unusedSimpArgs false
set_option maxRecDepth 20000
attribute [local irreducible] WL WT
theorem alive34  : Ctr Tryd.prog 4 [] ([]) (fun v ho => v = .bool true ∧ ho = []) := by
  refine spec_of Tryd.func4 rfl rfl fun w0 L => ?_
  refine w_seq ?_
  refine w_region rfl ?_
  refine o_asg rfl ?_
  refine w_nil ?_
  refine w_seq ?_
  refine w_region rfl ?_
  refine o_call (sc_Parse T1 (by decide)) fn_5 rfl (by repeat (first | exact Take.nil | exact Take.all _ | (apply Take.cons; focus (repeat (first | exact Pick.here | apply Pick.next))))) ?_
  rintro v ho ⟨v1, Z1, Ho1, Hi1, n1, e1, rfl, hR1, hP1, -, rfl⟩
  obtain ⟨rfl, rfl, s0, s1, q0, q1, q2, q3, rfl, hsl, h77, hs5⟩ := t1_res hP1
  obtain ⟨ds, hOw, hall, hst⟩ := hR1
  have hRd := hOw.rd
  have hl2 : ([s0, s1] : List StepP).length = 2 := rfl
  obtain ⟨vs0, va0, vb0, vl0, c0, -, -, -, k40⟩ := hst 0 s0 rfl
  obtain ⟨vs1, va1, vb1, vl1, c1, k11, -, -, -⟩ := hst 1 s1 rfl
  rw [hsl] at k40
  obtain ⟨pl, cl, rfl, -⟩ := Rd.slice k40
  obtain ⟨ps, cs, rfl, -⟩ := Rd.slice k11
  refine o_mov rfl ?_
  refine o_ext rfl rfl ?_
  refine o_ext rfl rfl ?_
  refine o_ext rfl rfl ?_
  refine o_asg rfl ?_
  refine o_asg rfl ?_
  refine o_asg rfl ?_
  refine w_nil ?_
  refine w_seq ?_
  refine w_region rfl ?_
  refine o_call (sc_Parse T2 (by decide)) fn_5 rfl (by repeat (first | exact Take.nil | exact Take.all _ | (apply Take.cons; focus (repeat (first | exact Pick.here | apply Pick.next))))) ?_
  rintro v ho ⟨v2, Z2, Ho2, Hi2, n2, e2, rfl, -, hP2, -, rfl⟩
  obtain ⟨rfl, rfl⟩ := t2_res hP2
  refine o_mov rfl ?_
  refine o_ext rfl rfl ?_
  refine o_ext rfl rfl ?_
  refine o_ext rfl rfl ?_
  refine o_asg rfl ?_
  refine o_asg rfl ?_
  refine o_asg rfl ?_
  refine w_nil ?_
  refine w_seq ?_
  refine w_region rfl ?_
  refine o_mov rfl ?_
  refine o_eq_t rfl rfl (by omega) ?_
  refine o_mov rfl ?_
  refine o_yes rfl rfl ?_
  refine o_mov rfl ?_
  refine o_yes rfl rfl ?_
  refine o_eq_t rfl rfl (by omega) ?_
  refine o_pick_t rfl rfl ?_
  refine o_mov rfl ?_
  refine o_yes rfl rfl ?_
  refine o_mov rfl ?_
  refine o_yes rfl rfl ?_
  refine o_lenR hRd slc_23 rfl ?_
  refine o_yes rfl rfl ?_
  refine o_eq_t rfl rfl (by omega) ?_
  refine o_pick_t rfl rfl ?_
  refine o_mov rfl ?_
  refine o_yes rfl rfl ?_
  refine o_mov rfl ?_
  refine o_yes rfl rfl ?_
  refine o_idxR hRd (by repeat (first | exact Has.here | apply Has.next)) slc_23 rfl rfl ⟨by omega, by simp only [List.length_cons, List.length_nil]; omega⟩ (fun bb1 ff1 ar1 TT1 fr1 hm1 hg1 => ?_)
  refine o_yes rfl rfl ?_
  refine o_fld fld_37_5 rfl rfl ?_
  refine o_yes rfl rfl ?_
  refine o_load (v := .slice pl 4 cl) lod_35 rfl hm1 (hg1 _ _ c0.2.2.2.2.2) ?_
  refine o_yes rfl rfl ?_
  refine o_len slc_35 rfl ?_
  refine o_yes rfl rfl ?_
  refine o_eq_t rfl rfl (by omega) ?_
  refine o_pick_t rfl rfl ?_
  refine o_mov rfl ?_
  refine o_yes rfl rfl ?_
  refine o_mov rfl ?_
  refine o_yes rfl rfl ?_
  refine o_idxR hRd (by repeat (first | exact Has.here | apply Has.next)) slc_23 rfl rfl ⟨by omega, by simp only [List.length_cons, List.length_nil]; omega⟩ (fun bb2 ff2 ar2 TT2 fr2 hm2 hg2 => ?_)
  refine o_yes rfl rfl ?_
  refine o_fld fld_37_5 rfl rfl ?_
  refine o_yes rfl rfl ?_
  refine o_load (v := .slice pl 4 cl) lod_35 rfl hm2 (hg2 _ _ c0.2.2.2.2.2) ?_
  refine o_yes rfl rfl ?_
  refine o_idxR k40 (by repeat (first | exact Has.here | apply Has.next)) slc_35 rfl rfl ⟨by omega, by simp only [List.length_cons, List.length_nil]; omega⟩ (fun bb3 ff3 ar3 TT3 fr3 hm3 hg3 => ?_)
  refine o_yes rfl rfl ?_
  refine o_fld fld_40_2 rfl rfl ?_
  refine o_yes rfl rfl ?_
  refine o_load (v := .int .i64 q3.2.2.1) lod_3 rfl hm3 (hg3 2 _ rfl) ?_
  refine o_yes rfl rfl ?_
  refine o_eq_t rfl rfl (by omega) ?_
  refine o_pick_t rfl rfl ?_
  refine o_mov rfl ?_
  refine o_yes rfl rfl ?_
  refine o_mov rfl ?_
  refine o_yes rfl rfl ?_
  refine o_idxR hRd (by repeat (first | exact Has.here | apply Has.next)) slc_23 rfl rfl ⟨by omega, by simp only [List.length_cons, List.length_nil]; omega⟩ (fun bb4 ff4 ar4 TT4 fr4 hm4 hg4 => ?_)
  refine o_yes rfl rfl ?_
  refine o_fld fld_37_2 rfl rfl ?_
  refine o_yes rfl rfl ?_
  refine o_load (v := .slice ps s1.samples.length cs) lod_33 rfl hm4 (hg4 _ _ c1.2.2.1) ?_
  refine o_yes rfl rfl ?_
  refine o_len slc_33 rfl ?_
  refine o_yes rfl rfl ?_
  refine o_eq_t rfl rfl (by omega) ?_
  refine o_pick_t rfl rfl ?_
  refine o_mov rfl ?_
  refine o_yes rfl rfl ?_
  refine o_mov rfl ?_
  refine o_yes rfl rfl ?_
  refine o_eq_t rfl rfl (by omega) ?_
  refine o_pick_t rfl rfl ?_
  refine o_mov rfl ?_
  refine o_yes rfl rfl ?_
  refine o_mov rfl ?_
  refine o_yes rfl rfl ?_
  refine o_eq_t rfl rfl (by omega) ?_
  refine o_pick_t rfl rfl ?_
  refine o_asg rfl ?_
  refine w_nil ?_
  exact w_ret (ret1 rfl rfl) ⟨rfl, rfl⟩ (Take.sub (by repeat (first | exact Take.nil | exact Take.all _ | (apply Take.cons; focus (repeat (first | exact Pick.here | apply Pick.next))))))

theorem ScoreParses_ctr (l : List UInt8) : Ctr Tryd.prog 3 [str l] ([]) (fun v ho => v = .bool true ∧ ho = []) := by
  refine spec_of Tryd.func3 rfl rfl fun w0 L => ?_
  refine w_seq ?_
  refine w_region rfl ?_
  refine o_asg rfl ?_
  refine w_nil ?_
  refine w_seq ?_
  refine w_seq ?_
  refine w_region rfl ?_
  refine o_call (alive34) fn_4 rfl (by repeat (first | exact Take.nil | exact Take.all _ | (apply Take.cons; focus (repeat (first | exact Pick.here | apply Pick.next))))) ?_
  rintro v ho ⟨rfl, rfl⟩
  refine o_not rfl ?_
  refine w_nil ?_
  refine w_if_f rfl ?_
  refine w_skip ?_
  refine w_seq ?_
  refine w_seq ?_
  refine w_cut_x (X := Bool) (fun y => [(0, str l), (18, .bool y)]) (fun _ => []) (fun y => y = decide (4000 < l.length ∧ l.length ≤ 65536)) ?_ ?_
  · refine w_region rfl ?_
    refine o_mov rfl ?_
    refine o_lenT Tryd.underlying9 rfl ?_
    refine o_gt_s rfl rfl (fun h3_2 => ?_) (fun h3_2 => ?_)
    · refine o_mov rfl ?_
      refine o_yes rfl rfl ?_
      refine o_mov rfl ?_
      refine o_yes rfl rfl ?_
      refine o_lenT Tryd.underlying9 rfl ?_
      refine o_yes rfl rfl ?_
      refine o_le_s rfl rfl (fun h3_6 => ?_) (fun h3_6 => ?_)
      · refine o_pick_t rfl rfl ?_
        refine w_nil ?_
        exact w_again ⟨true, (decide_eq_true (by omega)).symm, (by repeat (first | exact Sub.nil _ | refine Sub.cons rfl ?_)), (Take.sub (by repeat (first | exact Take.nil | exact Take.all _ | (apply Take.cons; focus (repeat (first | exact Pick.here | apply Pick.next))))))⟩
      · refine o_pick_t rfl rfl ?_
        refine w_nil ?_
        exact w_again ⟨false, (decide_eq_false (by omega)).symm, (by repeat (first | exact Sub.nil _ | refine Sub.cons rfl ?_)), (Take.sub (by repeat (first | exact Take.nil | exact Take.all _ | (apply Take.cons; focus (repeat (first | exact Pick.here | apply Pick.next))))))⟩
    · refine o_mov rfl ?_
      refine o_no rfl rfl rfl ?_
      refine o_no rfl rfl rfl ?_
      refine o_no rfl rfl rfl ?_
      refine o_pick_f rfl rfl ?_
      refine w_nil ?_
      exact w_again ⟨false, (decide_eq_false (by omega)).symm, (by repeat (first | exact Sub.nil _ | refine Sub.cons rfl ?_)), (Take.sub (by repeat (first | exact Take.nil | exact Take.all _ | (apply Take.cons; focus (repeat (first | exact Pick.here | apply Pick.next))))))⟩
  intro y hy
  subst hy
  refine w_if_d rfl (fun hmid => ?_) (fun hmid => ?_)
  · refine w_seq ?_
    refine w_region rfl ?_
    refine o_asg rfl ?_
    refine w_nil ?_
    exact w_ret (ret1 rfl rfl) ⟨rfl, rfl⟩ (Take.sub (by repeat (first | exact Take.nil | exact Take.all _ | (apply Take.cons; focus (repeat (first | exact Pick.here | apply Pick.next))))))
  · by_cases hl : l.length ≤ 65536
    · refine w_skip ?_
      refine w_seq ?_
      refine w_region rfl ?_
      refine o_mov rfl ?_
      refine o_call (sc_Parse l hl) fn_5 rfl (by repeat (first | exact Take.nil | exact Take.all _ | (apply Take.cons; focus (repeat (first | exact Pick.here | apply Pick.next))))) ?_
      rintro v ho ⟨v1, Z, Ho1, Hi1, n1, e1, rfl, hR1, hP1, hZ, rfl⟩
      refine o_mov rfl ?_
      refine o_ext rfl rfl ?_
      refine o_ext rfl rfl ?_
      refine o_ext rfl rfl ?_
      refine o_asg rfl ?_
      refine o_asg rfl ?_
      refine o_asg rfl ?_
      refine w_nil ?_
      refine w_seq ?_
      refine w_region rfl ?_
      refine o_mov rfl ?_
      refine o_call (rf_Parse l hl) fn_6 rfl (by repeat (first | exact Take.nil | exact Take.all _ | (apply Take.cons; focus (repeat (first | exact Pick.here | apply Pick.next))))) ?_
      rintro v ho ⟨v2, Z2, Ho2, Hi2, n2, e2, rfl, hR2, hP2, -, rfl⟩
      obtain ⟨rfl, rfl, rfl⟩ := PRes.eq hP1 hP2
      refine o_mov rfl ?_
      refine o_ext rfl rfl ?_
      refine o_ext rfl rfl ?_
      refine o_ext rfl rfl ?_
      refine o_asg rfl ?_
      refine o_asg rfl ?_
      refine o_asg rfl ?_
      refine w_nil ?_
      refine w_seq ?_
      refine w_region rfl ?_
      refine o_mov rfl ?_
      refine o_call (law_to hR1 (by omega) (pres_slots hP1 hl)) fn_8 rfl (by repeat (first | exact Take.nil | exact Take.all _ | (apply Take.cons; focus (repeat (first | exact Pick.here | apply Pick.next))))) ?_
      rintro v3 ho ⟨H3, M3, hR3, rfl⟩
      refine o_mov rfl ?_
      refine o_call (ref_SameS hR3 hR2 (by omega)) fn_7 rfl (by repeat (first | exact Take.nil | exact Take.all _ | (apply Take.cons; focus (repeat (first | exact Pick.here | apply Pick.next))))) ?_
      rintro v ho ⟨rfl, rfl⟩
      refine o_mov rfl ?_
      refine o_yes rfl rfl ?_
      refine o_mov rfl ?_
      refine o_yes rfl rfl ?_
      refine o_mov rfl ?_
      refine o_yes rfl rfl ?_
      refine o_eq_t rfl rfl (by omega) ?_
      refine o_pick_t rfl rfl ?_
      refine o_mov rfl ?_
      refine o_yes rfl rfl ?_
      refine o_mov rfl ?_
      refine o_yes rfl rfl ?_
      refine o_mov rfl ?_
      refine o_yes rfl rfl ?_
      refine o_eq_t rfl rfl (by omega) ?_
      refine o_pick_t rfl rfl ?_
      refine o_asg rfl ?_
      refine w_nil ?_
      exact w_ret (ret1 rfl rfl) ⟨rfl, rfl⟩ (Take.sub (by repeat (first | exact Take.nil | exact Take.all _ | (apply Take.cons; focus (repeat (first | exact Pick.here | apply Pick.next))))))
    · refine w_skip ?_
      refine w_seq ?_
      refine w_region rfl ?_
      refine o_mov rfl ?_
      refine o_call (sc_Parse_long l (by omega)) fn_5 rfl (by repeat (first | exact Take.nil | exact Take.all _ | (apply Take.cons; focus (repeat (first | exact Pick.here | apply Pick.next))))) ?_
      rintro v ho ⟨rfl, rfl⟩
      refine o_mov rfl ?_
      refine o_ext rfl rfl ?_
      refine o_ext rfl rfl ?_
      refine o_ext rfl rfl ?_
      refine o_asg rfl ?_
      refine o_asg rfl ?_
      refine o_asg rfl ?_
      refine w_nil ?_
      refine w_seq ?_
      refine w_region rfl ?_
      refine o_mov rfl ?_
      refine o_call (rf_Parse_long l (by omega)) fn_6 rfl (by repeat (first | exact Take.nil | exact Take.all _ | (apply Take.cons; focus (repeat (first | exact Pick.here | apply Pick.next))))) ?_
      rintro v ho ⟨rfl, rfl⟩
      refine o_mov rfl ?_
      refine o_ext rfl rfl ?_
      refine o_ext rfl rfl ?_
      refine o_ext rfl rfl ?_
      refine o_asg rfl ?_
      refine o_asg rfl ?_
      refine o_asg rfl ?_
      refine w_nil ?_
      refine w_emp ?_
      refine w_emp ?_
      refine w_emp ?_
      refine w_emp ?_
      refine w_seq ?_
      refine w_region rfl ?_
      refine o_mov rfl ?_
      refine o_call (law_to (SRows.nil 37) (by simp) (fun t ht => by cases ht)) fn_8 rfl (by repeat (first | exact Take.nil | exact Take.all _ | (apply Take.cons; focus (repeat (first | exact Pick.here | apply Pick.next))))) ?_
      rintro v3 ho ⟨H3, M3, hR3, rfl⟩
      refine o_mov rfl ?_
      refine o_call (ref_SameS hR3 (SRows.nil 53) (by simp)) fn_7 rfl (by repeat (first | exact Take.nil | exact Take.all _ | (apply Take.cons; focus (repeat (first | exact Pick.here | apply Pick.next))))) ?_
      rintro v ho ⟨rfl, rfl⟩
      refine o_mov rfl ?_
      refine o_yes rfl rfl ?_
      refine o_mov rfl ?_
      refine o_yes rfl rfl ?_
      refine o_mov rfl ?_
      refine o_yes rfl rfl ?_
      refine o_eq_t rfl rfl (by omega) ?_
      refine o_pick_t rfl rfl ?_
      refine o_mov rfl ?_
      refine o_yes rfl rfl ?_
      refine o_mov rfl ?_
      refine o_yes rfl rfl ?_
      refine o_mov rfl ?_
      refine o_yes rfl rfl ?_
      refine o_eq_t rfl rfl (by omega) ?_
      refine o_pick_t rfl rfl ?_
      refine o_asg rfl ?_
      refine w_nil ?_
      exact w_ret (ret1 rfl rfl) ⟨rfl, rfl⟩ (Take.sub (by repeat (first | exact Take.nil | exact Take.all _ | (apply Take.cons; focus (repeat (first | exact Pick.here | apply Pick.next))))))

end Go.Proofs.YtmcopafdooejjaaDoor
