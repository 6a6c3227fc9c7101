/- Contracts: steps of lines, by the document. No condition but on the length. -/
import Derived.Test.YtmcopafdooejjaaDoorTy
import Derived.Test.YtmcopafdooejjaaDoorHk
namespace Go.Proofs.YtmcopafdooejjaaDoor
open Go.Eng
set_option linter.unusedVariables false
set_option linter.unusedSimpArgs false
set_option maxRecDepth 20000
attribute [local irreducible] WL WT
theorem rf_Parse_long (l : List UInt8) (hl : 65536 < l.length) : Ctr Tryd.prog 6 [str l] ([]) (fun v ho => v = .tuple #[.slice none 0 0, .int .i64 0, .int .i64 2] ∧ ho = []) := by
  refine spec_of Tryd.func6 rfl rfl fun w0 L => ?_
  refine w_seq ?_
  refine w_region rfl ?_
  refine o_asg rfl ?_
  refine o_asg rfl ?_
  refine o_asg rfl ?_
  refine w_nil ?_
  refine w_seq ?_
  refine w_seq ?_
  refine w_region rfl ?_
  refine o_mov rfl ?_
  refine o_lenT Tryd.underlying9 rfl ?_
  refine o_gt_t rfl rfl (by omega) ?_
  refine w_nil ?_
  refine w_if_t rfl ?_
  refine w_seq ?_
  refine w_region rfl ?_
  refine o_asg rfl ?_
  refine o_asg rfl ?_
  refine o_asg rfl ?_
  refine w_nil ?_
  exact w_ret (ret3 rfl rfl rfl rfl) ⟨rfl, rfl⟩ (Take.sub (by repeat (first | exact Take.nil | exact Take.all _ | (apply Take.cons; focus (repeat (first | exact Pick.here | apply Pick.next))))))

theorem rf_Parse (l : List UInt8) (hl : l.length ≤ 65536) : Ctr Tryd.prog 6 [str l] ([]) (fun v ho => ∃ v1 L Ho Hi n e, v = .tuple #[v1, .int .i64 n, .int .i64 e] ∧ SRows Ho Hi v1 53 L ∧ PRes (parseL 1 [] (cutB 10 l)) L n e ∧ L.length ≤ 4096 ∧ ho = [Ho, Hi]) := by
  refine spec_of Tryd.func6 rfl rfl fun w0 L => ?_
  refine w_seq ?_
  refine w_region rfl ?_
  refine o_asg rfl ?_
  refine o_asg rfl ?_
  refine o_asg rfl ?_
  refine w_nil ?_
  refine w_seq ?_
  refine w_seq ?_
  refine w_region rfl ?_
  refine o_mov rfl ?_
  refine o_lenT Tryd.underlying9 rfl ?_
  refine o_gt_f rfl rfl (by omega) ?_
  refine w_nil ?_
  refine w_if_f rfl ?_
  have hcc := cutB_count 10 l
  have hcl := cutB_len 10 l
  have hcw2 : ∀ i, i < (cutB 10 l).length → ((cutB 10 l).getD i []).length ≤ l.length := fun i hi => cutB_word (getD_mem hi)
  refine w_skip ?_
  refine w_seq ?_
  refine w_region rfl ?_
  refine o_mov rfl ?_
  refine o_call (ref_Cut l 10 (by omega)) fn_12 rfl (by repeat (first | exact Take.nil | exact Take.all _ | (apply Take.cons; focus (repeat (first | exact Pick.here | apply Pick.next))))) ?_
  rintro vs ho ⟨Hs_, hS, rfl⟩
  have hS2 := hS.rd
  obtain ⟨pw, cw, rfl, hcw⟩ := Rd.slice hS2
  refine o_asg rfl ?_
  refine w_nil ?_
  obtain ⟨Ls, hLs⟩ : ∃ L, cutB 10 l = L := ⟨_, rfl⟩
  rw [hLs] at hcc hcl hcw2 hcw hS2 ⊢
  refine w_emp ?_
  refine w_emp ?_
  refine w_seq ?_
  refine w_region rfl ?_
  refine o_asg rfl ?_
  refine w_nil ?_
  refine w_seq ?_
  refine w_seq ?_
  refine w_region rfl ?_
  refine o_asg rfl ?_
  refine w_nil ?_
  refine w_block ?_
  refine w_loop (X := Nat × List StepP × Value × Hp × Hp) (fun x => [(5, .slice pw Ls.length cw), (6, x.2.2.1), (7, .int .i64 x.1)]) (fun x => [x.2.2.2.1, x.2.2.2.2, Hs_]) (fun x => x.1 + 1 ≤ Ls.length ∧ parseL 1 [] Ls = parseL (x.1 + 1) x.2.1 (Ls.drop x.1) ∧ SRows x.2.2.2.1 x.2.2.2.2 x.2.2.1 53 x.2.1 ∧ x.2.1.length ≤ 4096) (fun x => Ls.length - x.1) (0, [], .slice none 0 0, [], []) ⟨by simp only; omega, by simp, SRows.nil _, by simp⟩ (by repeat (first | exact Sub.nil _ | refine Sub.cons rfl ?_)) (Take.sub (by repeat (first | exact Take.nil | exact Take.all _ | (apply Take.cons; focus (repeat (first | exact Pick.here | apply Pick.next)))))) ?_
  rintro ⟨i, out, u, Ho, Hi⟩ ⟨hi, hinv, hR, hol⟩
  simp only at hi hinv hR hol ⊢
  refine w_seq ?_
  refine w_seq ?_
  refine w_region rfl ?_
  refine o_mov rfl ?_
  refine o_mov rfl ?_
  refine o_lenR hS2 slc_43 rfl ?_
  refine o_sub rfl rfl (by first | exact IntWalk.i64_in _ (by omega) | rfl) ?_
  refine o_lt rfl rfl ?_
  refine w_nil ?_
  refine w_if_d rfl (fun hlt => ?_) (fun hlt => ?_)
  · have hi2 : i < Ls.length := by omega
    have hal := hcw2 i hi2
    have hdr : Ls.drop i = Ls.getD i [] :: Ls.drop (i + 1) := by rw [List.drop_eq_getElem_cons hi2]; simp [hi2]
    have hbn : Ls.drop (i + 1) ≠ [] := fun h => by have := congrArg List.length h; simp at this; omega
    rw [hdr] at hinv
    obtain ⟨a, ha⟩ : ∃ a, Ls.getD i [] = a := ⟨_, rfl⟩
    rw [ha] at hinv hal
    refine w_skip ?_
    refine w_seq ?_
    refine w_block ?_
    refine w_seq ?_
    refine w_seq ?_
    refine w_cut_x (X := Bool) (fun y => [(5, .slice pw Ls.length cw), (6, u), (7, .int .i64 i), (34, .bool y)]) (fun _ => [Ho, Hi, Hs_]) (fun y => y = decide (skipL a)) ?_ ?_
    · refine w_region rfl ?_
      refine o_mov rfl ?_
      refine o_mov rfl ?_
      refine o_idxR hS2 (by repeat (first | exact Has.here | apply Has.next)) slc_43 rfl rfl ⟨by omega, by omega⟩ (fun bb1 ff1 ar1 TT1 fr1 hm1 hg1 => ?_)
      refine o_load (v := str a) lod_9 rfl hm1 (hg1 0 _ (by rw [show (i : Int).toNat * 1 + 0 = i by omega, ← ha]; exact RW.cell hi2)) ?_
      refine o_eqT_s rfl rfl (fun h8_4 => ?_) (fun h8_4 => ?_)
      · refine o_mov rfl ?_
        refine o_no rfl rfl rfl ?_
        refine o_no rfl rfl rfl ?_
        refine o_no rfl rfl rfl ?_
        refine o_no rfl rfl rfl ?_
        refine o_no rfl rfl rfl ?_
        refine o_no rfl rfl rfl ?_
        refine o_pick_t rfl rfl ?_
        refine w_nil ?_
        exact w_again ⟨true, (decide_eq_true (by unfold skipL; (try simp only [z0] at *); first | (left; assumption) | (right; omega) | (rintro (h | h); (first | contradiction | omega); omega))).symm, (by repeat (first | exact Sub.nil _ | refine Sub.cons rfl ?_)), (Take.sub (by repeat (first | exact Take.nil | exact Take.all _ | (apply Take.cons; focus (repeat (first | exact Pick.here | apply Pick.next))))))⟩
      · refine o_mov rfl ?_
        refine o_yes rfl rfl ?_
        refine o_mov rfl ?_
        refine o_yes rfl rfl ?_
        refine o_mov rfl ?_
        refine o_yes rfl rfl ?_
        refine o_idxR hS2 (by repeat (first | exact Has.here | apply Has.next)) slc_43 rfl rfl ⟨by omega, by omega⟩ (fun bb2 ff2 ar2 TT2 fr2 hm2 hg2 => ?_)
        refine o_yes rfl rfl ?_
        refine o_load (v := str a) lod_9 rfl hm2 (hg2 0 _ (by rw [show (i : Int).toNat * 1 + 0 = i by omega, ← ha]; exact RW.cell hi2)) ?_
        refine o_yes rfl rfl ?_
        refine o_idxT Tryd.underlying9 rfl rfl ⟨by omega, by have := List.length_pos_iff.2 h8_4; omega⟩ ?_
        refine o_yes rfl rfl ?_
        refine o_eq_s rfl rfl (fun h8_11 => ?_) (fun h8_11 => ?_)
        · refine o_pick_f rfl rfl ?_
          refine w_nil ?_
          exact w_again ⟨true, (decide_eq_true (by unfold skipL; (try simp only [z0] at *); first | (left; assumption) | (right; omega) | (rintro (h | h); (first | contradiction | omega); omega))).symm, (by repeat (first | exact Sub.nil _ | refine Sub.cons rfl ?_)), (Take.sub (by repeat (first | exact Take.nil | exact Take.all _ | (apply Take.cons; focus (repeat (first | exact Pick.here | apply Pick.next))))))⟩
        · refine o_pick_f rfl rfl ?_
          refine w_nil ?_
          exact w_again ⟨false, (decide_eq_false (by unfold skipL; (try simp only [z0] at *); first | (left; assumption) | (right; omega) | (rintro (h | h); (first | contradiction | omega); omega))).symm, (by repeat (first | exact Sub.nil _ | refine Sub.cons rfl ?_)), (Take.sub (by repeat (first | exact Take.nil | exact Take.all _ | (apply Take.cons; focus (repeat (first | exact Pick.here | apply Pick.next))))))⟩
    intro y hy
    subst hy
    refine w_if_d rfl (fun hsk => ?_) (fun hsk => ?_)
    · refine w_exit rfl ?_
      refine w_region rfl ?_
      refine o_mov rfl ?_
      refine o_add rfl rfl (by first | exact IntWalk.i64_in _ (by omega) | rfl) ?_
      refine o_asg rfl ?_
      refine w_nil ?_
      exact w_again ⟨(i + 1, out, u, Ho, Hi), ⟨by simp only; omega, by simp only; rw [hinv, parse_skip hbn hsk], hR, hol⟩, (by simp only; omega), (by repeat (first | exact Sub.nil _ | refine Sub.cons rfl ?_)), (Take.sub (by repeat (first | exact Take.nil | exact Take.all _ | (apply Take.cons; focus (repeat (first | exact Pick.here | apply Pick.next))))))⟩
    · obtain ⟨cs, hOw, hall, hst⟩ := hR
      rcases hla : lineS a with _ | x
      · refine w_skip ?_
        refine w_seq ?_
        refine w_region rfl ?_
        refine o_mov rfl ?_
        refine o_mov rfl ?_
        refine o_idxR hS2 (by repeat (first | exact Has.here | apply Has.next)) slc_43 rfl rfl ⟨by omega, by omega⟩ (fun bb3 ff3 ar3 TT3 fr3 hm3 hg3 => ?_)
        refine o_load (v := str a) lod_9 rfl hm3 (hg3 0 _ (by rw [show (i : Int).toNat * 1 + 0 = i by omega, ← ha]; exact RW.cell hi2)) ?_
        refine o_call (ref_Line a (by omega)) fn_13 rfl (by repeat (first | exact Take.nil | exact Take.all _ | (apply Take.cons; focus (repeat (first | exact Pick.here | apply Pick.next))))) ?_
        rintro v ho ⟨v2, L2, Ho2, Hi2, rfl, ⟨cs2, hOw2, hall2, hst2⟩, hL2, hll, rfl⟩
        rw [hla]
        refine o_mov rfl ?_
        refine o_ext rfl rfl ?_
        refine o_ext rfl rfl ?_
        refine o_asg rfl ?_
        refine o_asg rfl ?_
        refine w_nil ?_
        refine w_seq ?_
        refine w_region rfl ?_
        refine o_mov rfl ?_
        refine o_mov rfl ?_
        refine o_app (news := cs2) slc_27 zer_53 rfl rfl rfl hOw (by repeat (first | exact Pick.here | apply Pick.next)) hOw2.rd (by repeat (first | exact Has.here | apply Has.next)) (fun u hu => List.all_eq_true.1 hall2 u hu) (by simp only [maxLen]; omega) (by omega) (fun v' H' hO hn => ?_)
        refine o_asg rfl ?_
        refine w_nil ?_
        refine w_seq ?_
        refine w_region rfl ?_
        refine o_mov rfl ?_
        refine o_not rfl ?_
        refine o_mov rfl ?_
        refine o_no rfl rfl rfl ?_
        refine o_no rfl rfl rfl ?_
        refine o_no rfl rfl rfl ?_
        refine o_pick_t rfl rfl ?_
        refine w_nil ?_
        refine w_if_t rfl ?_
        refine w_emp ?_
        refine w_emp ?_
        refine w_seq ?_
        refine w_region rfl ?_
        refine o_mov rfl ?_
        refine o_add rfl rfl (by first | exact IntWalk.i64_in _ (by omega) | rfl) ?_
        refine o_asg rfl ?_
        refine o_asg rfl ?_
        refine o_asg rfl ?_
        refine w_nil ?_
        exact w_ret (ret3 rfl rfl rfl rfl) ⟨_, [], [], [], _, _, rfl, SRows.nil _, PRes.no (hinv.trans (parse_none hbn hsk hla)), by simp, rfl⟩ (Take.sub (by repeat (first | exact Take.nil | exact Take.all _ | (apply Take.cons; focus (repeat (first | exact Pick.here | apply Pick.next))))))
      · refine w_skip ?_
        refine w_seq ?_
        refine w_region rfl ?_
        refine o_mov rfl ?_
        refine o_mov rfl ?_
        refine o_idxR hS2 (by repeat (first | exact Has.here | apply Has.next)) slc_43 rfl rfl ⟨by omega, by omega⟩ (fun bb3 ff3 ar3 TT3 fr3 hm3 hg3 => ?_)
        refine o_load (v := str a) lod_9 rfl hm3 (hg3 0 _ (by rw [show (i : Int).toNat * 1 + 0 = i by omega, ← ha]; exact RW.cell hi2)) ?_
        refine o_call (ref_Line a (by omega)) fn_13 rfl (by repeat (first | exact Take.nil | exact Take.all _ | (apply Take.cons; focus (repeat (first | exact Pick.here | apply Pick.next))))) ?_
        rintro v ho ⟨v2, L2, Ho2, Hi2, rfl, ⟨cs2, hOw2, hall2, hst2⟩, hL2, hll, rfl⟩
        rw [hla]
        refine o_mov rfl ?_
        refine o_ext rfl rfl ?_
        refine o_ext rfl rfl ?_
        refine o_asg rfl ?_
        refine o_asg rfl ?_
        refine w_nil ?_
        obtain rfl := hL2 x hla
        refine w_seq ?_
        refine w_region rfl ?_
        refine o_mov rfl ?_
        refine o_mov rfl ?_
        refine o_app (news := cs2) slc_27 zer_53 rfl rfl rfl hOw (by repeat (first | exact Pick.here | apply Pick.next)) hOw2.rd (by repeat (first | exact Has.here | apply Has.next)) (fun u hu => List.all_eq_true.1 hall2 u hu) (by simp only [maxLen]; omega) (by omega) (fun v' H' hO hn => ?_)
        refine o_asg rfl ?_
        refine w_nil ?_
        refine w_seq ?_
        refine w_region rfl ?_
        refine o_mov rfl ?_
        refine o_not rfl ?_
        refine o_mov rfl ?_
        refine o_yes rfl rfl ?_
        refine o_mov rfl ?_
        refine o_yes rfl rfl ?_
        refine o_lenR hO.rd slc_27 rfl ?_
        refine o_yes rfl rfl ?_
        refine o_gt_s rfl rfl (fun hbig => ?_) (fun hbig => ?_)
        · refine o_pick_f rfl rfl ?_
          refine w_nil ?_
          refine w_if_t rfl ?_
          refine w_emp ?_
          refine w_emp ?_
          refine w_seq ?_
          refine w_region rfl ?_
          refine o_mov rfl ?_
          refine o_add rfl rfl (by first | exact IntWalk.i64_in _ (by omega) | rfl) ?_
          refine o_asg rfl ?_
          refine o_asg rfl ?_
          refine o_asg rfl ?_
          refine w_nil ?_
          exact w_ret (ret3 rfl rfl rfl rfl) ⟨_, [], [], [], _, _, rfl, SRows.nil _, PRes.no (hinv.trans ((parse_some hbn hsk hla).trans (if_pos (by rw [List.length_append]; omega)))), by simp, rfl⟩ (Take.sub (by repeat (first | exact Take.nil | exact Take.all _ | (apply Take.cons; focus (repeat (first | exact Pick.here | apply Pick.next))))))
        · refine o_pick_f rfl rfl ?_
          refine w_nil ?_
          refine w_if_f rfl ?_
          have hnew := SRows.app hOw.1 hO hall hall2 hst hst2
          refine WT.sub (h' := Hi2 :: Hi :: H' :: Hs_ :: []) ?_ (Sub.refl _) (Take.sub (by repeat (first | exact Take.nil | exact Take.all _ | (apply Take.cons; focus (repeat (first | exact Pick.here | apply Pick.next))))))
          refine w_merge ?_
          refine w_skip ?_
          refine w_inB ?_
          refine w_region rfl ?_
          refine o_mov rfl ?_
          refine o_add rfl rfl (by first | exact IntWalk.i64_in _ (by omega) | rfl) ?_
          refine o_asg rfl ?_
          refine w_nil ?_
          exact w_again ⟨(i + 1, out ++ L2, v', H', Hi2 ++ Hi), ⟨by simp only; omega, by simp only; rw [hinv, parse_some hbn hsk hla, if_neg (by rw [List.length_append]; omega)], hnew, by simp only [List.length_append]; omega⟩, (by simp only; omega), (by repeat (first | exact Sub.nil _ | refine Sub.cons rfl ?_)), (Take.sub (by repeat (first | exact Take.nil | exact Take.all _ | (apply Take.cons; focus (repeat (first | exact Pick.here | apply Pick.next))))))⟩
  · have hi2 : i < Ls.length := by omega
    have hie : i + 1 = Ls.length := by omega
    have hdr : Ls.drop i = [Ls.getD i []] := by rw [List.drop_eq_getElem_cons hi2, List.drop_of_length_le (by omega)]; simp [hi2]
    rw [hdr] at hinv
    obtain ⟨a, ha⟩ : ∃ a, Ls.getD i [] = a := ⟨_, rfl⟩
    rw [ha] at hinv
    refine w_exit rfl ?_
    refine w_seq ?_
    refine w_seq ?_
    refine w_region rfl ?_
    refine o_mov rfl ?_
    refine o_mov rfl ?_
    refine o_lenR hS2 slc_43 rfl ?_
    refine o_sub rfl rfl (by first | exact IntWalk.i64_in _ (by omega) | rfl) ?_
    refine o_idxR hS2 (by repeat (first | exact Has.here | apply Has.next)) slc_43 rfl rfl ⟨by omega, by omega⟩ (fun bb4 ff4 ar4 TT4 fr4 hm4 hg4 => ?_)
    refine o_load (v := str a) lod_9 rfl hm4 (hg4 0 _ (by rw [show ((Ls.length : Int) - 1).toNat * 1 + 0 = i by omega, ← ha]; exact RW.cell hi2)) ?_
    refine o_neT rfl rfl ?_
    refine w_nil ?_
    refine w_if_d rfl (fun hne => ?_) (fun hne => ?_)
    · rw [hie] at hinv
      refine w_emp ?_
      refine w_emp ?_
      refine w_seq ?_
      refine w_region rfl ?_
      refine o_mov rfl ?_
      refine o_lenR hS2 slc_43 rfl ?_
      refine o_asg rfl ?_
      refine o_asg rfl ?_
      refine o_asg rfl ?_
      refine w_nil ?_
      exact w_ret (ret3 rfl rfl rfl rfl) ⟨_, [], [], [], _, _, rfl, SRows.nil _, PRes.no (hinv.trans (parse_tail hne)), by simp, rfl⟩ (Take.sub (by repeat (first | exact Take.nil | exact Take.all _ | (apply Take.cons; focus (repeat (first | exact Pick.here | apply Pick.next))))))
    · obtain rfl : a = [] := by simpa using hne
      refine w_skip ?_
      refine w_seq ?_
      refine w_region rfl ?_
      refine o_mov rfl ?_
      refine o_asg rfl ?_
      refine o_asg rfl ?_
      refine o_asg rfl ?_
      refine w_nil ?_
      exact w_ret (ret3 rfl rfl rfl rfl) ⟨_, out, Ho, Hi, _, _, rfl, hR, PRes.yes (hinv.trans (parse_end _ _)), hol, rfl⟩ (Take.sub (by repeat (first | exact Take.nil | exact Take.all _ | (apply Take.cons; focus (repeat (first | exact Pick.here | apply Pick.next))))))

end Go.Proofs.YtmcopafdooejjaaDoor
