/- Contracts: a line, by the document. No condition but on the length. -/
import Derived.Test.YtmcopafdooejjaaDoorTy
import Derived.Test.YtmcopafdooejjaaDoorHj
import Derived.Test.YtmcopafdooejjaaDoorPy
namespace Go.Proofs.YtmcopafdooejjaaDoor
open Go.Eng
set_option linter.unusedVariables false
set_option linter.unusedSimpArgs false
set_option maxRecDepth 20000
attribute [local irreducible] WL WT
set_option maxHeartbeats 8000000 in
theorem ref_Line (l : List UInt8) (hl : l.length ≤ 65536) : Ctr Tryd.prog 13 [str l] ([]) (fun v ho => ∃ v1 L Ho Hi, v = .tuple #[v1, .bool (lineS l).isSome] ∧ SRows Ho Hi v1 53 L ∧ (∀ x, lineS l = some x → L = x) ∧ L.length ≤ 64 ∧ ho = [Ho, Hi]) := by
  refine spec_of Tryd.func13 rfl rfl fun w0 L => ?_
  refine w_seq ?_
  refine w_region rfl ?_
  refine o_asg rfl ?_
  refine o_asg rfl ?_
  refine w_nil ?_
  refine w_seq ?_
  refine w_region rfl ?_
  refine o_mov rfl ?_
  refine o_call (ref_Cut l 32 (by omega)) fn_12 rfl (by repeat (first | exact Take.nil | exact Take.all _ | (apply Take.cons; focus (repeat (first | exact Pick.here | apply Pick.next))))) ?_
  rintro vs ho ⟨Hs_, hS, rfl⟩
  have hline : lineS l = stepsP (cutB 32 l) := rfl
  have hcc := cutB_count 32 l
  rcases hcb : cutB 32 l with _ | ⟨w, V⟩
  · exact absurd hcb (cutB_ne 32 l)
  rw [hcb] at hS hline hcc
  have hwl : ∀ u ∈ w :: V, u.length ≤ l.length := fun u hu => word_len hcb hu
  simp only [List.length_cons] at hcc
  have hS2 := hS.rd
  obtain ⟨pw, cw, rfl, hcw⟩ := Rd.slice hS2
  refine o_asg rfl ?_
  refine w_nil ?_
  refine w_seq ?_
  refine w_region rfl ?_
  refine o_bld bld_53 rfl rfl ?_
  refine o_alloc zer_53 (fun b2 => ?_)
  refine o_storeW siz_53 rfl rfl rfl (by repeat (first | exact Upd.here | apply Upd.next)) rfl rfl ?_
  refine w_nil ?_
  refine w_seq ?_
  refine w_seq ?_
  refine w_region rfl ?_
  refine o_mov rfl ?_
  refine o_idxR hS2 (by repeat (first | exact Has.here | apply Has.next)) slc_43 rfl rfl ⟨by omega, by simp only [List.length_cons] at *; omega⟩ (fun bb0 ff0 ar0 TT0 fr0 hm0 hg0 => ?_)
  refine o_load (v := str w) lod_9 rfl hm0 (hg0 0 _ rfl) ?_
  refine w_nil ?_
  refine w_block ?_
  refine w_seq ?_
  refine w_region rfl ?_
  refine o_eqT rfl rfl ?_
  refine o_asg rfl ?_
  refine w_nil ?_
  refine w_if_d rfl (fun h1 => ?_) (fun h1 => ?_)
  · refine w_emp ?_
    refine w_seq ?_
    refine w_region rfl ?_
    refine o_fld fld_53_0 rfl rfl ?_
    refine o_store siz_3 rfl rfl rfl (by repeat (first | exact Upd.here | apply Upd.next)) rfl (by simp) ?_
    refine w_nil ?_
    refine w_seq ?_
    refine w_region rfl ?_
    refine o_asg rfl ?_
    refine w_nil ?_
    refine w_block ?_
    refine w_loop (X := Nat × Value × Hp) (fun x => [(4, .slice pw (w :: V).length cw), (5, .pointer (some ⟨b2, 0, none⟩)), (6, .int .i64 (x.1 + 1 : Nat))]) (fun x => [x.2.2, [(b2, .cells #[.int .i64 1, .int .i64 0, x.2.1, .slice none 0 0, .slice none 0 0, .slice none 0 0] 53 (0, 0))], Hs_]) (fun x => x.1 ≤ V.length ∧ OwnI x.2.2 x.2.1 54 .i16 ((smpL V).take x.1) ∧ allB (smpF V) x.1 = true) (fun x => V.length - x.1) (0, .slice none 0 0, []) ⟨by simp, OwnI.nil _ _, allB_0 _⟩ (by repeat (first | exact Sub.nil _ | refine Sub.cons rfl ?_)) (Take.sub (by repeat (first | exact Take.nil | exact Take.all _ | (apply Take.cons; focus (repeat (first | exact Pick.here | apply Pick.next)))))) ?_
    rintro ⟨j, u, H⟩ ⟨hj, hO, hall⟩
    simp only at hj hO hall ⊢
    have hvl : (w :: V).length = V.length + 1 := rfl
    refine w_seq ?_
    refine w_seq ?_
    refine w_region rfl ?_
    refine o_mov rfl ?_
    refine o_mov rfl ?_
    refine o_lenR hS2 slc_43 rfl ?_
    refine o_lt rfl rfl ?_
    refine w_nil ?_
    refine w_if_d rfl (fun hlt0 => ?_) (fun hlt0 => ?_)
    · have hlt : j < V.length := by omega
      have hsl := smpL_len V
      have htk : ((smpL V).take j).length = j := by rw [List.length_take]; omega
      have htl := hwl _ (List.mem_cons_of_mem w (getD_mem hlt))
      refine w_skip ?_
      refine w_seq ?_
      refine w_block ?_
      refine w_seq ?_
      refine w_region rfl ?_
      refine o_mov rfl ?_
      refine o_mov rfl ?_
      refine o_idxR hS2 (by repeat (first | exact Has.here | apply Has.next)) slc_43 rfl rfl ⟨by omega, by simp only [List.length_cons] at *; omega⟩ (fun bb1 ff1 ar1 TT1 fr1 hm1 hg1 => ?_)
      refine o_load (v := str (V.getD j [])) lod_9 rfl hm1 (hg1 0 _ (by rw [show (((j + 1 : Nat) : Int) : Int).toNat * 1 + 0 = j + 1 by omega]; exact (RW.cell (W := w :: V) (i := j + 1) (by simp only [List.length_cons]; omega)))) ?_
      refine o_asg rfl ?_
      refine w_nil ?_
      refine w_seq ?_
      refine w_cut_x (X := Bool) (fun y => [(4, .slice pw (w :: V).length cw), (5, .pointer (some ⟨b2, 0, none⟩)), (6, .int .i64 (j + 1 : Nat)), (7, str (V.getD j [])), (8, .bool y)]) (fun _ => [H, [(b2, .cells #[.int .i64 1, .int .i64 0, u, .slice none 0 0, .slice none 0 0, .slice none 0 0] 53 (0, 0))], Hs_]) (fun y => y = decide ((V.getD j []).head? = some 45)) ?_ ?_
      · refine w_region rfl ?_
        refine o_mov rfl ?_
        refine o_lenT Tryd.underlying9 rfl ?_
        refine o_gt_s rfl rfl (fun h11_2 => ?_) (fun h11_2 => ?_)
        · refine o_mov rfl ?_
          refine o_yes rfl rfl ?_
          refine o_mov rfl ?_
          refine o_yes rfl rfl ?_
          refine o_idxT Tryd.underlying9 rfl rfl ⟨by omega, by omega⟩ ?_
          refine o_yes rfl rfl ?_
          refine o_eq_s rfl rfl (fun h11_6 => ?_) (fun h11_6 => ?_)
          · refine o_pick_t rfl rfl ?_
            refine o_asg rfl ?_
            refine w_nil ?_
            exact w_again ⟨true, (decide_eq_true (by rw [head45]; (try simp only [z0] at *); omega)).symm, (by repeat (first | exact Sub.nil _ | refine Sub.cons rfl ?_)), (Take.sub (by repeat (first | exact Take.nil | exact Take.all _ | (apply Take.cons; focus (repeat (first | exact Pick.here | apply Pick.next))))))⟩
          · refine o_pick_t rfl rfl ?_
            refine o_asg rfl ?_
            refine w_nil ?_
            exact w_again ⟨false, (decide_eq_false (by rw [head45]; (try simp only [z0] at *); omega)).symm, (by repeat (first | exact Sub.nil _ | refine Sub.cons rfl ?_)), (Take.sub (by repeat (first | exact Take.nil | exact Take.all _ | (apply Take.cons; focus (repeat (first | exact Pick.here | apply Pick.next))))))⟩
        · refine o_mov rfl ?_
          refine o_no rfl rfl rfl ?_
          refine o_no rfl rfl rfl ?_
          refine o_no rfl rfl rfl ?_
          refine o_pick_f rfl rfl ?_
          refine o_asg rfl ?_
          refine w_nil ?_
          exact w_again ⟨false, (decide_eq_false (by rw [head45]; (try simp only [z0] at *); omega)).symm, (by repeat (first | exact Sub.nil _ | refine Sub.cons rfl ?_)), (Take.sub (by repeat (first | exact Take.nil | exact Take.all _ | (apply Take.cons; focus (repeat (first | exact Pick.here | apply Pick.next))))))⟩
      intro y hy
      subst hy
      refine w_seq ?_
      refine w_region rfl ?_
      refine o_asg rfl ?_
      refine w_nil ?_
      refine w_seq ?_
      refine w_seq ?_
      refine w_region rfl ?_
      refine o_mov rfl ?_
      refine w_nil ?_
      refine w_if_d rfl (fun hc => ?_) (fun hc => ?_)
      · have hc2 := (head45 _).1 hc
        refine w_seq ?_
        refine w_region rfl ?_
        refine o_mov rfl ?_
        refine o_slT (i := 1) (j := ((V.getD j []).length : Nat)) Tryd.underlying9 rfl ⟨_, rfl⟩ rfl ⟨by omega, by omega, by omega⟩ ?_
        rw [show ((V.getD j []).take (((V.getD j []).length : Nat) : Int).toNat).drop (1 : Int).toNat = (V.getD j []).tail from by rw [Int.toNat_natCast, List.take_length]; exact List.drop_one]
        refine o_asg rfl ?_
        refine w_nil ?_
        rcases hnum : numP (V.getD j []).tail 32768 with _ | n
        · refine w_region rfl ?_
          refine o_asg rfl ?_
          refine w_nil ?_
          refine w_seq ?_
          refine w_region rfl ?_
          refine o_mov rfl ?_
          refine o_mov rfl ?_
          refine o_call (ref_Number (V.getD j []).tail 32768 (by rw [List.length_tail]; omega)) fn_23 rfl (by repeat (first | exact Take.nil | exact Take.all _ | (apply Take.cons; focus (repeat (first | exact Pick.here | apply Pick.next))))) ?_
          rintro v ho ⟨rfl, rfl⟩
          rw [hnum]
          refine o_mov rfl ?_
          refine o_ext rfl rfl ?_
          refine o_ext rfl rfl ?_
          refine o_asg rfl ?_
          refine o_asg rfl ?_
          refine w_nil ?_
          refine w_seq ?_
          refine w_seq ?_
          refine w_region rfl ?_
          refine o_mov rfl ?_
          refine o_not rfl ?_
          refine w_nil ?_
          refine w_if_t rfl ?_
          have hn : lineS l = none := by rw [hline, st_samples h1, if_neg (allB_no hlt (smp_neg_no hc hnum))]
          refine w_emp ?_
          refine w_emp ?_
          refine w_seq ?_
          refine w_region rfl ?_
          refine o_asg rfl ?_
          refine o_asg rfl ?_
          refine w_nil ?_
          exact w_ret (ret2 rfl rfl rfl) ⟨_, [], [], [], by rw [hn]; rfl, SRows.nil _, fun x hx => (by rw [hn] at hx; cases hx), by simp, rfl⟩ (Take.sub (by repeat (first | exact Take.nil | exact Take.all _ | (apply Take.cons; focus (repeat (first | exact Pick.here | apply Pick.next))))))
        · have hni := numP_in hnum
          refine w_region rfl ?_
          refine o_asg rfl ?_
          refine w_nil ?_
          refine w_seq ?_
          refine w_region rfl ?_
          refine o_mov rfl ?_
          refine o_mov rfl ?_
          refine o_call (ref_Number (V.getD j []).tail 32768 (by rw [List.length_tail]; omega)) fn_23 rfl (by repeat (first | exact Take.nil | exact Take.all _ | (apply Take.cons; focus (repeat (first | exact Pick.here | apply Pick.next))))) ?_
          rintro v ho ⟨rfl, rfl⟩
          rw [hnum]
          refine o_mov rfl ?_
          refine o_ext rfl rfl ?_
          refine o_ext rfl rfl ?_
          refine o_asg rfl ?_
          refine o_asg rfl ?_
          refine w_nil ?_
          refine w_seq ?_
          refine w_seq ?_
          refine w_region rfl ?_
          refine o_mov rfl ?_
          refine o_not rfl ?_
          refine w_nil ?_
          refine w_if_f rfl ?_
          refine w_skip ?_
          refine w_seq ?_
          refine w_seq ?_
          refine w_region rfl ?_
          refine o_mov rfl ?_
          refine w_nil ?_
          refine w_if_d rfl (fun hc3 => ?_) (fun hc3 => ?_)
          · refine w_region rfl ?_
            refine o_mov rfl ?_
            refine o_neg (c := (smpL V).getD j 0) rfl (by have hsm := smp_get (V.getD j []); rw [← smpL_get hlt] at hsm; have h9 := (smp_neg hlt hc hnum).1; first | exact h9 | (rw [show 0 - (some n : Option Int).getD 0 = (smpL V).getD j 0 from h9]; exact IntWalk.i64_in _ (by omega))) ?_
            have hz := hni
            refine o_asg rfl ?_
            refine w_nil ?_
            refine w_region rfl ?_
            refine o_fld fld_53_2 rfl rfl ?_
            refine o_load lod_33 rfl (by repeat (first | exact At.here | (refine At.inA ?_; assumption) | apply At.next)) rfl ?_
            refine o_mov rfl ?_
            have hsm := smp_get (V.getD j [])
            rw [← smpL_get hlt] at hsm
            refine o_conv int_54 (by rw [Tryd.underlying2]; rfl) rfl (by first | exact IntWalk.i16_in _ (by omega) | rfl) ?_
            refine o_bslN [_] slc_33 zer_54 (Nat.le_of_ble_eq_true rfl) rfl rfl (fun b5 => ?_)
            refine o_app1 slc_33 zer_54 rfl rfl rfl hO (by repeat (first | exact Pick.here | apply Pick.next)) (by repeat (first | exact Has.here | apply Has.next)) (Nat.le_of_ble_eq_true rfl) (by simp only [maxLen]; omega) (by omega) (fun v' H' hO2 => ?_)
            obtain ⟨p2, c2, rfl⟩ := hO2.slice
            refine o_fld fld_53_2 rfl rfl ?_
            refine o_store siz_33 rfl rfl rfl (by repeat (first | exact Upd.here | apply Upd.next)) rfl (by simp) ?_
            refine w_nil ?_
            refine w_inB ?_
            refine w_region rfl ?_
            refine o_mov rfl ?_
            refine o_add rfl rfl (by first | exact IntWalk.i64_in _ (by omega) | rfl) ?_
            refine o_asg rfl ?_
            refine w_nil ?_
            exact w_again ⟨(j + 1, _, H'), ⟨by simp only; omega, by simp only; rw [← take_snoc (d := 0) (show j < (smpL V).length by omega)]; exact hO2, allB_next hall (smp_neg hlt hc hnum).2⟩, (by simp only; omega), (by repeat (first | exact Sub.nil _ | refine Sub.cons rfl ?_)), (Take.sub (by repeat (first | exact Take.nil | exact Take.all _ | (apply Take.cons; focus (repeat (first | exact Pick.here | apply Pick.next))))))⟩
          · exact absurd hc hc3
      · rcases hnum : numP (V.getD j []) 32767 with _ | n
        · refine w_skip ?_
          refine w_seq ?_
          refine w_region rfl ?_
          refine o_mov rfl ?_
          refine o_mov rfl ?_
          refine o_call (ref_Number (V.getD j []) 32767 (by omega)) fn_23 rfl (by repeat (first | exact Take.nil | exact Take.all _ | (apply Take.cons; focus (repeat (first | exact Pick.here | apply Pick.next))))) ?_
          rintro v ho ⟨rfl, rfl⟩
          rw [hnum]
          refine o_mov rfl ?_
          refine o_ext rfl rfl ?_
          refine o_ext rfl rfl ?_
          refine o_asg rfl ?_
          refine o_asg rfl ?_
          refine w_nil ?_
          refine w_seq ?_
          refine w_seq ?_
          refine w_region rfl ?_
          refine o_mov rfl ?_
          refine o_not rfl ?_
          refine w_nil ?_
          refine w_if_t rfl ?_
          have hn : lineS l = none := by rw [hline, st_samples h1, if_neg (allB_no hlt (smp_pos_no hc hnum))]
          refine w_emp ?_
          refine w_emp ?_
          refine w_seq ?_
          refine w_region rfl ?_
          refine o_asg rfl ?_
          refine o_asg rfl ?_
          refine w_nil ?_
          exact w_ret (ret2 rfl rfl rfl) ⟨_, [], [], [], by rw [hn]; rfl, SRows.nil _, fun x hx => (by rw [hn] at hx; cases hx), by simp, rfl⟩ (Take.sub (by repeat (first | exact Take.nil | exact Take.all _ | (apply Take.cons; focus (repeat (first | exact Pick.here | apply Pick.next))))))
        · have hni := numP_in hnum
          refine w_skip ?_
          refine w_seq ?_
          refine w_region rfl ?_
          refine o_mov rfl ?_
          refine o_mov rfl ?_
          refine o_call (ref_Number (V.getD j []) 32767 (by omega)) fn_23 rfl (by repeat (first | exact Take.nil | exact Take.all _ | (apply Take.cons; focus (repeat (first | exact Pick.here | apply Pick.next))))) ?_
          rintro v ho ⟨rfl, rfl⟩
          rw [hnum]
          refine o_mov rfl ?_
          refine o_ext rfl rfl ?_
          refine o_ext rfl rfl ?_
          refine o_asg rfl ?_
          refine o_asg rfl ?_
          refine w_nil ?_
          refine w_seq ?_
          refine w_seq ?_
          refine w_region rfl ?_
          refine o_mov rfl ?_
          refine o_not rfl ?_
          refine w_nil ?_
          refine w_if_f rfl ?_
          refine w_skip ?_
          refine w_seq ?_
          refine w_seq ?_
          refine w_region rfl ?_
          refine o_mov rfl ?_
          refine w_nil ?_
          refine w_if_d rfl (fun hc3 => ?_) (fun hc3 => ?_)
          · exact absurd hc3 hc
          · refine w_skip ?_
            refine w_region rfl ?_
            refine o_fld fld_53_2 rfl rfl ?_
            refine o_load lod_33 rfl (by repeat (first | exact At.here | (refine At.inA ?_; assumption) | apply At.next)) rfl ?_
            refine o_mov rfl ?_
            have hsm := smp_get (V.getD j [])
            rw [← smpL_get hlt] at hsm
            rw [show ((some n : Option Int).getD 0) = (smpL V).getD j 0 from (smp_pos hlt hc hnum).1]
            refine o_conv int_54 (by rw [Tryd.underlying2]; rfl) rfl (by first | exact IntWalk.i16_in _ (by omega) | rfl) ?_
            refine o_bslN [_] slc_33 zer_54 (Nat.le_of_ble_eq_true rfl) rfl rfl (fun b8 => ?_)
            refine o_app1 slc_33 zer_54 rfl rfl rfl hO (by repeat (first | exact Pick.here | apply Pick.next)) (by repeat (first | exact Has.here | apply Has.next)) (Nat.le_of_ble_eq_true rfl) (by simp only [maxLen]; omega) (by omega) (fun v' H' hO2 => ?_)
            obtain ⟨p2, c2, rfl⟩ := hO2.slice
            refine o_fld fld_53_2 rfl rfl ?_
            refine o_store siz_33 rfl rfl rfl (by repeat (first | exact Upd.here | apply Upd.next)) rfl (by simp) ?_
            refine w_nil ?_
            refine w_inB ?_
            refine w_region rfl ?_
            refine o_mov rfl ?_
            refine o_add rfl rfl (by first | exact IntWalk.i64_in _ (by omega) | rfl) ?_
            refine o_asg rfl ?_
            refine w_nil ?_
            exact w_again ⟨(j + 1, _, H'), ⟨by simp only; omega, by simp only; rw [← take_snoc (d := 0) (show j < (smpL V).length by omega)]; exact hO2, allB_next hall (smp_pos hlt hc hnum).2⟩, (by simp only; omega), (by repeat (first | exact Sub.nil _ | refine Sub.cons rfl ?_)), (Take.sub (by repeat (first | exact Take.nil | exact Take.all _ | (apply Take.cons; focus (repeat (first | exact Pick.here | apply Pick.next))))))⟩
    · obtain rfl : j = V.length := by omega
      rw [List.take_of_length_le (Nat.le_of_eq (smpL_len V))] at hO
      obtain ⟨p2, c2, rfl⟩ := Own.slice hO
      have hn : lineS l = some [⟨1, 0, smpL V, [], [], []⟩] := by rw [hline, st_samples h1, if_pos hall]
      refine w_exit rfl ?_
      refine w_inB ?_
      refine w_seq ?_
      refine w_region rfl ?_
      refine o_loadW lod_53 rfl (by repeat (first | exact At.here | (refine At.inA ?_; assumption) | apply At.next)) rfl ?_
      refine o_bslN [_] slc_27 zer_53 (Nat.le_of_ble_eq_true rfl) rfl rfl (fun b9 => ?_)
      refine o_asg rfl ?_
      refine o_asg rfl ?_
      refine w_nil ?_
      exact w_ret (ret2 rfl rfl rfl) ⟨_, [(⟨1, 0, smpL V, [], [], []⟩ : StepP)], _, _, by rw [hn]; rfl, SRows.one hO.ints (Ints.none _ _) (Ints.none _ _) (Rd.none _ _), fun x hx => (by rw [hn] at hx; exact Option.some.inj hx), by simp, rfl⟩ (Take.sub (by repeat (first | exact Take.nil | exact Take.all _ | (apply Take.cons; focus (repeat (first | exact Pick.here | apply Pick.next))))))
  · refine w_seq ?_
    refine w_region rfl ?_
    refine o_eqT rfl rfl ?_
    refine o_asg rfl ?_
    refine w_nil ?_
    refine w_if_d rfl (fun h2 => ?_) (fun h2 => ?_)
    · have hsl : ∀ i, i < V.length → (V.getD i []).length ≤ 1000000 := fun i hi => by have := hwl _ (List.mem_cons_of_mem w (getD_mem hi)); omega
      have hV : RW Hs_ (.slice (slcAt pw 1 1 cw) V.length (cw - 1)) V := RW.tail (W := w :: V) (show RW Hs_ _ (w :: V) from hS2) (by simp)
      have hcw2 := hcw
      simp only [List.length_cons] at hcw2
      refine w_seq ?_
      refine w_region rfl ?_
      refine o_mov rfl ?_
      refine o_slS (i := 1) (j := ((w :: V).length : Nat)) slc_43 rfl ⟨_, rfl⟩ rfl ⟨by omega, by simp only [List.length_cons]; omega, by simp only [List.length_cons]; omega⟩ ?_
      rw [show (1 : Int).toNat = 1 from rfl, Int.toNat_natCast, show (w :: V).length - 1 = V.length from rfl]
      refine o_bslN [_, _, _, _] slc_66 zer_2 (Nat.le_of_ble_eq_true rfl) rfl rfl (fun b10 => ?_)
      refine o_call (ref_numbers hV (Ints.block (k := .i64) (xs := toneM) (by decide)) hsl (by decide)) fn_24 rfl (by repeat (first | exact Take.nil | exact Take.all _ | (apply Take.cons; focus (repeat (first | exact Pick.here | apply Pick.next))))) ?_
      rintro v ho ⟨v1, HN, rfl, hN, rfl⟩
      refine o_mov rfl ?_
      refine o_ext rfl rfl ?_
      refine o_ext rfl rfl ?_
      refine o_asg rfl ?_
      refine o_asg rfl ?_
      refine w_nil ?_
      by_cases hok : numsOk V toneM
      · rw [decide_eq_true hok]
        have hN := hN hok
        have hnl : (numsL V toneM).length = 4 := (numsL_len V toneM).trans hok.1
        have hb0 : 0 ≤ num V toneM 0 ∧ num V toneM 0 ≤ 32767 := num_in hok (show 0 < toneM.length by decide)
        obtain ⟨n0, e0⟩ : ∃ n, num V toneM 0 = n := ⟨_, rfl⟩
        rw [e0] at hb0
        have hb1 : 0 ≤ num V toneM 1 ∧ num V toneM 1 ≤ 65535 := num_in hok (show 1 < toneM.length by decide)
        obtain ⟨n1, e1⟩ : ∃ n, num V toneM 1 = n := ⟨_, rfl⟩
        rw [e1] at hb1
        have hb2 : 0 ≤ num V toneM 2 ∧ num V toneM 2 ≤ 65535 := num_in hok (show 2 < toneM.length by decide)
        obtain ⟨n2, e2⟩ : ∃ n, num V toneM 2 = n := ⟨_, rfl⟩
        rw [e2] at hb2
        have hb3 : 0 ≤ num V toneM 3 ∧ num V toneM 3 ≤ 4096 := num_in hok (show 3 < toneM.length by decide)
        obtain ⟨n3, e3⟩ : ∃ n, num V toneM 3 = n := ⟨_, rfl⟩
        rw [e3] at hb3
        refine w_seq ?_
        refine w_seq ?_
        refine w_region rfl ?_
        refine o_mov rfl ?_
        refine o_not rfl ?_
        refine o_mov rfl ?_
        refine o_yes rfl rfl ?_
        refine o_mov rfl ?_
        refine o_yes rfl rfl ?_
        refine o_idxI hN.ints (by repeat (first | exact Has.here | apply Has.next)) slc_66 rfl rfl ⟨by omega, by omega⟩ (fun bb2 ff2 ar2 TT2 fr2 hm2 hg2 => ?_)
        refine o_yes rfl rfl ?_
        refine o_load (v := .int .i64 n2) lod_2 rfl hm2 (hg2.trans (congrArg (fun z => some (Value.int .i64 z)) e2)) ?_
        refine o_yes rfl rfl ?_
        refine o_eq_s rfl rfl (fun hd0 => ?_) (fun hd0 => ?_)
        · refine o_pick_f rfl rfl ?_
          refine w_nil ?_
          refine w_if_t rfl ?_
          have hn : lineS l = none := by rw [hline, st_tone h1 h2, if_neg (fun h => h.2 (e2.trans hd0))]
          refine w_emp ?_
          refine w_emp ?_
          refine w_seq ?_
          refine w_region rfl ?_
          refine o_asg rfl ?_
          refine o_asg rfl ?_
          refine w_nil ?_
          exact w_ret (ret2 rfl rfl rfl) ⟨_, [], [], [], by rw [hn]; rfl, SRows.nil _, fun x hx => (by rw [hn] at hx; cases hx), by simp, rfl⟩ (Take.sub (by repeat (first | exact Take.nil | exact Take.all _ | (apply Take.cons; focus (repeat (first | exact Pick.here | apply Pick.next))))))
        · refine o_pick_f rfl rfl ?_
          refine w_nil ?_
          refine w_if_f rfl ?_
          obtain ⟨c, rfl⟩ : ∃ c : Nat, n3 = (c : Int) := ⟨n3.toNat, by omega⟩
          have htl := toneL_len n0 n1 n2 c
          refine w_emp ?_
          refine w_skip ?_
          refine w_seq ?_
          refine w_region rfl ?_
          refine o_fld fld_53_0 rfl rfl ?_
          refine o_store siz_3 rfl rfl rfl (by repeat (first | exact Upd.here | apply Upd.next)) rfl (by simp) ?_
          refine w_nil ?_
          refine w_seq ?_
          refine w_region rfl ?_
          refine o_asg rfl ?_
          refine w_nil ?_
          refine w_block ?_
          refine w_loop (X := Nat × Value × Hp) (fun x => [(5, .pointer (some ⟨b2, 0, none⟩)), (12, v1), (14, .int .i64 x.1)]) (fun x => [x.2.2, [(b2, .cells #[.int .i64 1, .int .i64 0, x.2.1, .slice none 0 0, .slice none 0 0, .slice none 0 0] 53 (0, 0))], HN]) (fun x => x.1 ≤ c ∧ OwnI x.2.2 x.2.1 54 .i16 ((toneL n0 n1 n2 c).take x.1)) (fun x => c - x.1) (0, .slice none 0 0, []) ⟨by simp, OwnI.nil _ _⟩ (by repeat (first | exact Sub.nil _ | refine Sub.cons rfl ?_)) (Take.sub (by repeat (first | exact Take.nil | exact Take.all _ | (apply Take.cons; focus (repeat (first | exact Pick.here | apply Pick.next)))))) ?_
          rintro ⟨i, u, H⟩ ⟨hi, hO⟩
          simp only at hi hO ⊢
          refine w_seq ?_
          refine w_seq ?_
          refine w_region rfl ?_
          refine o_mov rfl ?_
          refine o_mov rfl ?_
          refine o_idxI hN.ints (by repeat (first | exact Has.here | apply Has.next)) slc_66 rfl rfl ⟨by omega, by omega⟩ (fun bb3 ff3 ar3 TT3 fr3 hm3 hg3 => ?_)
          refine o_load (v := .int .i64 (c : Int)) lod_2 rfl hm3 (hg3.trans (congrArg (fun z => some (Value.int .i64 z)) e3)) ?_
          refine o_lt rfl rfl ?_
          refine w_nil ?_
          refine w_if_d rfl (fun hlt => ?_) (fun hlt => ?_)
          · have hp := mul32_in (a := (i : Int)) (b := n1) (by omega) (by omega)
            have hs := sin_in ((i : Int) * n1) (show 0 < n2 by omega)
            have ht := toneI_in (a := n0) (n := n1) (d := n2) (i := i) (by omega) (by omega)
            rw [← toneL_get (c := c) (by omega)] at ht
            have htk : ((toneL n0 n1 n2 c).take i).length = i := by rw [List.length_take]; omega
            refine w_skip ?_
            refine w_seq ?_
            refine w_block ?_
            refine w_seq ?_
            refine w_line [(0, true), (1, true), (2, true), (3, true), (4, true), (5, true), (6, true), (7, true), (8, false), (9, true)] mixed (by kernel_rfl) ?_
            refine o_mov rfl ?_
            refine o_mov rfl ?_
            refine o_idxI hN.ints (by repeat (first | exact Has.here | apply Has.next)) slc_66 rfl rfl ⟨by omega, by omega⟩ (fun bb4 ff4 ar4 TT4 fr4 hm4 hg4 => ?_)
            refine o_load (v := .int .i64 n1) lod_2 rfl hm4 (hg4.trans (congrArg (fun z => some (Value.int .i64 z)) e1)) ?_
            refine o_mul (c := (i : Int) * n1) rfl rfl (IntWalk.i64_in _ (by omega)) ?_
            refine o_mov rfl ?_
            refine o_idxI hN.ints (by repeat (first | exact Has.here | apply Has.next)) slc_66 rfl rfl ⟨by omega, by omega⟩ (fun bb5 ff5 ar5 TT5 fr5 hm5 hg5 => ?_)
            refine o_load (v := .int .i64 n2) lod_2 rfl hm5 (hg5.trans (congrArg (fun z => some (Value.int .i64 z)) e2)) ?_
            refine o_call (ref_Of ((i : Int) * n1) n2 (by omega) (by omega)) fn_25 rfl (by repeat (first | exact Take.nil | exact Take.all _ | (apply Take.cons; focus (repeat (first | exact Pick.here | apply Pick.next))))) ?_
            rintro v ho ⟨rfl, rfl⟩
            refine o_asg rfl ?_
            refine w_nil ?_
            refine w_cut_x (X := Value × Hp) (fun x => [(5, .pointer (some ⟨b2, 0, none⟩)), (12, v1), (14, .int .i64 i)]) (fun x => [x.2, [(b2, .cells #[.int .i64 1, .int .i64 0, x.1, .slice none 0 0, .slice none 0 0, .slice none 0 0] 53 (0, 0))], HN]) (fun x => OwnI x.2 x.1 54 .i16 ((toneL n0 n1 n2 c).take i ++ [(toneL n0 n1 n2 c).getD i 0])) ?_ ?_
            · refine w_plan (takes [0, 2, 3, 4, 5, 6] (.alt 1 (.alt 7 (takes [8] (.alt 9 (.alt 10 (takes [11] (.alt 12 .done .stop)) .stop) .stop)) .stop) (.alt 7 (takes [1, 8] (.alt 9 (.alt 10 (takes [11] (.alt 12 .done .stop)) .stop) .stop)) .stop))) mixed (by kernel_rfl) ?_
              refine wp_take _ _ ?_
              refine o_fld fld_53_2 rfl rfl ?_
              refine o_mov rfl ?_
              refine o_idxI hN.ints (by repeat (first | exact Has.here | apply Has.next)) slc_66 rfl rfl ⟨by omega, by omega⟩ (fun bb6 ff6 ar6 TT6 fr6 hm6 hg6 => ?_)
              refine o_load (v := .int .i64 n0) lod_2 rfl hm6 (hg6.trans (congrArg (fun z => some (Value.int .i64 z)) e0)) ?_
              refine o_mov rfl ?_
              refine o_conv int_2 (by rw [Tryd.underlying54]; rfl) rfl (by first | exact IntWalk.i64_in _ (by omega) | rfl) ?_
              refine wl_nil ?_
              refine wp_alt ?_ ?_
              · refine o_load lod_33 rfl (by repeat (first | exact At.here | (refine At.inA ?_; assumption) | apply At.next)) rfl ?_
                refine wl_nil ?_
                refine wp_alt ?_ ?_
                · refine o_call (ref_Mul15 n0 (sinI ((i : Int) * n1) n2) (by omega) (by omega)) fn_26 rfl (by repeat (first | exact Take.nil | exact Take.all _ | (apply Take.cons; focus (repeat (first | exact Pick.here | apply Pick.next))))) ?_
                  rintro v ho ⟨rfl, rfl⟩
                  rw [show clampI (roundI (n0 * sinI ((i : Int) * n1) n2) 15) (-2147483648) 2147483647 = (toneL n0 n1 n2 c).getD i 0 from (toneL_get (by omega)).symm]
                  refine wl_nil ?_
                  refine wp_take _ _ ?_
                  refine o_conv int_54 (by rw [Tryd.underlying21]; rfl) rfl (by first | exact IntWalk.i16_in _ (by omega) | rfl) ?_
                  refine wl_nil ?_
                  refine wp_alt ?_ ?_
                  · refine o_bslN [_] slc_33 zer_54 (Nat.le_of_ble_eq_true rfl) rfl rfl (fun b14 => ?_)
                    refine wl_nil ?_
                    refine wp_alt ?_ ?_
                    · refine o_app1 slc_33 zer_54 rfl rfl rfl hO (by repeat (first | exact Pick.here | apply Pick.next)) (by repeat (first | exact Has.here | apply Has.next)) (Nat.le_of_ble_eq_true rfl) (by simp only [maxLen]; omega) (by omega) (fun v' H' hO2 => ?_)
                      obtain ⟨p2, c2, rfl⟩ := hO2.slice
                      refine wl_nil ?_
                      refine wp_take _ _ ?_
                      refine o_fld fld_53_2 rfl rfl ?_
                      refine wl_nil ?_
                      refine wp_alt ?_ ?_
                      · refine o_store siz_33 rfl rfl rfl (by repeat (first | exact Upd.here | apply Upd.next)) rfl (by simp) ?_
                        refine wl_nil ?_
                        refine wp_done ?_
                        exact w_again ⟨(_, H'), hO2, (by repeat (first | exact Sub.nil _ | refine Sub.cons rfl ?_)), (Take.sub (by repeat (first | exact Take.nil | exact Take.all _ | (apply Take.cons; focus (repeat (first | exact Pick.here | apply Pick.next))))))⟩
                      exact wp_stop
                    exact wp_stop
                  exact wp_stop
                exact wp_stop
              refine wp_alt ?_ ?_
              · refine o_call (ref_Mul15 n0 (sinI ((i : Int) * n1) n2) (by omega) (by omega)) fn_26 rfl (by repeat (first | exact Take.nil | exact Take.all _ | (apply Take.cons; focus (repeat (first | exact Pick.here | apply Pick.next))))) ?_
                rintro v ho ⟨rfl, rfl⟩
                rw [show clampI (roundI (n0 * sinI ((i : Int) * n1) n2) 15) (-2147483648) 2147483647 = (toneL n0 n1 n2 c).getD i 0 from (toneL_get (by omega)).symm]
                refine wl_nil ?_
                refine wp_take _ _ ?_
                refine o_load lod_33 rfl (by repeat (first | exact At.here | (refine At.inA ?_; assumption) | apply At.next)) rfl ?_
                refine o_conv int_54 (by rw [Tryd.underlying21]; rfl) rfl (by first | exact IntWalk.i16_in _ (by omega) | rfl) ?_
                refine wl_nil ?_
                refine wp_alt ?_ ?_
                · refine o_bslN [_] slc_33 zer_54 (Nat.le_of_ble_eq_true rfl) rfl rfl (fun b16 => ?_)
                  refine wl_nil ?_
                  refine wp_alt ?_ ?_
                  · refine o_app1 slc_33 zer_54 rfl rfl rfl hO (by repeat (first | exact Pick.here | apply Pick.next)) (by repeat (first | exact Has.here | apply Has.next)) (Nat.le_of_ble_eq_true rfl) (by simp only [maxLen]; omega) (by omega) (fun v' H' hO2 => ?_)
                    obtain ⟨p2, c2, rfl⟩ := hO2.slice
                    refine wl_nil ?_
                    refine wp_take _ _ ?_
                    refine o_fld fld_53_2 rfl rfl ?_
                    refine wl_nil ?_
                    refine wp_alt ?_ ?_
                    · refine o_store siz_33 rfl rfl rfl (by repeat (first | exact Upd.here | apply Upd.next)) rfl (by simp) ?_
                      refine wl_nil ?_
                      refine wp_done ?_
                      exact w_again ⟨(_, H'), hO2, (by repeat (first | exact Sub.nil _ | refine Sub.cons rfl ?_)), (Take.sub (by repeat (first | exact Take.nil | exact Take.all _ | (apply Take.cons; focus (repeat (first | exact Pick.here | apply Pick.next))))))⟩
                    exact wp_stop
                  exact wp_stop
                exact wp_stop
              exact wp_stop
            rintro ⟨u2, H2⟩ hO2
            refine w_inB ?_
            refine w_region rfl ?_
            refine o_mov rfl ?_
            refine o_add rfl rfl (by first | exact IntWalk.i64_in _ (by omega) | rfl) ?_
            refine o_asg rfl ?_
            refine w_nil ?_
            exact w_again ⟨(i + 1, u2, H2), ⟨by simp only; omega, by simp only at hO2 ⊢; rw [← take_snoc (d := 0) (show i < (toneL n0 n1 n2 c).length by omega)]; exact hO2⟩, (by simp only; omega), (by repeat (first | exact Sub.nil _ | refine Sub.cons rfl ?_)), (Take.sub (by repeat (first | exact Take.nil | exact Take.all _ | (apply Take.cons; focus (repeat (first | exact Pick.here | apply Pick.next))))))⟩
          · obtain rfl : i = c := by omega
            rw [List.take_of_length_le (Nat.le_of_eq htl)] at hO
            obtain ⟨p2, c2, rfl⟩ := Own.slice hO
            have hn : lineS l = some [⟨1, 0, toneL n0 n1 n2 i, [], [], []⟩] := by rw [hline, st_tone h1 h2, if_pos ⟨hok, by rw [e2]; exact hd0⟩, e0, e1, e2, e3, Int.toNat_natCast]
            refine w_exit rfl ?_
            refine w_inB ?_
            refine w_seq ?_
            refine w_region rfl ?_
            refine o_loadW lod_53 rfl (by repeat (first | exact At.here | (refine At.inA ?_; assumption) | apply At.next)) rfl ?_
            refine o_bslN [_] slc_27 zer_53 (Nat.le_of_ble_eq_true rfl) rfl rfl (fun b17 => ?_)
            refine o_asg rfl ?_
            refine o_asg rfl ?_
            refine w_nil ?_
            exact w_ret (ret2 rfl rfl rfl) ⟨_, [(⟨1, 0, toneL n0 n1 n2 i, [], [], []⟩ : StepP)], _, _, by rw [hn]; rfl, SRows.one hO.ints (Ints.none _ _) (Ints.none _ _) (Rd.none _ _), fun x hx => (by rw [hn] at hx; exact Option.some.inj hx), by simp, rfl⟩ (Take.sub (by repeat (first | exact Take.nil | exact Take.all _ | (apply Take.cons; focus (repeat (first | exact Pick.here | apply Pick.next))))))
      · rw [decide_eq_false hok]
        refine w_seq ?_
        refine w_seq ?_
        refine w_region rfl ?_
        refine o_mov rfl ?_
        refine o_not rfl ?_
        refine o_mov rfl ?_
        refine o_no rfl rfl rfl ?_
        refine o_no rfl rfl rfl ?_
        refine o_no rfl rfl rfl ?_
        refine o_no rfl rfl rfl ?_
        refine o_pick_t rfl rfl ?_
        refine w_nil ?_
        refine w_if_t rfl ?_
        have hn : lineS l = none := by rw [hline, st_tone h1 h2, if_neg (fun h => hok h.1)]
        refine w_emp ?_
        refine w_emp ?_
        refine w_seq ?_
        refine w_region rfl ?_
        refine o_asg rfl ?_
        refine o_asg rfl ?_
        refine w_nil ?_
        exact w_ret (ret2 rfl rfl rfl) ⟨_, [], [], [], by rw [hn]; rfl, SRows.nil _, fun x hx => (by rw [hn] at hx; cases hx), by simp, rfl⟩ (Take.sub (by repeat (first | exact Take.nil | exact Take.all _ | (apply Take.cons; focus (repeat (first | exact Pick.here | apply Pick.next))))))
    · refine w_seq ?_
      refine w_region rfl ?_
      refine o_eqT rfl rfl ?_
      refine o_asg rfl ?_
      refine w_nil ?_
      refine w_if_d rfl (fun h3 => ?_) (fun h3 => ?_)
      · have hsl : ∀ i, i < V.length → (V.getD i []).length ≤ 1000000 := fun i hi => by have := hwl _ (List.mem_cons_of_mem w (getD_mem hi)); omega
        have hV : RW Hs_ (.slice (slcAt pw 1 1 cw) V.length (cw - 1)) V := RW.tail (W := w :: V) (show RW Hs_ _ (w :: V) from hS2) (by simp)
        have hcw2 := hcw
        simp only [List.length_cons] at hcw2
        refine w_seq ?_
        refine w_region rfl ?_
        refine o_mov rfl ?_
        refine o_slS (i := 1) (j := ((w :: V).length : Nat)) slc_43 rfl ⟨_, rfl⟩ rfl ⟨by omega, by simp only [List.length_cons]; omega, by simp only [List.length_cons]; omega⟩ ?_
        rw [show (1 : Int).toNat = 1 from rfl, Int.toNat_natCast, show (w :: V).length - 1 = V.length from rfl]
        refine o_bslN [_] slc_66 zer_2 (Nat.le_of_ble_eq_true rfl) rfl rfl (fun b18 => ?_)
        refine o_call (ref_numbers hV (Ints.block (k := .i64) (xs := [99]) (by decide)) hsl (by decide)) fn_24 rfl (by repeat (first | exact Take.nil | exact Take.all _ | (apply Take.cons; focus (repeat (first | exact Pick.here | apply Pick.next))))) ?_
        rintro v ho ⟨v1, HN, rfl, hN, rfl⟩
        refine o_mov rfl ?_
        refine o_ext rfl rfl ?_
        refine o_ext rfl rfl ?_
        refine o_asg rfl ?_
        refine o_asg rfl ?_
        refine w_nil ?_
        by_cases hok : numsOk V [99]
        · rw [decide_eq_true hok]
          have hN := hN hok
          have hnl : (numsL V [99]).length = 1 := (numsL_len V [99]).trans hok.1
          have hb0 : 0 ≤ num V [99] 0 ∧ num V [99] 0 ≤ 99 := num_in hok (show 0 < [99].length by decide)
          obtain ⟨n0, e0⟩ : ∃ n, num V [99] 0 = n := ⟨_, rfl⟩
          rw [e0] at hb0
          refine w_seq ?_
          refine w_seq ?_
          refine w_region rfl ?_
          refine o_mov rfl ?_
          refine o_not rfl ?_
          refine w_nil ?_
          refine w_if_f rfl ?_
          refine w_emp ?_
          have hn : lineS l = some [⟨2, n0, [], [], [], []⟩] := by rw [hline, st_call h1 h2 h3, if_pos hok, e0]
          refine w_skip ?_
          refine w_seq ?_
          refine w_region rfl ?_
          refine o_fld fld_53_0 rfl rfl ?_
          refine o_store siz_3 rfl rfl rfl (by repeat (first | exact Upd.here | apply Upd.next)) rfl (by simp) ?_
          refine w_nil ?_
          refine w_region rfl ?_
          refine o_mov rfl ?_
          refine o_idxI hN.ints (by repeat (first | exact Has.here | apply Has.next)) slc_66 rfl rfl ⟨by omega, by omega⟩ (fun bb2 ff2 ar2 TT2 fr2 hm2 hg2 => ?_)
          refine o_load (v := .int .i64 n0) lod_2 rfl hm2 (hg2.trans (congrArg (fun z => some (Value.int .i64 z)) e0)) ?_
          refine o_fld fld_53_1 rfl rfl ?_
          refine o_store siz_3 rfl rfl rfl (by repeat (first | exact Upd.here | apply Upd.next)) rfl (by simp) ?_
          refine w_nil ?_
          refine w_inB ?_
          refine w_seq ?_
          refine w_region rfl ?_
          refine o_loadW lod_53 rfl (by repeat (first | exact At.here | (refine At.inA ?_; assumption) | apply At.next)) rfl ?_
          refine o_bslN [_] slc_27 zer_53 (Nat.le_of_ble_eq_true rfl) rfl rfl (fun b20 => ?_)
          refine o_asg rfl ?_
          refine o_asg rfl ?_
          refine w_nil ?_
          exact w_ret (ret2 rfl rfl rfl) ⟨_, [(⟨2, n0, [], [], [], []⟩ : StepP)], _, _, by rw [hn]; rfl, SRows.one (Ints.none [] _) (Ints.none _ _) (Ints.none _ _) (Rd.none _ _), fun x hx => (by rw [hn] at hx; exact Option.some.inj hx), by simp, rfl⟩ (Take.sub (by repeat (first | exact Take.nil | exact Take.all _ | (apply Take.cons; focus (repeat (first | exact Pick.here | apply Pick.next))))))
        · rw [decide_eq_false hok]
          refine w_seq ?_
          refine w_seq ?_
          refine w_region rfl ?_
          refine o_mov rfl ?_
          refine o_not rfl ?_
          refine w_nil ?_
          refine w_if_t rfl ?_
          have hn : lineS l = none := by rw [hline, st_call h1 h2 h3, if_neg hok]
          refine w_emp ?_
          refine w_emp ?_
          refine w_seq ?_
          refine w_region rfl ?_
          refine o_asg rfl ?_
          refine o_asg rfl ?_
          refine w_nil ?_
          exact w_ret (ret2 rfl rfl rfl) ⟨_, [], [], [], by rw [hn]; rfl, SRows.nil _, fun x hx => (by rw [hn] at hx; cases hx), by simp, rfl⟩ (Take.sub (by repeat (first | exact Take.nil | exact Take.all _ | (apply Take.cons; focus (repeat (first | exact Pick.here | apply Pick.next))))))
      · refine w_seq ?_
        refine w_region rfl ?_
        refine o_eqT rfl rfl ?_
        refine o_asg rfl ?_
        refine w_nil ?_
        refine w_if_d rfl (fun h4 => ?_) (fun h4 => ?_)
        · refine w_seq ?_
          refine w_seq ?_
          refine w_region rfl ?_
          refine o_mov rfl ?_
          refine o_lenR hS2 slc_43 rfl ?_
          refine o_ne rfl rfl ?_
          refine w_nil ?_
          refine w_if_d rfl (fun hl3 => ?_) (fun hl3 => ?_)
          · have hn : lineS l = none := by rw [hline, st_ends h1 h2 h3 h4, if_neg (fun h => hl3 (by simp only [List.length_cons]; omega))]
            refine w_emp ?_
            refine w_emp ?_
            refine w_seq ?_
            refine w_region rfl ?_
            refine o_asg rfl ?_
            refine o_asg rfl ?_
            refine w_nil ?_
            exact w_ret (ret2 rfl rfl rfl) ⟨_, [], [], [], by rw [hn]; rfl, SRows.nil _, fun x hx => (by rw [hn] at hx; cases hx), by simp, rfl⟩ (Take.sub (by repeat (first | exact Take.nil | exact Take.all _ | (apply Take.cons; focus (repeat (first | exact Pick.here | apply Pick.next))))))
          · have hv2 : V.length = 2 := by simp only [List.length_cons] at hl3; omega
            refine w_skip ?_
            refine w_seq ?_
            refine w_region rfl ?_
            refine o_mov rfl ?_
            refine o_idxR hS2 (by repeat (first | exact Has.here | apply Has.next)) slc_43 rfl rfl ⟨by omega, by simp only [List.length_cons] at *; omega⟩ (fun bb1 ff1 ar1 TT1 fr1 hm1 hg1 => ?_)
            refine o_load (v := str (V.getD 0 [])) lod_9 rfl hm1 (hg1 0 _ (by rw [show (1 : Int).toNat * 1 + 0 = 0 + 1 by omega]; exact (RW.cell (W := w :: V) (i := 0 + 1) (by simp only [List.length_cons]; omega)))) ?_
            refine o_call (ref_hex (V.getD 0 []) (by have := hwl _ (List.mem_cons_of_mem w (getD_mem (show 0 < V.length by omega))); omega)) fn_27 rfl (by repeat (first | exact Take.nil | exact Take.all _ | (apply Take.cons; focus (repeat (first | exact Pick.here | apply Pick.next))))) ?_
            rintro v ho ⟨qa, Ha, rfl, hqa, rfl⟩
            refine o_mov rfl ?_
            refine o_ext rfl rfl ?_
            refine o_ext rfl rfl ?_
            refine o_asg rfl ?_
            refine o_asg rfl ?_
            refine w_nil ?_
            refine w_seq ?_
            refine w_region rfl ?_
            refine o_mov rfl ?_
            refine o_idxR hS2 (by repeat (first | exact Has.here | apply Has.next)) slc_43 rfl rfl ⟨by omega, by simp only [List.length_cons] at *; omega⟩ (fun bb2 ff2 ar2 TT2 fr2 hm2 hg2 => ?_)
            refine o_load (v := str (V.getD 1 [])) lod_9 rfl hm2 (hg2 0 _ (by rw [show (2 : Int).toNat * 1 + 0 = 1 + 1 by omega]; exact (RW.cell (W := w :: V) (i := 1 + 1) (by simp only [List.length_cons]; omega)))) ?_
            refine o_call (ref_hex (V.getD 1 []) (by have := hwl _ (List.mem_cons_of_mem w (getD_mem (show 1 < V.length by omega))); omega)) fn_27 rfl (by repeat (first | exact Take.nil | exact Take.all _ | (apply Take.cons; focus (repeat (first | exact Pick.here | apply Pick.next))))) ?_
            rintro v ho ⟨qb, Hb, rfl, hqb, rfl⟩
            refine o_mov rfl ?_
            refine o_ext rfl rfl ?_
            refine o_ext rfl rfl ?_
            refine o_asg rfl ?_
            refine o_asg rfl ?_
            refine w_nil ?_
            rcases hxa : hexP (V.getD 0 []) with _ | xs
            · refine w_seq ?_
              refine w_seq ?_
              refine w_region rfl ?_
              refine o_mov rfl ?_
              refine o_not rfl ?_
              refine o_mov rfl ?_
              refine o_no rfl rfl rfl ?_
              refine o_no rfl rfl rfl ?_
              refine o_pick_t rfl rfl ?_
              refine w_nil ?_
              refine w_if_t rfl ?_
              have hn : lineS l = none := by rw [hline, st_ends h1 h2 h3 h4, if_neg (fun h => by rw [hxa] at h; exact absurd h.2.1 (by simp))]
              refine w_emp ?_
              refine w_emp ?_
              refine w_seq ?_
              refine w_region rfl ?_
              refine o_asg rfl ?_
              refine o_asg rfl ?_
              refine w_nil ?_
              exact w_ret (ret2 rfl rfl rfl) ⟨_, [], [], [], by rw [hn]; rfl, SRows.nil _, fun x hx => (by rw [hn] at hx; cases hx), by simp, rfl⟩ (Take.sub (by repeat (first | exact Take.nil | exact Take.all _ | (apply Take.cons; focus (repeat (first | exact Pick.here | apply Pick.next))))))
            · have hA := hqa xs hxa
              obtain ⟨p2, c2, rfl⟩ := hA.slice
              rcases hxb : hexP (V.getD 1 []) with _ | ys
              · refine w_seq ?_
                refine w_seq ?_
                refine w_region rfl ?_
                refine o_mov rfl ?_
                refine o_not rfl ?_
                refine o_mov rfl ?_
                refine o_yes rfl rfl ?_
                refine o_mov rfl ?_
                refine o_yes rfl rfl ?_
                refine o_not rfl ?_
                refine o_pick_f rfl rfl ?_
                refine w_nil ?_
                refine w_if_t rfl ?_
                have hn : lineS l = none := by rw [hline, st_ends h1 h2 h3 h4, if_neg (fun h => by rw [hxb] at h; exact absurd h.2.2 (by simp))]
                refine w_emp ?_
                refine w_emp ?_
                refine w_seq ?_
                refine w_region rfl ?_
                refine o_asg rfl ?_
                refine o_asg rfl ?_
                refine w_nil ?_
                exact w_ret (ret2 rfl rfl rfl) ⟨_, [], [], [], by rw [hn]; rfl, SRows.nil _, fun x hx => (by rw [hn] at hx; cases hx), by simp, rfl⟩ (Take.sub (by repeat (first | exact Take.nil | exact Take.all _ | (apply Take.cons; focus (repeat (first | exact Pick.here | apply Pick.next))))))
              · have hB := hqb ys hxb
                obtain ⟨p3, c3, rfl⟩ := hB.slice
                refine w_seq ?_
                refine w_seq ?_
                refine w_region rfl ?_
                refine o_mov rfl ?_
                refine o_not rfl ?_
                refine o_mov rfl ?_
                refine o_yes rfl rfl ?_
                refine o_mov rfl ?_
                refine o_yes rfl rfl ?_
                refine o_not rfl ?_
                refine o_pick_f rfl rfl ?_
                refine w_nil ?_
                refine w_if_f rfl ?_
                refine WT.sub (h' := Ha :: Hb :: [(b2, .cells #[.int .i64 0, .int .i64 0, .slice none 0 0, .slice none 0 0, .slice none 0 0, .slice none 0 0] 53 (0, 0))] :: Hs_ :: []) ?_ (Sub.refl _) (Take.sub (by repeat (first | exact Take.nil | exact Take.all _ | (apply Take.cons; focus (repeat (first | exact Pick.here | apply Pick.next))))))
                refine w_merge ?_
                have hn : lineS l = some [⟨3, 0, [], xs, ys, []⟩] := by rw [hline, st_ends h1 h2 h3 h4, hxa, hxb, if_pos ⟨hv2, rfl, rfl⟩]; rfl
                refine w_skip ?_
                refine w_seq ?_
                refine w_region rfl ?_
                refine o_fld fld_53_0 rfl rfl ?_
                refine o_store siz_3 rfl rfl rfl (by repeat (first | exact Upd.here | apply Upd.next)) rfl (by simp) ?_
                refine w_nil ?_
                refine w_seq ?_
                refine w_region rfl ?_
                refine o_mov rfl ?_
                refine o_fld fld_53_3 rfl rfl ?_
                refine o_store siz_34 rfl rfl rfl (by repeat (first | exact Upd.here | apply Upd.next)) rfl (by simp) ?_
                refine w_nil ?_
                refine w_region rfl ?_
                refine o_mov rfl ?_
                refine o_fld fld_53_4 rfl rfl ?_
                refine o_store siz_34 rfl rfl rfl (by repeat (first | exact Upd.here | apply Upd.next)) rfl (by simp) ?_
                refine w_nil ?_
                refine w_inB ?_
                refine w_seq ?_
                refine w_region rfl ?_
                refine o_loadW lod_53 rfl (by repeat (first | exact At.here | (refine At.inA ?_; assumption) | apply At.next)) rfl ?_
                refine o_bslN [_] slc_27 zer_53 (Nat.le_of_ble_eq_true rfl) rfl rfl (fun b23 => ?_)
                refine o_asg rfl ?_
                refine o_asg rfl ?_
                refine w_nil ?_
                exact w_ret (ret2 rfl rfl rfl) ⟨_, [(⟨3, 0, [], xs, ys, []⟩ : StepP)], _, _, by rw [hn]; rfl, SRows.one (Ints.none (Ha ++ Hb) _) (hA.ints.more (fun x hx => List.mem_append.2 (.inl hx))) (hB.ints.more (fun x hx => List.mem_append.2 (.inr hx))) (Rd.none _ _), fun x hx => (by rw [hn] at hx; exact Option.some.inj hx), by simp, rfl⟩ (Take.sub (by repeat (first | exact Take.nil | exact Take.all _ | (apply Take.cons; focus (repeat (first | exact Pick.here | apply Pick.next))))))
        · refine w_seq ?_
          refine w_region rfl ?_
          refine o_eqT rfl rfl ?_
          refine o_asg rfl ?_
          refine w_nil ?_
          refine w_if_d rfl (fun h5 => ?_) (fun h5 => ?_)
          · refine w_emp ?_
            refine w_seq ?_
            refine w_region rfl ?_
            refine o_fld fld_53_0 rfl rfl ?_
            refine o_store siz_3 rfl rfl rfl (by repeat (first | exact Upd.here | apply Upd.next)) rfl (by simp) ?_
            refine w_nil ?_
            refine w_seq ?_
            refine w_region rfl ?_
            refine o_asg rfl ?_
            refine w_nil ?_
            refine w_block ?_
            refine w_loop (X := Nat × Value × Hp) (fun x => [(4, .slice pw (w :: V).length cw), (5, .pointer (some ⟨b2, 0, none⟩)), (22, .int .i64 (x.1 + 1 : Nat))]) (fun x => [x.2.2, [(b2, .cells #[.int .i64 4, .int .i64 0, .slice none 0 0, .slice none 0 0, .slice none 0 0, x.2.1] 53 (0, 0))], Hs_]) (fun x => x.1 ≤ V.length ∧ Own x.2.2 x.2.1 55 4 x.1 (slotsC ((sltL V).take x.1)) ∧ allB (sltF V) x.1 = true) (fun x => V.length - x.1) (0, .slice none 0 0, []) ⟨by simp, Own.nil _ _, allB_0 _⟩ (by repeat (first | exact Sub.nil _ | refine Sub.cons rfl ?_)) (Take.sub (by repeat (first | exact Take.nil | exact Take.all _ | (apply Take.cons; focus (repeat (first | exact Pick.here | apply Pick.next)))))) ?_
            rintro ⟨j, u, H⟩ ⟨hj, hO, hall⟩
            simp only at hj hO hall ⊢
            have hvl : (w :: V).length = V.length + 1 := rfl
            refine w_seq ?_
            refine w_seq ?_
            refine w_region rfl ?_
            refine o_mov rfl ?_
            refine o_mov rfl ?_
            refine o_lenR hS2 slc_43 rfl ?_
            refine o_lt rfl rfl ?_
            refine w_nil ?_
            refine w_if_d rfl (fun hlt0 => ?_) (fun hlt0 => ?_)
            · have hlt : j < V.length := by omega
              have hsl := sltL_len V
              have htl := hwl _ (List.mem_cons_of_mem w (getD_mem hlt))
              rcases hsp : slotP (V.getD j []) with _ | s
              · refine w_skip ?_
                refine w_seq ?_
                refine w_block ?_
                refine w_seq ?_
                refine w_region rfl ?_
                refine o_mov rfl ?_
                refine o_mov rfl ?_
                refine o_idxR hS2 (by repeat (first | exact Has.here | apply Has.next)) slc_43 rfl rfl ⟨by omega, by simp only [List.length_cons] at *; omega⟩ (fun bb1 ff1 ar1 TT1 fr1 hm1 hg1 => ?_)
                refine o_load (v := str (V.getD j [])) lod_9 rfl hm1 (hg1 0 _ (by rw [show (((j + 1 : Nat) : Int) : Int).toNat * 1 + 0 = j + 1 by omega]; exact (RW.cell (W := w :: V) (i := j + 1) (by simp only [List.length_cons]; omega)))) ?_
                refine o_call (ref_slot (V.getD j []) (by omega)) fn_28 rfl (by repeat (first | exact Take.nil | exact Take.all _ | (apply Take.cons; focus (repeat (first | exact Pick.here | apply Pick.next))))) ?_
                rintro v ho ⟨q, rfl, hq, rfl⟩
                rw [hsp]
                refine o_mov rfl ?_
                refine o_ext rfl rfl ?_
                refine o_ext rfl rfl ?_
                refine o_alloc zer_55 (fun b25 => ?_)
                refine o_storeW siz_55 rfl rfl rfl (by repeat (first | exact Upd.here | apply Upd.next)) rfl rfl ?_
                refine o_asg rfl ?_
                refine w_nil ?_
                refine w_seq ?_
                refine w_seq ?_
                refine w_region rfl ?_
                refine o_mov rfl ?_
                refine o_not rfl ?_
                refine w_nil ?_
                refine w_if_t rfl ?_
                have hn : lineS l = none := by rw [hline, st_interval h1 h2 h3 h4 h5, if_neg (allB_no hlt (slt_no hsp))]
                refine w_emp ?_
                refine w_emp ?_
                refine w_seq ?_
                refine w_region rfl ?_
                refine o_asg rfl ?_
                refine o_asg rfl ?_
                refine w_nil ?_
                exact w_ret (ret2 rfl rfl rfl) ⟨_, [], [], [], by rw [hn]; rfl, SRows.nil _, fun x hx => (by rw [hn] at hx; cases hx), by simp, rfl⟩ (Take.sub (by repeat (first | exact Take.nil | exact Take.all _ | (apply Take.cons; focus (repeat (first | exact Pick.here | apply Pick.next))))))
              · refine w_skip ?_
                refine w_seq ?_
                refine w_block ?_
                refine w_seq ?_
                refine w_region rfl ?_
                refine o_mov rfl ?_
                refine o_mov rfl ?_
                refine o_idxR hS2 (by repeat (first | exact Has.here | apply Has.next)) slc_43 rfl rfl ⟨by omega, by simp only [List.length_cons] at *; omega⟩ (fun bb1 ff1 ar1 TT1 fr1 hm1 hg1 => ?_)
                refine o_load (v := str (V.getD j [])) lod_9 rfl hm1 (hg1 0 _ (by rw [show (((j + 1 : Nat) : Int) : Int).toNat * 1 + 0 = j + 1 by omega]; exact (RW.cell (W := w :: V) (i := j + 1) (by simp only [List.length_cons]; omega)))) ?_
                refine o_call (ref_slot (V.getD j []) (by omega)) fn_28 rfl (by repeat (first | exact Take.nil | exact Take.all _ | (apply Take.cons; focus (repeat (first | exact Pick.here | apply Pick.next))))) ?_
                rintro v ho ⟨q, rfl, hq, rfl⟩
                rw [hsp]
                refine o_mov rfl ?_
                refine o_ext rfl rfl ?_
                refine o_ext rfl rfl ?_
                refine o_alloc zer_55 (fun b27 => ?_)
                refine o_storeW siz_55 rfl rfl rfl (by repeat (first | exact Upd.here | apply Upd.next)) rfl rfl ?_
                refine o_asg rfl ?_
                refine w_nil ?_
                refine w_seq ?_
                refine w_seq ?_
                refine w_region rfl ?_
                refine o_mov rfl ?_
                refine o_not rfl ?_
                refine w_nil ?_
                refine w_if_f rfl ?_
                obtain ⟨hq1, hq2⟩ := slt_yes hlt hsp hq
                refine w_skip ?_
                refine w_region rfl ?_
                refine o_fld fld_53_5 rfl rfl ?_
                refine o_load lod_51 rfl (by repeat (first | exact At.here | (refine At.inA ?_; assumption) | apply At.next)) rfl ?_
                refine o_loadW lod_55 rfl (by repeat (first | exact At.here | (refine At.inA ?_; assumption) | apply At.next)) rfl ?_
                refine o_bslN [_] slc_51 zer_55 (Nat.le_of_ble_eq_true rfl) rfl rfl (fun b28 => ?_)
                refine o_appS (slotC q) slc_51 zer_55 rfl rfl rfl hO (by repeat (first | exact Pick.here | apply Pick.next)) rfl (by repeat (first | exact Has.here | apply Has.next)) rfl (Nat.le_of_ble_eq_true rfl) (by simp only [maxLen]; omega) (by omega) (fun v' H2 hO2 => ?_)
                obtain ⟨p2, c2, rfl⟩ := Own.slice hO2
                refine o_fld fld_53_5 rfl rfl ?_
                refine o_store siz_51 rfl rfl rfl (by repeat (first | exact Upd.here | apply Upd.next)) rfl (by simp) ?_
                refine w_nil ?_
                refine w_inB ?_
                refine w_region rfl ?_
                refine o_mov rfl ?_
                refine o_add rfl rfl (by first | exact IntWalk.i64_in _ (by omega) | rfl) ?_
                refine o_asg rfl ?_
                refine w_nil ?_
                exact w_again ⟨(j + 1, _, H2), ⟨by simp only; omega, by simp only; rw [← take_snoc (d := (0, 0, 0, 0)) (show j < (sltL V).length by omega), slotsC_app, ← hq1]; exact hO2, allB_next hall hq2⟩, (by simp only; omega), (by repeat (first | exact Sub.nil _ | refine Sub.cons rfl ?_)), (Take.sub (by repeat (first | exact Take.nil | exact Take.all _ | (apply Take.cons; focus (repeat (first | exact Pick.here | apply Pick.next))))))⟩
            · obtain rfl : j = V.length := by omega
              rw [List.take_of_length_le (Nat.le_of_eq (sltL_len V))] at hO
              obtain ⟨p2, c2, rfl⟩ := Own.slice hO
              have hn : lineS l = some [⟨4, 0, [], [], [], sltL V⟩] := by rw [hline, st_interval h1 h2 h3 h4 h5, if_pos hall]
              refine w_exit rfl ?_
              refine w_inB ?_
              refine w_seq ?_
              refine w_region rfl ?_
              refine o_loadW lod_53 rfl (by repeat (first | exact At.here | (refine At.inA ?_; assumption) | apply At.next)) rfl ?_
              refine o_bslN [_] slc_27 zer_53 (Nat.le_of_ble_eq_true rfl) rfl rfl (fun b29 => ?_)
              refine o_asg rfl ?_
              refine o_asg rfl ?_
              refine w_nil ?_
              exact w_ret (ret2 rfl rfl rfl) ⟨_, [(⟨4, 0, [], [], [], sltL V⟩ : StepP)], _, _, by rw [hn]; rfl, SRows.one (Ints.none _ _) (Ints.none _ _) (Ints.none _ _) (by rw [sltL_len]; exact hO.rd), fun x hx => (by rw [hn] at hx; exact Option.some.inj hx), by simp, rfl⟩ (Take.sub (by repeat (first | exact Take.nil | exact Take.all _ | (apply Take.cons; focus (repeat (first | exact Pick.here | apply Pick.next))))))
          · refine w_seq ?_
            refine w_region rfl ?_
            refine o_eqT rfl rfl ?_
            refine o_asg rfl ?_
            refine w_nil ?_
            refine w_if_d rfl (fun h6 => ?_) (fun h6 => ?_)
            · have hsl : ∀ i, i < V.length → (V.getD i []).length ≤ 1000000 := fun i hi => by have := hwl _ (List.mem_cons_of_mem w (getD_mem hi)); omega
              have hV : RW Hs_ (.slice (slcAt pw 1 1 cw) V.length (cw - 1)) V := RW.tail (W := w :: V) (show RW Hs_ _ (w :: V) from hS2) (by simp)
              have hcw2 := hcw
              simp only [List.length_cons] at hcw2
              refine w_seq ?_
              refine w_region rfl ?_
              refine o_mov rfl ?_
              refine o_slS (i := 1) (j := ((w :: V).length : Nat)) slc_43 rfl ⟨_, rfl⟩ rfl ⟨by omega, by simp only [List.length_cons]; omega, by simp only [List.length_cons]; omega⟩ ?_
              rw [show (1 : Int).toNat = 1 from rfl, Int.toNat_natCast, show (w :: V).length - 1 = V.length from rfl]
              refine o_bslN [_, _, _, _, _, _, _] slc_66 zer_2 (Nat.le_of_ble_eq_true rfl) rfl rfl (fun b30 => ?_)
              refine o_call (ref_numbers hV (Ints.block (k := .i64) (xs := stormM) (by decide)) hsl (by decide)) fn_24 rfl (by repeat (first | exact Take.nil | exact Take.all _ | (apply Take.cons; focus (repeat (first | exact Pick.here | apply Pick.next))))) ?_
              rintro v ho ⟨v1, HN, rfl, hN, rfl⟩
              refine o_mov rfl ?_
              refine o_ext rfl rfl ?_
              refine o_ext rfl rfl ?_
              refine o_asg rfl ?_
              refine o_asg rfl ?_
              refine w_nil ?_
              by_cases hok : numsOk V stormM
              · rw [decide_eq_true hok]
                have hN := hN hok
                have hnl : (numsL V stormM).length = 7 := (numsL_len V stormM).trans hok.1
                have hb0 : 0 ≤ num V stormM 0 ∧ num V stormM 0 ≤ 4294967295 := num_in hok (show 0 < stormM.length by decide)
                obtain ⟨n0, e0⟩ : ∃ n, num V stormM 0 = n := ⟨_, rfl⟩
                rw [e0] at hb0
                have hb1 : 0 ≤ num V stormM 1 ∧ num V stormM 1 ≤ 65536 := num_in hok (show 1 < stormM.length by decide)
                obtain ⟨n1, e1⟩ : ∃ n, num V stormM 1 = n := ⟨_, rfl⟩
                rw [e1] at hb1
                have hb2 : 0 ≤ num V stormM 2 ∧ num V stormM 2 ≤ 65536 := num_in hok (show 2 < stormM.length by decide)
                obtain ⟨n2, e2⟩ : ∃ n, num V stormM 2 = n := ⟨_, rfl⟩
                rw [e2] at hb2
                have hb3 : 0 ≤ num V stormM 3 ∧ num V stormM 3 ≤ 65536 := num_in hok (show 3 < stormM.length by decide)
                obtain ⟨n3, e3⟩ : ∃ n, num V stormM 3 = n := ⟨_, rfl⟩
                rw [e3] at hb3
                have hb4 : 0 ≤ num V stormM 4 ∧ num V stormM 4 ≤ 65536 := num_in hok (show 4 < stormM.length by decide)
                obtain ⟨n4, e4⟩ : ∃ n, num V stormM 4 = n := ⟨_, rfl⟩
                rw [e4] at hb4
                have hb5 : 0 ≤ num V stormM 5 ∧ num V stormM 5 ≤ 64 := num_in hok (show 5 < stormM.length by decide)
                obtain ⟨n5, e5⟩ : ∃ n, num V stormM 5 = n := ⟨_, rfl⟩
                rw [e5] at hb5
                have hb6 : 0 ≤ num V stormM 6 ∧ num V stormM 6 ≤ 16 := num_in hok (show 6 < stormM.length by decide)
                obtain ⟨n6, e6⟩ : ∃ n, num V stormM 6 = n := ⟨_, rfl⟩
                rw [e6] at hb6
                refine w_seq ?_
                refine w_seq ?_
                refine w_region rfl ?_
                refine o_mov rfl ?_
                refine o_not rfl ?_
                refine w_nil ?_
                refine w_if_f rfl ?_
                obtain ⟨c, rfl⟩ : ∃ c : Nat, n5 = (c : Int) := ⟨n5.toNat, by omega⟩
                obtain ⟨d, rfl⟩ : ∃ d : Nat, n6 = (d : Int) := ⟨n6.toNat, by omega⟩
                refine w_emp ?_
                refine w_emp ?_
                refine w_skip ?_
                refine w_seq ?_
                refine w_line [(0, true), (1, true), (2, true), (3, true), (4, true), (5, true), (6, true), (7, true), (8, true), (9, true), (10, true), (11, true), (12, true), (13, false), (14, false)] mixed (by kernel_rfl) ?_
                refine o_mov rfl ?_
                refine o_idxI hN.ints (by repeat (first | exact Has.here | apply Has.next)) slc_66 rfl rfl ⟨by omega, by omega⟩ (fun bb2 ff2 ar2 TT2 fr2 hm2 hg2 => ?_)
                refine o_load (v := .int .i64 n1) lod_2 rfl hm2 (hg2.trans (congrArg (fun z => some (Value.int .i64 z)) e1)) ?_
                refine o_mov rfl ?_
                refine o_idxI hN.ints (by repeat (first | exact Has.here | apply Has.next)) slc_66 rfl rfl ⟨by omega, by omega⟩ (fun bb3 ff3 ar3 TT3 fr3 hm3 hg3 => ?_)
                refine o_load (v := .int .i64 n2) lod_2 rfl hm3 (hg3.trans (congrArg (fun z => some (Value.int .i64 z)) e2)) ?_
                refine o_mov rfl ?_
                refine o_idxI hN.ints (by repeat (first | exact Has.here | apply Has.next)) slc_66 rfl rfl ⟨by omega, by omega⟩ (fun bb4 ff4 ar4 TT4 fr4 hm4 hg4 => ?_)
                refine o_load (v := .int .i64 n3) lod_2 rfl hm4 (hg4.trans (congrArg (fun z => some (Value.int .i64 z)) e3)) ?_
                refine o_mov rfl ?_
                refine o_idxI hN.ints (by repeat (first | exact Has.here | apply Has.next)) slc_66 rfl rfl ⟨by omega, by omega⟩ (fun bb5 ff5 ar5 TT5 fr5 hm5 hg5 => ?_)
                refine o_load (v := .int .i64 n4) lod_2 rfl hm5 (hg5.trans (congrArg (fun z => some (Value.int .i64 z)) e4)) ?_
                refine o_bld (c := skyC ⟨n1, n2, n3, n4⟩) bld_76 rfl rfl ?_
                refine o_alloc zer_76 (fun b32 => ?_)
                refine o_storeW siz_76 rfl rfl rfl (by repeat (first | exact Upd.here | apply Upd.next)) rfl rfl ?_
                refine w_nil ?_
                refine w_seq ?_
                refine w_line [(0, true), (1, true), (2, true), (3, true), (4, true), (5, true), (6, false), (7, false)] mixed (by kernel_rfl) ?_
                refine o_loadW lod_76 rfl (by repeat (first | exact At.here | (refine At.inA ?_; assumption) | apply At.next)) rfl ?_
                refine o_mov rfl ?_
                refine o_idxI hN.ints (by repeat (first | exact Has.here | apply Has.next)) slc_66 rfl rfl ⟨by omega, by omega⟩ (fun bb6 ff6 ar6 TT6 fr6 hm6 hg6 => ?_)
                refine o_load (v := .int .i64 n0) lod_2 rfl hm6 (hg6.trans (congrArg (fun z => some (Value.int .i64 z)) e0)) ?_
                refine o_conv int_77 (by rw [Tryd.underlying2]; rfl) rfl (by first | exact IntWalk.u64_in _ (by omega) | rfl) ?_
                refine o_bld (c := rC ⟨n1, n2, n3, n4⟩ (n0, false)) bld_79 rfl rfl ?_
                refine o_alloc zer_79 (fun b33 => ?_)
                refine o_storeW siz_79 rfl rfl rfl (by repeat (first | exact Upd.here | apply Upd.next)) rfl rfl ?_
                refine w_nil ?_
                refine w_seq ?_
                refine w_region rfl ?_
                refine o_asg rfl ?_
                refine w_nil ?_
                refine w_seq ?_
                refine w_seq ?_
                refine w_region rfl ?_
                refine o_asg rfl ?_
                refine w_nil ?_
                refine w_block ?_
                refine w_loop (X := Nat × Value × Hp × Hp) (fun x => [(25, v1), (28, .pointer (some ⟨b33, 0, none⟩)), (29, x.2.1), (30, .int .i64 x.1)]) (fun x => [x.2.2.1, x.2.2.2, [(b33, .cells (rC ⟨n1, n2, n3, n4⟩ (stormP ⟨n1, n2, n3, n4⟩ d x.1 (n0, false)).1) 79 (0, 0))], HN]) (fun x => x.1 ≤ c ∧ SRows x.2.2.1 x.2.2.2 x.2.1 53 (stormP ⟨n1, n2, n3, n4⟩ d x.1 (n0, false)).2) (fun x => c - x.1) (0, .slice none 0 0, [], []) ⟨by simp, SRows.nil _⟩ (by repeat (first | exact Sub.nil _ | refine Sub.cons rfl ?_)) (Take.sub (by repeat (first | exact Take.nil | exact Take.all _ | (apply Take.cons; focus (repeat (first | exact Pick.here | apply Pick.next)))))) ?_
                rintro ⟨i, u, Ho, Hi⟩ ⟨hi, hR⟩
                simp only at hi hR ⊢
                refine w_seq ?_
                refine w_seq ?_
                refine w_region rfl ?_
                refine o_mov rfl ?_
                refine o_mov rfl ?_
                refine o_idxI hN.ints (by repeat (first | exact Has.here | apply Has.next)) slc_66 rfl rfl ⟨by omega, by omega⟩ (fun bb7 ff7 ar7 TT7 fr7 hm7 hg7 => ?_)
                refine o_load (v := .int .i64 (c : Int)) lod_2 rfl hm7 (hg7.trans (congrArg (fun z => some (Value.int .i64 z)) e5)) ?_
                refine o_lt rfl rfl ?_
                refine w_nil ?_
                refine w_if_d rfl (fun hlt => ?_) (fun hlt => ?_)
                · have hlt2 : i < c := by omega
                  have hsl := stormP_len ⟨n1, n2, n3, n4⟩ d (n0, false) i
                  have hsin := stormP_in ⟨n1, n2, n3, n4⟩ d (s := (n0, false)) hb0 i
                  refine w_emp ?_
                  have hz := hlt2
                  refine w_skip ?_
                  refine w_seq ?_
                  refine w_block ?_
                  refine w_seq ?_
                  refine w_region rfl ?_
                  refine o_bld bld_53 rfl rfl ?_
                  refine o_alloc zer_53 (fun b34 => ?_)
                  refine o_storeW siz_53 rfl rfl rfl (by repeat (first | exact Upd.here | apply Upd.next)) rfl rfl ?_
                  refine w_nil ?_
                  refine w_seq ?_
                  refine w_seq ?_
                  refine w_region rfl ?_
                  refine o_asg rfl ?_
                  refine w_nil ?_
                  refine w_block ?_
                  refine w_loop (X := Nat × Value × Hp) (fun x => [(25, v1), (28, .pointer (some ⟨b33, 0, none⟩)), (29, u), (30, .int .i64 i), (31, .pointer (some ⟨b34, 0, none⟩)), (32, .int .i64 x.1)]) (fun x => [x.2.2, [(b34, .cells #[.int .i64 4, .int .i64 0, .slice none 0 0, .slice none 0 0, .slice none 0 0, x.2.1] 53 (0, 0))], Ho, Hi, [(b33, .cells (rC ⟨n1, n2, n3, n4⟩ (rowP ⟨n1, n2, n3, n4⟩ x.1 (stormP ⟨n1, n2, n3, n4⟩ d i (n0, false)).1).1) 79 (0, 0))], HN]) (fun x => x.1 ≤ d ∧ Own x.2.2 x.2.1 55 4 x.1 (slotsC (rowP ⟨n1, n2, n3, n4⟩ x.1 (stormP ⟨n1, n2, n3, n4⟩ d i (n0, false)).1).2)) (fun x => d - x.1) (0, .slice none 0 0, []) ⟨by simp, Own.nil _ _⟩ (by repeat (first | exact Sub.nil _ | refine Sub.cons rfl ?_)) (Take.sub (by repeat (first | exact Take.nil | exact Take.all _ | (apply Take.cons; focus (repeat (first | exact Pick.here | apply Pick.next)))))) ?_
                  rintro ⟨k, ur, H⟩ ⟨hk, hO⟩
                  simp only at hk hO ⊢
                  refine w_seq ?_
                  refine w_seq ?_
                  refine w_region rfl ?_
                  refine o_mov rfl ?_
                  refine o_mov rfl ?_
                  refine o_idxI hN.ints (by repeat (first | exact Has.here | apply Has.next)) slc_66 rfl rfl ⟨by omega, by omega⟩ (fun bb8 ff8 ar8 TT8 fr8 hm8 hg8 => ?_)
                  refine o_load (v := .int .i64 (d : Int)) lod_2 rfl hm8 (hg8.trans (congrArg (fun z => some (Value.int .i64 z)) e6)) ?_
                  refine o_lt rfl rfl ?_
                  refine w_nil ?_
                  refine w_if_d rfl (fun hkd => ?_) (fun hkd => ?_)
                  · have hin := rowP_in ⟨n1, n2, n3, n4⟩ hsin k
                    have hst := fun a b x y => rowP_step (k := ⟨n1, n2, n3, n4⟩) (m := k) (s := (stormP ⟨n1, n2, n3, n4⟩ d i (n0, false)).1) (a := a) (b := b) (x := x) (y := y)
                    obtain ⟨⟨x, f⟩, hs0⟩ : ∃ q, (rowP ⟨n1, n2, n3, n4⟩ k (stormP ⟨n1, n2, n3, n4⟩ d i (n0, false)).1).1 = q := ⟨_, rfl⟩
                    rw [hs0] at hin hst ⊢
                    obtain ⟨⟨⟨x1, f1⟩, y1⟩, hl1⟩ : ∃ q, lostP ⟨n1, n2, n3, n4⟩ (x, f) = q := ⟨_, rfl⟩
                    have hin1 := lostP_in1 hl1
                    obtain ⟨⟨⟨x2, f2⟩, y2⟩, hl2⟩ : ∃ q, lostP ⟨n1, n2, n3, n4⟩ (x1, f1) = q := ⟨_, rfl⟩
                    obtain ⟨r1, r2⟩ := hst _ _ _ _ hl1 hl2
                    refine w_skip ?_
                    refine w_seq ?_
                    refine w_block ?_
                    refine w_seq ?_
                    refine w_region rfl ?_
                    refine o_asg rfl ?_
                    refine o_asg rfl ?_
                    refine w_nil ?_
                    refine w_seq ?_
                    refine w_region rfl ?_
                    refine o_loadW lod_79 rfl (by repeat (first | exact At.here | (refine At.inA ?_; assumption) | apply At.next)) rfl ?_
                    refine o_call (rw_Lost ⟨n1, n2, n3, n4⟩ x f hin) fn_29 rfl (by repeat (first | exact Take.nil | exact Take.all _ | (apply Take.cons; focus (repeat (first | exact Pick.here | apply Pick.next))))) ?_
                    rintro v ho ⟨rfl, rfl⟩
                    rw [hl1]
                    refine o_mov rfl ?_
                    refine o_ext rfl rfl ?_
                    refine o_ext rfl rfl ?_
                    refine o_storeW siz_79 rfl rfl rfl (by repeat (first | exact Upd.here | apply Upd.next)) rfl rfl ?_
                    refine o_asg rfl ?_
                    refine w_nil ?_
                    refine w_seq ?_
                    refine w_region rfl ?_
                    refine o_loadW lod_79 rfl (by repeat (first | exact At.here | (refine At.inA ?_; assumption) | apply At.next)) rfl ?_
                    refine o_call (rw_Lost ⟨n1, n2, n3, n4⟩ x1 f1 hin1) fn_29 rfl (by repeat (first | exact Take.nil | exact Take.all _ | (apply Take.cons; focus (repeat (first | exact Pick.here | apply Pick.next))))) ?_
                    rintro v ho ⟨rfl, rfl⟩
                    rw [hl2]
                    refine o_mov rfl ?_
                    refine o_ext rfl rfl ?_
                    refine o_ext rfl rfl ?_
                    refine o_storeW siz_79 rfl rfl rfl (by repeat (first | exact Upd.here | apply Upd.next)) rfl rfl ?_
                    refine o_asg rfl ?_
                    refine w_nil ?_
                    cases y1
                    · cases y2
                      · refine w_seq ?_
                        refine w_region rfl ?_
                        refine o_bld bld_55 rfl rfl ?_
                        refine o_alloc zer_55 (fun b37 => ?_)
                        refine o_storeW siz_55 rfl rfl rfl (by repeat (first | exact Upd.here | apply Upd.next)) rfl rfl ?_
                        refine w_nil ?_
                        refine w_seq ?_
                        refine w_seq ?_
                        refine w_region rfl ?_
                        refine o_mov rfl ?_
                        refine w_nil ?_
                        refine w_if_f rfl ?_
                        refine w_skip ?_
                        refine w_seq ?_
                        refine w_seq ?_
                        refine w_region rfl ?_
                        refine o_mov rfl ?_
                        refine w_nil ?_
                        refine w_if_f rfl ?_
                        have hz := hO
                        refine w_skip ?_
                        refine w_region rfl ?_
                        refine o_fld fld_53_5 rfl rfl ?_
                        refine o_load lod_51 rfl (by repeat (first | exact At.here | (refine At.inA ?_; assumption) | apply At.next)) rfl ?_
                        refine o_loadW lod_55 rfl (by repeat (first | exact At.here | (refine At.inA ?_; assumption) | apply At.next)) rfl ?_
                        refine o_bslN [_] slc_51 zer_55 (Nat.le_of_ble_eq_true rfl) rfl rfl (fun b38 => ?_)
                        refine o_appS ([.int .i64 0, .int .i64 0, .int .i64 0, .int .u32 0]) slc_51 zer_55 rfl rfl rfl hO (by repeat (first | exact Pick.here | apply Pick.next)) rfl (by repeat (first | exact Has.here | apply Has.next)) rfl (Nat.le_of_ble_eq_true rfl) (by simp only [maxLen]; omega) (by omega) (fun v' H2 hO2 => ?_)
                        obtain ⟨p2, c2, rfl⟩ := Own.slice hO2
                        refine o_fld fld_53_5 rfl rfl ?_
                        refine o_store siz_51 rfl rfl rfl (by repeat (first | exact Upd.here | apply Upd.next)) rfl (by simp) ?_
                        refine w_nil ?_
                        refine w_inB ?_
                        refine w_region rfl ?_
                        refine o_mov rfl ?_
                        refine o_add rfl rfl (by first | exact IntWalk.i64_in _ (by omega) | rfl) ?_
                        refine o_asg rfl ?_
                        refine w_nil ?_
                        exact w_again ⟨(k + 1, _, H2), ⟨by simp only; omega, by simp only; rw [r2, slotsC_app]; exact hO2⟩, (by simp only; omega), (by repeat (first | exact Sub.nil _ | refine Sub.cons rfl ?_)), (by simp only; rw [r1]; exact Take.sub (by repeat (first | exact Take.nil | exact Take.all _ | (apply Take.cons; focus (repeat (first | exact Pick.here | apply Pick.next))))))⟩
                      · refine w_seq ?_
                        refine w_region rfl ?_
                        refine o_bld bld_55 rfl rfl ?_
                        refine o_alloc zer_55 (fun b39 => ?_)
                        refine o_storeW siz_55 rfl rfl rfl (by repeat (first | exact Upd.here | apply Upd.next)) rfl rfl ?_
                        refine w_nil ?_
                        refine w_seq ?_
                        refine w_seq ?_
                        refine w_region rfl ?_
                        refine o_mov rfl ?_
                        refine w_nil ?_
                        refine w_if_f rfl ?_
                        refine w_skip ?_
                        refine w_seq ?_
                        refine w_seq ?_
                        refine w_region rfl ?_
                        refine o_mov rfl ?_
                        refine w_nil ?_
                        refine w_if_t rfl ?_
                        have hz := hO
                        refine w_region rfl ?_
                        refine o_fld fld_55_1 rfl rfl ?_
                        refine o_store siz_3 rfl rfl rfl (by repeat (first | exact Upd.here | apply Upd.next)) rfl (by simp) ?_
                        refine w_nil ?_
                        refine w_region rfl ?_
                        refine o_fld fld_53_5 rfl rfl ?_
                        refine o_load lod_51 rfl (by repeat (first | exact At.here | (refine At.inA ?_; assumption) | apply At.next)) rfl ?_
                        refine o_loadW lod_55 rfl (by repeat (first | exact At.here | (refine At.inA ?_; assumption) | apply At.next)) rfl ?_
                        refine o_bslN [_] slc_51 zer_55 (Nat.le_of_ble_eq_true rfl) rfl rfl (fun b40 => ?_)
                        refine o_appS ([.int .i64 0, .int .i64 1, .int .i64 0, .int .u32 0]) slc_51 zer_55 rfl rfl rfl hO (by repeat (first | exact Pick.here | apply Pick.next)) rfl (by repeat (first | exact Has.here | apply Has.next)) rfl (Nat.le_of_ble_eq_true rfl) (by simp only [maxLen]; omega) (by omega) (fun v' H2 hO2 => ?_)
                        obtain ⟨p2, c2, rfl⟩ := Own.slice hO2
                        refine o_fld fld_53_5 rfl rfl ?_
                        refine o_store siz_51 rfl rfl rfl (by repeat (first | exact Upd.here | apply Upd.next)) rfl (by simp) ?_
                        refine w_nil ?_
                        refine w_inB ?_
                        refine w_region rfl ?_
                        refine o_mov rfl ?_
                        refine o_add rfl rfl (by first | exact IntWalk.i64_in _ (by omega) | rfl) ?_
                        refine o_asg rfl ?_
                        refine w_nil ?_
                        exact w_again ⟨(k + 1, _, H2), ⟨by simp only; omega, by simp only; rw [r2, slotsC_app]; exact hO2⟩, (by simp only; omega), (by repeat (first | exact Sub.nil _ | refine Sub.cons rfl ?_)), (by simp only; rw [r1]; exact Take.sub (by repeat (first | exact Take.nil | exact Take.all _ | (apply Take.cons; focus (repeat (first | exact Pick.here | apply Pick.next))))))⟩
                    · cases y2
                      · refine w_seq ?_
                        refine w_region rfl ?_
                        refine o_bld bld_55 rfl rfl ?_
                        refine o_alloc zer_55 (fun b41 => ?_)
                        refine o_storeW siz_55 rfl rfl rfl (by repeat (first | exact Upd.here | apply Upd.next)) rfl rfl ?_
                        refine w_nil ?_
                        refine w_seq ?_
                        refine w_seq ?_
                        refine w_region rfl ?_
                        refine o_mov rfl ?_
                        refine w_nil ?_
                        refine w_if_t rfl ?_
                        refine w_region rfl ?_
                        refine o_fld fld_55_0 rfl rfl ?_
                        refine o_store siz_3 rfl rfl rfl (by repeat (first | exact Upd.here | apply Upd.next)) rfl (by simp) ?_
                        refine w_nil ?_
                        refine w_seq ?_
                        refine w_seq ?_
                        refine w_region rfl ?_
                        refine o_mov rfl ?_
                        refine w_nil ?_
                        refine w_if_f rfl ?_
                        have hz := hO
                        refine w_skip ?_
                        refine w_region rfl ?_
                        refine o_fld fld_53_5 rfl rfl ?_
                        refine o_load lod_51 rfl (by repeat (first | exact At.here | (refine At.inA ?_; assumption) | apply At.next)) rfl ?_
                        refine o_loadW lod_55 rfl (by repeat (first | exact At.here | (refine At.inA ?_; assumption) | apply At.next)) rfl ?_
                        refine o_bslN [_] slc_51 zer_55 (Nat.le_of_ble_eq_true rfl) rfl rfl (fun b42 => ?_)
                        refine o_appS ([.int .i64 1, .int .i64 0, .int .i64 0, .int .u32 0]) slc_51 zer_55 rfl rfl rfl hO (by repeat (first | exact Pick.here | apply Pick.next)) rfl (by repeat (first | exact Has.here | apply Has.next)) rfl (Nat.le_of_ble_eq_true rfl) (by simp only [maxLen]; omega) (by omega) (fun v' H2 hO2 => ?_)
                        obtain ⟨p2, c2, rfl⟩ := Own.slice hO2
                        refine o_fld fld_53_5 rfl rfl ?_
                        refine o_store siz_51 rfl rfl rfl (by repeat (first | exact Upd.here | apply Upd.next)) rfl (by simp) ?_
                        refine w_nil ?_
                        refine w_inB ?_
                        refine w_region rfl ?_
                        refine o_mov rfl ?_
                        refine o_add rfl rfl (by first | exact IntWalk.i64_in _ (by omega) | rfl) ?_
                        refine o_asg rfl ?_
                        refine w_nil ?_
                        exact w_again ⟨(k + 1, _, H2), ⟨by simp only; omega, by simp only; rw [r2, slotsC_app]; exact hO2⟩, (by simp only; omega), (by repeat (first | exact Sub.nil _ | refine Sub.cons rfl ?_)), (by simp only; rw [r1]; exact Take.sub (by repeat (first | exact Take.nil | exact Take.all _ | (apply Take.cons; focus (repeat (first | exact Pick.here | apply Pick.next))))))⟩
                      · refine w_seq ?_
                        refine w_region rfl ?_
                        refine o_bld bld_55 rfl rfl ?_
                        refine o_alloc zer_55 (fun b43 => ?_)
                        refine o_storeW siz_55 rfl rfl rfl (by repeat (first | exact Upd.here | apply Upd.next)) rfl rfl ?_
                        refine w_nil ?_
                        refine w_seq ?_
                        refine w_seq ?_
                        refine w_region rfl ?_
                        refine o_mov rfl ?_
                        refine w_nil ?_
                        refine w_if_t rfl ?_
                        refine w_region rfl ?_
                        refine o_fld fld_55_0 rfl rfl ?_
                        refine o_store siz_3 rfl rfl rfl (by repeat (first | exact Upd.here | apply Upd.next)) rfl (by simp) ?_
                        refine w_nil ?_
                        refine w_seq ?_
                        refine w_seq ?_
                        refine w_region rfl ?_
                        refine o_mov rfl ?_
                        refine w_nil ?_
                        refine w_if_t rfl ?_
                        have hz := hO
                        refine w_region rfl ?_
                        refine o_fld fld_55_1 rfl rfl ?_
                        refine o_store siz_3 rfl rfl rfl (by repeat (first | exact Upd.here | apply Upd.next)) rfl (by simp) ?_
                        refine w_nil ?_
                        refine w_region rfl ?_
                        refine o_fld fld_53_5 rfl rfl ?_
                        refine o_load lod_51 rfl (by repeat (first | exact At.here | (refine At.inA ?_; assumption) | apply At.next)) rfl ?_
                        refine o_loadW lod_55 rfl (by repeat (first | exact At.here | (refine At.inA ?_; assumption) | apply At.next)) rfl ?_
                        refine o_bslN [_] slc_51 zer_55 (Nat.le_of_ble_eq_true rfl) rfl rfl (fun b44 => ?_)
                        refine o_appS ([.int .i64 1, .int .i64 1, .int .i64 0, .int .u32 0]) slc_51 zer_55 rfl rfl rfl hO (by repeat (first | exact Pick.here | apply Pick.next)) rfl (by repeat (first | exact Has.here | apply Has.next)) rfl (Nat.le_of_ble_eq_true rfl) (by simp only [maxLen]; omega) (by omega) (fun v' H2 hO2 => ?_)
                        obtain ⟨p2, c2, rfl⟩ := Own.slice hO2
                        refine o_fld fld_53_5 rfl rfl ?_
                        refine o_store siz_51 rfl rfl rfl (by repeat (first | exact Upd.here | apply Upd.next)) rfl (by simp) ?_
                        refine w_nil ?_
                        refine w_inB ?_
                        refine w_region rfl ?_
                        refine o_mov rfl ?_
                        refine o_add rfl rfl (by first | exact IntWalk.i64_in _ (by omega) | rfl) ?_
                        refine o_asg rfl ?_
                        refine w_nil ?_
                        exact w_again ⟨(k + 1, _, H2), ⟨by simp only; omega, by simp only; rw [r2, slotsC_app]; exact hO2⟩, (by simp only; omega), (by repeat (first | exact Sub.nil _ | refine Sub.cons rfl ?_)), (by simp only; rw [r1]; exact Take.sub (by repeat (first | exact Take.nil | exact Take.all _ | (apply Take.cons; focus (repeat (first | exact Pick.here | apply Pick.next))))))⟩
                  · obtain rfl : d = k := by omega
                    obtain ⟨pr, cr, rfl, -⟩ := Rd.slice hO.rd
                    obtain ⟨cs, hOw, hall, hst⟩ := hR
                    have hcl := hOw.1
                    refine WT.sub (h' := H :: Hi :: [(b34, .cells #[.int .i64 4, .int .i64 0, .slice none 0 0, .slice none 0 0, .slice none 0 0, .slice pr d cr] 53 (0, 0))] :: Ho :: [(b33, .cells (rC ⟨n1, n2, n3, n4⟩ (rowP ⟨n1, n2, n3, n4⟩ d (stormP ⟨n1, n2, n3, n4⟩ d i (n0, false)).1).1) 79 (0, 0))] :: HN :: []) ?_ (Sub.refl _) (Take.sub (by repeat (first | exact Take.nil | exact Take.all _ | (apply Take.cons; focus (repeat (first | exact Pick.here | apply Pick.next))))))
                    refine w_merge ?_
                    refine w_exit rfl ?_
                    refine w_region rfl ?_
                    refine o_mov rfl ?_
                    refine o_loadW lod_53 rfl (by repeat (first | exact At.here | (refine At.inA ?_; assumption) | apply At.next)) rfl ?_
                    refine o_bslN [_] slc_27 zer_53 (Nat.le_of_ble_eq_true rfl) rfl rfl (fun b45 => ?_)
                    refine o_appS [.int .i64 4, .int .i64 0, .slice none 0 0, .slice none 0 0, .slice none 0 0, .slice pr d cr] slc_27 zer_53 rfl rfl rfl hOw (by repeat (first | exact Pick.here | apply Pick.next)) rfl (by repeat (first | exact Has.here | apply Has.next)) rfl (Nat.le_of_ble_eq_true rfl) (by simp only [maxLen]; omega) (by omega) (fun v' H2 hO2 => ?_)
                    obtain ⟨p2, c2, rfl⟩ := Own.slice hO2
                    have hnew := SRows.push (s := ⟨4, 0, [], [], [], (rowP ⟨n1, n2, n3, n4⟩ d (stormP ⟨n1, n2, n3, n4⟩ d i (n0, false)).1).2⟩) hcl hO2 hall hst (Ints.none H _) (Ints.none H _) (Ints.none H _) (by rw [rowP_len]; exact hO.rd)
                    refine o_asg rfl ?_
                    refine w_nil ?_
                    refine w_inB ?_
                    refine w_region rfl ?_
                    refine o_mov rfl ?_
                    refine o_add rfl rfl (by first | exact IntWalk.i64_in _ (by omega) | rfl) ?_
                    refine o_asg rfl ?_
                    refine w_nil ?_
                    exact w_again ⟨(i + 1, _, H2, H ++ Hi), ⟨by simp only; omega, hnew⟩, (by simp only; omega), (by repeat (first | exact Sub.nil _ | refine Sub.cons rfl ?_)), (Take.sub (by repeat (first | exact Take.nil | exact Take.all _ | (apply Take.cons; focus (repeat (first | exact Pick.here | apply Pick.next))))))⟩
                · obtain rfl : i = c := by omega
                  have hsl := stormP_len ⟨n1, n2, n3, n4⟩ d (n0, false) i
                  have hn : lineS l = some (stormP ⟨n1, n2, n3, n4⟩ d i (n0, false)).2 := by rw [hline, st_storm h1 h2 h3 h4 h5 h6, if_pos hok, e0, e1, e2, e3, e4, e5, e6, Int.toNat_natCast, Int.toNat_natCast]
                  refine w_exit rfl ?_
                  refine w_seq ?_
                  refine w_region rfl ?_
                  refine o_mov rfl ?_
                  refine o_asg rfl ?_
                  refine o_asg rfl ?_
                  refine w_nil ?_
                  exact w_ret (ret2 rfl rfl rfl) ⟨_, (stormP ⟨n1, n2, n3, n4⟩ d i (n0, false)).2, Ho, Hi, by rw [hn]; rfl, hR, fun x hx => (by rw [hn] at hx; exact Option.some.inj hx), (by rw [hsl]; omega), rfl⟩ (Take.sub (by repeat (first | exact Take.nil | exact Take.all _ | (apply Take.cons; focus (repeat (first | exact Pick.here | apply Pick.next))))))
              · rw [decide_eq_false hok]
                refine w_seq ?_
                refine w_seq ?_
                refine w_region rfl ?_
                refine o_mov rfl ?_
                refine o_not rfl ?_
                refine w_nil ?_
                refine w_if_t rfl ?_
                have hn : lineS l = none := by rw [hline, st_storm h1 h2 h3 h4 h5 h6, if_neg hok]
                refine w_emp ?_
                refine w_emp ?_
                refine w_seq ?_
                refine w_region rfl ?_
                refine o_asg rfl ?_
                refine o_asg rfl ?_
                refine w_nil ?_
                exact w_ret (ret2 rfl rfl rfl) ⟨_, [], [], [], by rw [hn]; rfl, SRows.nil _, fun x hx => (by rw [hn] at hx; cases hx), by simp, rfl⟩ (Take.sub (by repeat (first | exact Take.nil | exact Take.all _ | (apply Take.cons; focus (repeat (first | exact Pick.here | apply Pick.next))))))
            · have hn : lineS l = none := by rw [hline, st_none h1 h2 h3 h4 h5 h6]
              refine w_emp ?_
              refine w_emp ?_
              refine w_seq ?_
              refine w_region rfl ?_
              refine o_asg rfl ?_
              refine o_asg rfl ?_
              refine w_nil ?_
              exact w_ret (ret2 rfl rfl rfl) ⟨_, [], [], [], by rw [hn]; rfl, SRows.nil _, fun x hx => (by rw [hn] at hx; cases hx), by simp, rfl⟩ (Take.sub (by repeat (first | exact Take.nil | exact Take.all _ | (apply Take.cons; focus (repeat (first | exact Pick.here | apply Pick.next))))))

end Go.Proofs.YtmcopafdooejjaaDoor
