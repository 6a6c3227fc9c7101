/- Contracts: the steps of a line's words, by the program. No condition but on the lengths. -/
import Derived.Test.YtmcopafdooejjaaDoorTy
import Derived.Test.YtmcopafdooejjaaDoorHh
import Derived.Test.YtmcopafdooejjaaDoorPw
namespace Go.Proofs.YtmcopafdooejjaaDoor
open Go.Eng
set_option linter.unusedVariables false
set_option linter.unusedSimpArgs false
set_option maxRecDepth 20000
attribute [local irreducible] WL WT
theorem rd_word1 {p : Nat} {T : TypeId} {vw : Value} {Hw : Hp} {w : List UInt8} {V : List (List UInt8)} (hw : RW Hw vw (w :: V)) : Ctr Tryd.prog 16 [.pointer (some ⟨p, 0, none⟩)] [[(p, .cells #[vw, .bool false] T (0, 0))], Hw] (fun v ho => ∃ vw', v = str w ∧ RW Hw vw' V ∧ ho = [[(p, .cells #[vw', .bool false] T (0, 0))], Hw]) := rd_word hw

theorem rd_steps {p : Nat} {T : TypeId} {vw : Value} {Hw : Hp} {w : List UInt8} {V : List (List UInt8)} (hw : RW Hw vw (w :: V)) (hwl : ∀ u ∈ V, u.length ≤ 1000000) (hVl : V.length ≤ 1000000) : Ctr Tryd.prog 11 [.pointer (some ⟨p, 0, none⟩)] ([[(p, .cells #[vw, .bool false] T (0, 0))], Hw]) (fun v ho => ∃ vw' W' bad' L Ho Hi, SRows Ho Hi v 37 L ∧ RW Hw vw' W' ∧ Res (stepsP (w :: V)) bad' W' L ∧ L.length ≤ 64 ∧ ho = [Ho, Hi, [(p, .cells #[vw', .bool bad'] T (0, 0))], Hw]) := by
  refine spec_of Tryd.func11 rfl rfl fun w0 L => ?_
  refine w_seq ?_
  refine w_region rfl ?_
  refine o_asg rfl ?_
  refine w_nil ?_
  refine w_seq ?_
  refine w_region rfl ?_
  refine o_alloc zer_37 (fun b1 => ?_)
  refine w_nil ?_
  refine w_seq ?_
  refine w_seq ?_
  refine w_region rfl ?_
  refine o_mov rfl ?_
  refine o_call (rd_word1 hw) fn_16 rfl (by repeat (first | exact Take.nil | exact Take.all _ | (apply Take.cons; focus (repeat (first | exact Pick.here | apply Pick.next))))) ?_
  rintro v ho ⟨vw', rfl, hw', rfl⟩
  refine w_nil ?_
  refine w_block ?_
  refine w_seq ?_
  refine w_region rfl ?_
  refine o_eqT rfl rfl ?_
  refine o_asg rfl ?_
  refine w_nil ?_
  refine w_if_d rfl (fun h1 => ?_) (fun h1 => ?_)
  · refine w_emp ?_
    refine w_seq ?_
    refine w_region rfl ?_
    refine o_fld fld_37_0 rfl rfl ?_
    refine o_store siz_3 rfl rfl rfl (by repeat (first | exact Upd.here | apply Upd.next)) rfl (by simp) ?_
    refine w_nil ?_
    refine w_block ?_
    refine w_loop (X := Nat × Value × Value × Hp) (fun x => [(0, .pointer (some ⟨p, 0, none⟩)), (3, .pointer (some ⟨b1, 0, none⟩))]) (fun x => [x.2.2.2, [(b1, .cells #[.int .i64 1, .int .i64 0, x.2.2.1, .slice none 0 0, .slice none 0 0, .slice none 0 0] 37 (0, 0))], [(p, .cells #[x.2.1, .bool (!allB (smpF V) x.1)] T (0, 0))], Hw]) (fun x => x.1 ≤ V.length ∧ RW Hw x.2.1 (V.drop x.1) ∧ OwnI x.2.2.2 x.2.2.1 54 .i16 ((smpL V).take x.1)) (fun x => V.length - x.1) (0, vw', .slice none 0 0, []) ⟨by simp, by simpa using hw', OwnI.nil _ _⟩ (by repeat (first | exact Sub.nil _ | refine Sub.cons rfl ?_)) (by rw [allB_0]; exact Take.sub (by repeat (first | exact Take.nil | exact Take.all _ | (apply Take.cons; focus (repeat (first | exact Pick.here | apply Pick.next)))))) ?_
    rintro ⟨j, vj, u, H⟩ ⟨hj, hwj, hO⟩
    simp only at hj hwj hO ⊢
    have hwj2 := hwj
    unfold RW at hwj2
    have hdl : (V.drop j).length = V.length - j := List.length_drop
    refine w_seq ?_
    refine w_seq ?_
    refine w_region rfl ?_
    refine o_mov rfl ?_
    refine o_nilc rfl ?_
    refine o_fld fld_46_0 rfl rfl ?_
    refine o_load lod_43 rfl (by repeat (first | exact At.here | (refine At.inA ?_; assumption) | apply At.next)) rfl ?_
    refine o_lenR hwj2 slc_43 rfl ?_
    refine o_gt rfl rfl ?_
    refine w_nil ?_
    refine w_if_d rfl (fun hgt => ?_) (fun hgt => ?_)
    · have hlt : j < V.length := by omega
      have hsl := smpL_len V
      have htk : ((smpL V).take j).length = j := by rw [List.length_take]; omega
      have hfs := flag_step (smpF V) j (b := (sampleP (V.getD j [])).isNone) (isNone_not _)
      have hsg := smpL_get hlt
      refine w_skip ?_
      refine w_block ?_
      refine w_cut_x (X := Value × Value × Hp) (fun x => [(0, .pointer (some ⟨p, 0, none⟩)), (3, .pointer (some ⟨b1, 0, none⟩))]) (fun x => [x.2.2, [(b1, .cells #[.int .i64 1, .int .i64 0, x.2.1, .slice none 0 0, .slice none 0 0, .slice none 0 0] 37 (0, 0))], [(p, .cells #[x.1, .bool (!allB (smpF V) (j + 1))] T (0, 0))], Hw]) (fun x => RW Hw x.1 (V.drop (j + 1)) ∧ OwnI x.2.2 x.2.1 54 .i16 ((smpL V).take j ++ [(smpL V).getD j 0])) ?_ ?_
      · refine w_plan (takes [0, 2] (.alt 1 (.alt 3 (.alt 4 (.alt 5 (takes [6] (.alt 7 .done .stop)) .stop) .stop) .stop) (.alt 3 (takes [1] (.alt 4 (.alt 5 (takes [6] (.alt 7 .done .stop)) .stop) .stop)) .stop))) mixed (by kernel_rfl) ?_
        refine wp_take _ _ ?_
        refine o_fld fld_37_2 rfl rfl ?_
        refine o_mov rfl ?_
        refine wl_nil ?_
        refine wp_alt ?_ ?_
        · refine o_load lod_33 rfl (by repeat (first | exact At.here | (refine At.inA ?_; assumption) | apply At.next)) rfl ?_
          refine wl_nil ?_
          refine wp_alt ?_ ?_
          · refine o_call (rd_sample hwj (hd_len (fun u hu => hwl u (List.mem_of_mem_drop hu)))) fn_17 rfl (by repeat (first | exact Take.nil | exact Take.all _ | (apply Take.cons; focus (repeat (first | exact Pick.here | apply Pick.next))))) ?_
            rintro v ho ⟨vk, rfl, hwk, rfl⟩
            rw [drop_tail] at hwk
            rw [drop_head, hfs, ← hsg]
            refine wl_nil ?_
            refine wp_alt ?_ ?_
            · refine o_bslN [_] slc_33 zer_54 (Nat.le_of_ble_eq_true rfl) rfl rfl (fun b4 => ?_)
              refine wl_nil ?_
              refine wp_alt ?_ ?_
              · refine o_app1 slc_33 zer_54 rfl rfl rfl hO (by repeat (first | exact Pick.here | apply Pick.next)) (by repeat (first | exact Has.here | apply Has.next)) (Nat.le_of_ble_eq_true rfl) (by simp only [maxLen]; omega) (by omega) (fun v' H' hO2 => ?_)
                obtain ⟨p2, c2, rfl⟩ := hO2.slice
                refine wl_nil ?_
                refine wp_take _ _ ?_
                refine o_fld fld_37_2 rfl rfl ?_
                refine wl_nil ?_
                refine wp_alt ?_ ?_
                · refine o_store siz_33 rfl rfl rfl (by repeat (first | exact Upd.here | apply Upd.next)) rfl (by simp) ?_
                  refine wl_nil ?_
                  refine wp_done ?_
                  exact w_again ⟨(vk, _, H'), ⟨hwk, hO2⟩, (by repeat (first | exact Sub.nil _ | refine Sub.cons rfl ?_)), (Take.sub (by repeat (first | exact Take.nil | exact Take.all _ | (apply Take.cons; focus (repeat (first | exact Pick.here | apply Pick.next))))))⟩
                exact wp_stop
              exact wp_stop
            exact wp_stop
          exact wp_stop
        refine wp_alt ?_ ?_
        · refine o_call (rd_sample hwj (hd_len (fun u hu => hwl u (List.mem_of_mem_drop hu)))) fn_17 rfl (by repeat (first | exact Take.nil | exact Take.all _ | (apply Take.cons; focus (repeat (first | exact Pick.here | apply Pick.next))))) ?_
          rintro v ho ⟨vk, rfl, hwk, rfl⟩
          rw [drop_tail] at hwk
          rw [drop_head, hfs, ← hsg]
          refine wl_nil ?_
          refine wp_take _ _ ?_
          refine o_load lod_33 rfl (by repeat (first | exact At.here | (refine At.inA ?_; assumption) | apply At.next)) rfl ?_
          refine wl_nil ?_
          refine wp_alt ?_ ?_
          · refine o_bslN [_] slc_33 zer_54 (Nat.le_of_ble_eq_true rfl) rfl rfl (fun b6 => ?_)
            refine wl_nil ?_
            refine wp_alt ?_ ?_
            · refine o_app1 slc_33 zer_54 rfl rfl rfl hO (by repeat (first | exact Pick.here | apply Pick.next)) (by repeat (first | exact Has.here | apply Has.next)) (Nat.le_of_ble_eq_true rfl) (by simp only [maxLen]; omega) (by omega) (fun v' H' hO2 => ?_)
              obtain ⟨p2, c2, rfl⟩ := hO2.slice
              refine wl_nil ?_
              refine wp_take _ _ ?_
              refine o_fld fld_37_2 rfl rfl ?_
              refine wl_nil ?_
              refine wp_alt ?_ ?_
              · refine o_store siz_33 rfl rfl rfl (by repeat (first | exact Upd.here | apply Upd.next)) rfl (by simp) ?_
                refine wl_nil ?_
                refine wp_done ?_
                exact w_again ⟨(vk, _, H'), ⟨hwk, hO2⟩, (by repeat (first | exact Sub.nil _ | refine Sub.cons rfl ?_)), (Take.sub (by repeat (first | exact Take.nil | exact Take.all _ | (apply Take.cons; focus (repeat (first | exact Pick.here | apply Pick.next))))))⟩
              exact wp_stop
            exact wp_stop
          exact wp_stop
        exact wp_stop
      rintro ⟨vk, u2, H2⟩ ⟨hwk, hO2⟩
      refine w_inB ?_
      exact w_again ⟨(j + 1, vk, u2, H2), ⟨by simp only; omega, hwk, by simp only; rw [← take_snoc (d := 0) (show j < (smpL V).length by omega)]; exact hO2⟩, (by simp only; omega), (by repeat (first | exact Sub.nil _ | refine Sub.cons rfl ?_)), (Take.sub (by repeat (first | exact Take.nil | exact Take.all _ | (apply Take.cons; focus (repeat (first | exact Pick.here | apply Pick.next))))))⟩
    · obtain rfl : j = V.length := by omega
      rw [List.take_of_length_le (Nat.le_of_eq (smpL_len V))] at hO
      obtain ⟨p2, c2, rfl⟩ := Own.slice hO
      refine w_exit rfl ?_
      refine w_inB ?_
      refine w_seq ?_
      refine w_region rfl ?_
      refine o_loadW lod_37 rfl (by repeat (first | exact At.here | (refine At.inA ?_; assumption) | apply At.next)) rfl ?_
      refine o_bslN [_] slc_23 zer_37 (Nat.le_of_ble_eq_true rfl) rfl rfl (fun b7 => ?_)
      refine o_asg rfl ?_
      refine w_nil ?_
      exact w_ret (ret1 rfl rfl) ⟨vj, _, _, [(⟨1, 0, smpL V, [], [], []⟩ : StepP)], _, _, SRows.one hO.ints (Ints.none _ _) (Ints.none _ _) (Rd.none _ _), hwj, (by rw [st_samples h1]; exact allRes (fun _ => rfl)), (by simp), rfl⟩ (Take.sub (by repeat (first | exact Take.nil | exact Take.all _ | (apply Take.cons; focus (repeat (first | exact Pick.here | apply Pick.next))))))
  · refine w_seq ?_
    refine w_region rfl ?_
    refine o_eqT rfl rfl ?_
    refine o_asg rfl ?_
    refine w_nil ?_
    refine w_if_d rfl (fun h2 => ?_) (fun h2 => ?_)
    · refine w_region rfl ?_
      refine o_mov rfl ?_
      refine o_call (rd_tone hw' hwl) fn_18 rfl (by repeat (first | exact Take.nil | exact Take.all _ | (apply Take.cons; focus (repeat (first | exact Pick.here | apply Pick.next))))) ?_
      rintro vt ho ⟨vw2, W2, bad2, xs, Ht, hT, hw2, hres, rfl⟩
      obtain ⟨p2, c2, rfl⟩ := hT.slice
      refine o_fld fld_37_0 rfl rfl ?_
      refine o_store siz_3 rfl rfl rfl (by repeat (first | exact Upd.here | apply Upd.next)) rfl (by simp) ?_
      refine o_fld fld_37_2 rfl rfl ?_
      refine o_store siz_33 rfl rfl rfl (by repeat (first | exact Upd.here | apply Upd.next)) rfl (by simp) ?_
      refine w_nil ?_
      refine w_inB ?_
      refine w_seq ?_
      refine w_region rfl ?_
      refine o_loadW lod_37 rfl (by repeat (first | exact At.here | (refine At.inA ?_; assumption) | apply At.next)) rfl ?_
      refine o_bslN [_] slc_23 zer_37 (Nat.le_of_ble_eq_true rfl) rfl rfl (fun b9 => ?_)
      refine o_asg rfl ?_
      refine w_nil ?_
      exact w_ret (ret1 rfl rfl) ⟨vw2, _, _, [(⟨1, 0, xs, [], [], []⟩ : StepP)], _, _, SRows.one hT.ints (Ints.none _ _) (Ints.none _ _) (Rd.none _ _), hw2, (by rw [st_tone h1 h2]; exact Res.ifmap (fun l => [(⟨1, 0, l, [], [], []⟩ : StepP)]) hres), (by simp), rfl⟩ (Take.sub (by repeat (first | exact Take.nil | exact Take.all _ | (apply Take.cons; focus (repeat (first | exact Pick.here | apply Pick.next))))))
    · refine w_seq ?_
      refine w_region rfl ?_
      refine o_eqT rfl rfl ?_
      refine o_asg rfl ?_
      refine w_nil ?_
      refine w_if_d rfl (fun h3 => ?_) (fun h3 => ?_)
      · refine w_region rfl ?_
        refine o_mov rfl ?_
        refine o_call (rd_number hw' (hd_len hwl) (most := 99) (by omega)) fn_19 rfl (by repeat (first | exact Take.nil | exact Take.all _ | (apply Take.cons; focus (repeat (first | exact Pick.here | apply Pick.next))))) ?_
        rintro v ho ⟨vw2, rfl, hw2, rfl⟩
        refine o_fld fld_37_0 rfl rfl ?_
        refine o_store siz_3 rfl rfl rfl (by repeat (first | exact Upd.here | apply Upd.next)) rfl (by simp) ?_
        refine o_fld fld_37_1 rfl rfl ?_
        refine o_store siz_3 rfl rfl rfl (by repeat (first | exact Upd.here | apply Upd.next)) rfl (by simp) ?_
        refine w_nil ?_
        refine w_emp ?_
        refine w_inB ?_
        refine w_seq ?_
        refine w_region rfl ?_
        refine o_loadW lod_37 rfl (by repeat (first | exact At.here | (refine At.inA ?_; assumption) | apply At.next)) rfl ?_
        refine o_bslN [_] slc_23 zer_37 (Nat.le_of_ble_eq_true rfl) rfl rfl (fun b11 => ?_)
        refine o_asg rfl ?_
        refine w_nil ?_
        exact w_ret (ret1 rfl rfl) ⟨vw2, _, _, [(⟨2, (numP (V.headD []) 99).getD 0, [], [], [], []⟩ : StepP)], _, _, SRows.one (Ints.none [] _) (Ints.none _ _) (Ints.none _ _) (Rd.none _ _), hw2, (by rw [st_call h1 h2 h3]; exact callRes rfl rfl), (by simp), rfl⟩ (Take.sub (by repeat (first | exact Take.nil | exact Take.all _ | (apply Take.cons; focus (repeat (first | exact Pick.here | apply Pick.next))))))
      · refine w_seq ?_
        refine w_region rfl ?_
        refine o_eqT rfl rfl ?_
        refine o_asg rfl ?_
        refine w_nil ?_
        refine w_if_d rfl (fun h4 => ?_) (fun h4 => ?_)
        · refine w_seq ?_
          refine w_region rfl ?_
          refine o_mov rfl ?_
          refine o_call (rd_bytes hw' (hd_len hwl)) fn_20 rfl (by repeat (first | exact Take.nil | exact Take.all _ | (apply Take.cons; focus (repeat (first | exact Pick.here | apply Pick.next))))) ?_
          rintro va ho ⟨vw2, Ha, ⟨xs, hA, hxs⟩, hw2, rfl⟩
          obtain ⟨p2, c2, rfl⟩ := hA.slice
          refine o_fld fld_37_0 rfl rfl ?_
          refine o_store siz_3 rfl rfl rfl (by repeat (first | exact Upd.here | apply Upd.next)) rfl (by simp) ?_
          refine o_fld fld_37_3 rfl rfl ?_
          refine o_store siz_34 rfl rfl rfl (by repeat (first | exact Upd.here | apply Upd.next)) rfl (by simp) ?_
          refine w_nil ?_
          refine w_region rfl ?_
          refine o_mov rfl ?_
          refine o_call (rd_bytes hw2 (hd_len (tl_len hwl))) fn_20 rfl (by repeat (first | exact Take.nil | exact Take.all _ | (apply Take.cons; focus (repeat (first | exact Pick.here | apply Pick.next))))) ?_
          rintro vb ho ⟨vw3, Hb, ⟨ys, hB, hys⟩, hw3, rfl⟩
          obtain ⟨p3, c3, rfl⟩ := hB.slice
          refine o_fld fld_37_4 rfl rfl ?_
          refine o_store siz_34 rfl rfl rfl (by repeat (first | exact Upd.here | apply Upd.next)) rfl (by simp) ?_
          refine w_nil ?_
          refine WT.sub (h' := Ha :: Hb :: [(b1, .cells #[.int .i64 3, .int .i64 0, .slice none 0 0, .slice p2 xs.length c2, .slice p3 ys.length c3, .slice none 0 0] 37 (0, 0))] :: [(p, .cells #[vw3, .bool ((false || (hexP (V.headD [])).isNone) || (hexP (V.tail.headD [])).isNone)] T (0, 0))] :: Hw :: []) ?_ (Sub.refl _) (Take.sub (by repeat (first | exact Take.nil | exact Take.all _ | (apply Take.cons; focus (repeat (first | exact Pick.here | apply Pick.next))))))
          refine w_merge ?_
          refine w_inB ?_
          refine w_seq ?_
          refine w_region rfl ?_
          refine o_loadW lod_37 rfl (by repeat (first | exact At.here | (refine At.inA ?_; assumption) | apply At.next)) rfl ?_
          refine o_bslN [_] slc_23 zer_37 (Nat.le_of_ble_eq_true rfl) rfl rfl (fun b14 => ?_)
          refine o_asg rfl ?_
          refine w_nil ?_
          exact w_ret (ret1 rfl rfl) ⟨vw3, _, _, [(⟨3, 0, [], xs, ys, []⟩ : StepP)], _, _, SRows.one (Ints.none (Ha ++ Hb) _) (hA.ints.more (fun x hx => List.mem_append.2 (.inl hx))) (hB.ints.more (fun x hx => List.mem_append.2 (.inr hx))) (Rd.none _ _), hw3, (by rw [st_ends h1 h2 h3 h4]; exact endsRes hxs hys), (by simp), rfl⟩ (Take.sub (by repeat (first | exact Take.nil | exact Take.all _ | (apply Take.cons; focus (repeat (first | exact Pick.here | apply Pick.next))))))
        · refine w_seq ?_
          refine w_region rfl ?_
          refine o_eqT rfl rfl ?_
          refine o_asg rfl ?_
          refine w_nil ?_
          refine w_if_d rfl (fun h5 => ?_) (fun h5 => ?_)
          · refine w_emp ?_
            refine w_seq ?_
            refine w_region rfl ?_
            refine o_fld fld_37_0 rfl rfl ?_
            refine o_store siz_3 rfl rfl rfl (by repeat (first | exact Upd.here | apply Upd.next)) rfl (by simp) ?_
            refine w_nil ?_
            refine w_block ?_
            refine w_loop (X := Nat × Value × Value × Hp × List SlotP) (fun x => [(0, .pointer (some ⟨p, 0, none⟩)), (3, .pointer (some ⟨b1, 0, none⟩))]) (fun x => [x.2.2.2.1, [(b1, .cells #[.int .i64 4, .int .i64 0, .slice none 0 0, .slice none 0 0, .slice none 0 0, x.2.2.1] 37 (0, 0))], [(p, .cells #[x.2.1, .bool (!allB (sltF V) x.1)] T (0, 0))], Hw]) (fun x => x.1 ≤ V.length ∧ RW Hw x.2.1 (V.drop x.1) ∧ Own x.2.2.2.1 x.2.2.1 40 4 x.1 (slotsC x.2.2.2.2) ∧ x.2.2.2.2.length = x.1 ∧ (allB (sltF V) x.1 = true → x.2.2.2.2 = (sltL V).take x.1)) (fun x => V.length - x.1) (0, vw', .slice none 0 0, [], []) ⟨by simp, by simpa using hw', Own.nil _ _, rfl, fun _ => by simp⟩ (by repeat (first | exact Sub.nil _ | refine Sub.cons rfl ?_)) (by rw [allB_0]; exact Take.sub (by repeat (first | exact Take.nil | exact Take.all _ | (apply Take.cons; focus (repeat (first | exact Pick.here | apply Pick.next)))))) ?_
            rintro ⟨j, vj, u, H, Q⟩ ⟨hj, hwj, hO, hQl, hQ⟩
            simp only at hj hwj hO hQl hQ ⊢
            have hwj2 := hwj
            unfold RW at hwj2
            have hdl : (V.drop j).length = V.length - j := List.length_drop
            refine w_seq ?_
            refine w_seq ?_
            refine w_region rfl ?_
            refine o_mov rfl ?_
            refine o_nilc rfl ?_
            refine o_fld fld_46_0 rfl rfl ?_
            refine o_load lod_43 rfl (by repeat (first | exact At.here | (refine At.inA ?_; assumption) | apply At.next)) rfl ?_
            refine o_lenR hwj2 slc_43 rfl ?_
            refine o_gt rfl rfl ?_
            refine w_nil ?_
            refine w_if_d rfl (fun hgt => ?_) (fun hgt => ?_)
            · have hlt : j < V.length := by omega
              have hsl := sltL_len V
              have hfs := flag_step (sltF V) j (b := (slotP (V.getD j [])).isNone) (isNone_not _)
              have hsg := sltL_get hlt
              refine w_skip ?_
              refine w_block ?_
              refine w_cut_x (X := Value × Value × Hp × SlotP) (fun x => [(0, .pointer (some ⟨p, 0, none⟩)), (3, .pointer (some ⟨b1, 0, none⟩))]) (fun x => [x.2.2.1, [(b1, .cells #[.int .i64 4, .int .i64 0, .slice none 0 0, .slice none 0 0, .slice none 0 0, x.2.1] 37 (0, 0))], [(p, .cells #[x.1, .bool (!allB (sltF V) (j + 1))] T (0, 0))], Hw]) (fun x => RW Hw x.1 (V.drop (j + 1)) ∧ Own x.2.2.1 x.2.1 40 4 (j + 1) (slotsC Q ++ slotC x.2.2.2) ∧ (∀ s, slotP (V.getD j []) = some s → x.2.2.2 = s)) ?_ ?_
              · refine w_plan (takes [0, 2] (.alt 1 (.alt 3 (.alt 4 (.alt 5 (takes [6] (.alt 7 .done .stop)) .stop) .stop) .stop) (.alt 3 (takes [1] (.alt 4 (.alt 5 (takes [6] (.alt 7 .done .stop)) .stop) .stop)) .stop))) mixed (by kernel_rfl) ?_
                refine wp_take _ _ ?_
                refine o_fld fld_37_5 rfl rfl ?_
                refine o_mov rfl ?_
                refine wl_nil ?_
                refine wp_alt ?_ ?_
                · refine o_load lod_35 rfl (by repeat (first | exact At.here | (refine At.inA ?_; assumption) | apply At.next)) rfl ?_
                  refine wl_nil ?_
                  refine wp_alt ?_ ?_
                  · refine o_call (rd_slot hwj (hd_len (fun u hu => hwl u (List.mem_of_mem_drop hu)))) fn_21 rfl (by repeat (first | exact Take.nil | exact Take.all _ | (apply Take.cons; focus (repeat (first | exact Pick.here | apply Pick.next))))) ?_
                    rintro v ho ⟨vk, q, rfl, hq, hwk, rfl⟩
                    rw [drop_tail] at hwk
                    rw [drop_head] at hq ⊢
                    rw [hfs]
                    refine wl_nil ?_
                    refine wp_alt ?_ ?_
                    · refine o_bslN [_] slc_35 zer_40 (Nat.le_of_ble_eq_true rfl) rfl rfl (fun b16 => ?_)
                      refine wl_nil ?_
                      refine wp_alt ?_ ?_
                      · refine o_appS (slotC q) slc_35 zer_40 rfl rfl rfl hO (by repeat (first | exact Pick.here | apply Pick.next)) rfl (by repeat (first | exact Has.here | apply Has.next)) rfl (Nat.le_of_ble_eq_true rfl) (by simp only [maxLen]; omega) (by omega) (fun v' H2 hO2 => ?_)
                        obtain ⟨p2, c2, rfl⟩ := Own.slice hO2
                        refine wl_nil ?_
                        refine wp_take _ _ ?_
                        refine o_fld fld_37_5 rfl rfl ?_
                        refine wl_nil ?_
                        refine wp_alt ?_ ?_
                        · refine o_store siz_35 rfl rfl rfl (by repeat (first | exact Upd.here | apply Upd.next)) rfl (by simp) ?_
                          refine wl_nil ?_
                          refine wp_done ?_
                          exact w_again ⟨(vk, _, H2, q), ⟨hwk, hO2, hq⟩, (by repeat (first | exact Sub.nil _ | refine Sub.cons rfl ?_)), (Take.sub (by repeat (first | exact Take.nil | exact Take.all _ | (apply Take.cons; focus (repeat (first | exact Pick.here | apply Pick.next))))))⟩
                        exact wp_stop
                      exact wp_stop
                    exact wp_stop
                  exact wp_stop
                refine wp_alt ?_ ?_
                · refine o_call (rd_slot hwj (hd_len (fun u hu => hwl u (List.mem_of_mem_drop hu)))) fn_21 rfl (by repeat (first | exact Take.nil | exact Take.all _ | (apply Take.cons; focus (repeat (first | exact Pick.here | apply Pick.next))))) ?_
                  rintro v ho ⟨vk, q, rfl, hq, hwk, rfl⟩
                  rw [drop_tail] at hwk
                  rw [drop_head] at hq ⊢
                  rw [hfs]
                  refine wl_nil ?_
                  refine wp_take _ _ ?_
                  refine o_load lod_35 rfl (by repeat (first | exact At.here | (refine At.inA ?_; assumption) | apply At.next)) rfl ?_
                  refine wl_nil ?_
                  refine wp_alt ?_ ?_
                  · refine o_bslN [_] slc_35 zer_40 (Nat.le_of_ble_eq_true rfl) rfl rfl (fun b18 => ?_)
                    refine wl_nil ?_
                    refine wp_alt ?_ ?_
                    · refine o_appS (slotC q) slc_35 zer_40 rfl rfl rfl hO (by repeat (first | exact Pick.here | apply Pick.next)) rfl (by repeat (first | exact Has.here | apply Has.next)) rfl (Nat.le_of_ble_eq_true rfl) (by simp only [maxLen]; omega) (by omega) (fun v' H2 hO2 => ?_)
                      obtain ⟨p2, c2, rfl⟩ := Own.slice hO2
                      refine wl_nil ?_
                      refine wp_take _ _ ?_
                      refine o_fld fld_37_5 rfl rfl ?_
                      refine wl_nil ?_
                      refine wp_alt ?_ ?_
                      · refine o_store siz_35 rfl rfl rfl (by repeat (first | exact Upd.here | apply Upd.next)) rfl (by simp) ?_
                        refine wl_nil ?_
                        refine wp_done ?_
                        exact w_again ⟨(vk, _, H2, q), ⟨hwk, hO2, hq⟩, (by repeat (first | exact Sub.nil _ | refine Sub.cons rfl ?_)), (Take.sub (by repeat (first | exact Take.nil | exact Take.all _ | (apply Take.cons; focus (repeat (first | exact Pick.here | apply Pick.next))))))⟩
                      exact wp_stop
                    exact wp_stop
                  exact wp_stop
                exact wp_stop
              rintro ⟨vk, u2, H2, q⟩ ⟨hwk, hO2, hq⟩
              refine w_inB ?_
              exact w_again ⟨(j + 1, vk, u2, H2, Q ++ [q]), ⟨by simp only; omega, hwk, by simp only; rw [slotsC_app]; exact hO2, by simp only [List.length_append, List.length_singleton]; omega, fun h => by simp only at h ⊢; rw [allB_step, Bool.and_eq_true] at h; rw [hQ h.1, ← take_snoc (d := (0, 0, 0, 0)) (show j < (sltL V).length by omega), hsg]; obtain ⟨s, hs⟩ := Option.isSome_iff_exists.1 h.2; rw [hs, show q = s from hq s hs]; rfl⟩, (by simp only; omega), (by repeat (first | exact Sub.nil _ | refine Sub.cons rfl ?_)), (Take.sub (by repeat (first | exact Take.nil | exact Take.all _ | (apply Take.cons; focus (repeat (first | exact Pick.here | apply Pick.next))))))⟩
            · obtain rfl : j = V.length := by omega
              rw [List.take_of_length_le (Nat.le_of_eq (sltL_len V))] at hQ
              obtain ⟨p2, c2, rfl⟩ := Own.slice hO
              refine w_exit rfl ?_
              refine w_inB ?_
              refine w_seq ?_
              refine w_region rfl ?_
              refine o_loadW lod_37 rfl (by repeat (first | exact At.here | (refine At.inA ?_; assumption) | apply At.next)) rfl ?_
              refine o_bslN [_] slc_23 zer_37 (Nat.le_of_ble_eq_true rfl) rfl rfl (fun b19 => ?_)
              refine o_asg rfl ?_
              refine w_nil ?_
              exact w_ret (ret1 rfl rfl) ⟨vj, _, _, [(⟨4, 0, [], [], [], Q⟩ : StepP)], _, _, SRows.one (Ints.none _ _) (Ints.none _ _) (Ints.none _ _) (by rw [hQl]; exact hO.rd), hwj, (by rw [st_interval h1 h2 h3 h4 h5]; exact allRes (fun h => by rw [hQ h])), (by simp), rfl⟩ (Take.sub (by repeat (first | exact Take.nil | exact Take.all _ | (apply Take.cons; focus (repeat (first | exact Pick.here | apply Pick.next))))))
          · refine w_seq ?_
            refine w_region rfl ?_
            refine o_eqT rfl rfl ?_
            refine o_asg rfl ?_
            refine w_nil ?_
            refine w_if_d rfl (fun h6 => ?_) (fun h6 => ?_)
            · refine w_seq ?_
              refine w_region rfl ?_
              refine o_mov rfl ?_
              refine o_call (rd_storm hw' hwl) fn_22 rfl (by repeat (first | exact Take.nil | exact Take.all _ | (apply Take.cons; focus (repeat (first | exact Pick.here | apply Pick.next))))) ?_
              rintro v ho ⟨vw2, W2, bad2, L2, Ho, Hi, hR, hw2, hres, hll, rfl⟩
              refine o_asg rfl ?_
              refine w_nil ?_
              exact w_ret (ret1 rfl rfl) ⟨vw2, _, _, _, _, _, hR, hw2, (by rw [st_storm h1 h2 h3 h4 h5 h6]; exact hres), hll, rfl⟩ (Take.sub (by repeat (first | exact Take.nil | exact Take.all _ | (apply Take.cons; focus (repeat (first | exact Pick.here | apply Pick.next))))))
            · refine w_emp ?_
              refine w_region rfl ?_
              refine o_mov rfl ?_
              refine o_nilc rfl ?_
              refine o_fld fld_46_1 rfl rfl ?_
              refine o_store siz_4 rfl rfl rfl (by repeat (first | exact Upd.here | apply Upd.next)) rfl (by simp) ?_
              refine w_nil ?_
              refine w_inB ?_
              refine w_seq ?_
              refine w_region rfl ?_
              refine o_loadW lod_37 rfl (by repeat (first | exact At.here | (refine At.inA ?_; assumption) | apply At.next)) rfl ?_
              refine o_bslN [_] slc_23 zer_37 (Nat.le_of_ble_eq_true rfl) rfl rfl (fun b21 => ?_)
              refine o_asg rfl ?_
              refine w_nil ?_
              exact w_ret (ret1 rfl rfl) ⟨vw', _, true, [(⟨0, 0, [], [], [], []⟩ : StepP)], _, _, SRows.one (Ints.none [] _) (Ints.none _ _) (Ints.none _ _) (Rd.none _ _), hw', (Res.bad (st_none h1 h2 h3 h4 h5 h6)), (by simp), rfl⟩ (Take.sub (by repeat (first | exact Take.nil | exact Take.all _ | (apply Take.cons; focus (repeat (first | exact Pick.here | apply Pick.next))))))

end Go.Proofs.YtmcopafdooejjaaDoor
