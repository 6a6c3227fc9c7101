/- The law PolyJoins: what samples any numbers of bands are joined to. No condition but that numbers are of their kinds. -/
import Derived.Test.YtjmnidcfgkdhcaaTy
import Derived.Test.YtjmnidcfgkdhcaaFq
namespace Go.Proofs.Ytjmnidcfgkdhcaa
open Go.Eng
set_option linter.unusedVariables false
set_option linter.unusedSimpArgs false
set_option maxRecDepth 20000
attribute [local irreducible] WL WT
theorem cut_i32 {lv : Value} {xs : List Int} {A : Hp} {m : Nat} (hx : Ints A lv .i32 xs) (hl : xs.length ≤ 100000) (hm : 1 ≤ m ∧ m ≤ 1000) : Ctr Try.prog 24 [lv, .int .i64 m] ([A]) (fun v ho => ∃ Ho Hi, Rows2 Ho Hi v 43 .i32 (cutL xs m) ∧ ho = [Ho, Hi, A]) := by
  obtain ⟨pl, cl, rfl, hlc⟩ := Rd.slice hx
  refine spec_of Try.func24 rfl rfl fun w0 L => ?_
  refine w_emp ?_
  refine w_emp ?_
  refine w_seq ?_
  refine w_region rfl ?_
  refine o_asg rfl ?_
  refine w_nil ?_
  refine w_seq ?_
  refine w_region rfl ?_
  refine o_asg rfl ?_
  refine w_nil ?_
  refine w_seq ?_
  refine w_seq ?_
  refine w_region rfl ?_
  refine o_asg (v := .int .i64 ((0 * m : Nat) : Int)) (by simp [ev, compX]) ?_
  refine w_nil ?_
  refine w_block ?_
  refine w_loop (X := Nat × Value × Hp × Hp) (fun x => [(0, .slice pl xs.length cl), (1, .int .i64 m), (5, x.2.1), (6, .int .i64 (x.1 * m : Nat))]) (fun x => [x.2.2.1, x.2.2.2, A]) (fun x => x.1 * m ≤ xs.length ∧ Rows2 x.2.2.1 x.2.2.2 x.2.1 43 .i32 ((List.range x.1).map (blkL xs m))) (fun x => xs.length - x.1) (0, .slice none 0 0, [], []) ⟨by simp, Rows2.nil _ _⟩ (by repeat (first | exact Sub.nil _ | refine Sub.cons rfl ?_)) (Take.sub (by repeat (first | exact Take.nil | exact Take.all _ | (apply Take.cons; focus (repeat (first | exact Pick.here | apply Pick.next)))))) ?_
  rintro ⟨j, vo, Ho, Hi⟩ ⟨hj, hR⟩
  refine w_seq ?_
  refine w_seq ?_
  refine w_region rfl ?_
  refine o_mov rfl ?_
  refine o_mov rfl ?_
  refine o_add rfl rfl (by first | exact IntWalk.i64_in _ (by omega) | rfl) ?_
  refine o_mov rfl ?_
  refine o_len slc_43 rfl ?_
  refine o_le rfl rfl ?_
  refine w_nil ?_
  refine w_if_d rfl (fun hjl => ?_) (fun hjl => ?_)
  · simp only at hj hR hjl ⊢
    have hjm : j ≤ j * m := Nat.le_mul_of_pos_right j (by omega)
    obtain ⟨ws, hOw, hws⟩ := hR
    simp only [List.length_map, List.length_range] at hOw
    refine w_skip ?_
    refine w_seq ?_
    refine w_block ?_
    refine w_region rfl ?_
    refine o_mov rfl ?_
    refine o_bsl slc_43 zer_21 (Nat.le_of_ble_eq_true rfl) rfl rfl (fun b1 => ?_)
    refine o_mov rfl ?_
    refine o_mov rfl ?_
    refine o_mov rfl ?_
    refine o_mov rfl ?_
    refine o_add rfl rfl (by first | exact IntWalk.i64_in _ (by omega) | rfl) ?_
    refine o_slS (i := ((j * m : Nat) : Int)) (j := ((j * m : Nat) : Int) + m) slc_43 rfl ⟨_, rfl⟩ ⟨_, rfl⟩ ⟨by omega, by omega, by omega⟩ ?_
    rw [show ((j * m : Nat) : Int).toNat = j * m by omega, show (((j * m : Nat) : Int) + m).toNat - j * m = j * m + m - j * m by omega]
    have hpart := Rd.part hx (show j * m ≤ j * m + m by omega) (show j * m + m ≤ xs.length by omega)
    refine o_app (cs := []) (m0 := 0) slc_43 zer_21 rfl rfl rfl (Own.empty _ _ _ _) (by repeat (first | exact Pick.here | apply Pick.next)) hpart (by repeat (first | exact Has.here | apply Has.next)) (fun u hu => one_ints _ _ u (List.mem_of_mem_drop (List.mem_of_mem_take hu))) (by simp only [maxLen]; omega) (by omega) (fun v' H' hO hn => ?_)
    have hI : Ints H' v' .i32 (blkL xs m j) := by have h9 := hO.rd; unfold Ints; rw [blkL_len (by omega)]; simpa [blkL, List.map_take, List.map_drop] using h9
    obtain ⟨pv, cv, rfl, -⟩ := Rd.slice hI
    refine o_bslN [_] slc_52 zer_43 (Nat.le_of_ble_eq_true rfl) rfl rfl (fun b2 => ?_)
    refine o_appS [.slice pv _ cv] slc_52 zer_43 rfl rfl rfl hOw (by repeat (first | exact Pick.here | apply Pick.next)) rfl (by repeat (first | exact Has.here | apply Has.next)) rfl (Nat.le_of_ble_eq_true rfl) (by simp only [maxLen]; omega) (by omega) (fun v2 H2 hO2 => ?_)
    refine o_asg rfl ?_
    refine w_nil ?_
    refine w_inB ?_
    refine w_region rfl ?_
    have hlw : ws.length = j := by simpa using hOw.1
    have hR2 := Rows2.push (el := 43) (bs := (List.range j).map (blkL xs m)) (fun i hi => hws i hi) (by simpa using hlw) (by simpa using hO2) hI
    refine o_mov rfl ?_
    refine o_mov rfl ?_
    refine o_add rfl rfl (by first | exact IntWalk.i64_in _ (by omega) | rfl) ?_
    rw [show ((j * m : Nat) : Int) + m = (((j + 1) * m : Nat) : Int) by rw [Nat.add_mul, Nat.one_mul]; omega]
    refine o_asg rfl ?_
    refine w_nil ?_
    refine WT.sub (h' := H' :: Hi :: H2 :: A :: []) ?_ (Sub.refl _) (Take.sub (by repeat (first | exact Take.nil | exact Take.all _ | (apply Take.cons; focus (repeat (first | exact Pick.here | apply Pick.next))))))
    refine w_merge ?_
    exact w_again ⟨(j + 1, v2, H2, H' ++ Hi), ⟨by simp only; rw [Nat.add_mul, Nat.one_mul]; omega, by rw [List.range_succ, List.map_append]; exact hR2⟩, (by simp only; omega), (by repeat (first | exact Sub.nil _ | refine Sub.cons rfl ?_)), (Take.sub (by repeat (first | exact Take.nil | exact Take.all _ | (apply Take.cons; focus (repeat (first | exact Pick.here | apply Pick.next))))))⟩
  · simp only at hj hR hjl
    obtain rfl := cut_end (by omega) hj (by omega)
    refine w_exit rfl ?_
    refine w_seq ?_
    refine w_region rfl ?_
    refine o_mov rfl ?_
    refine o_asg rfl ?_
    refine w_nil ?_
    exact w_ret (ret1 rfl rfl) ⟨Ho, Hi, hR, rfl⟩ (Take.sub (by repeat (first | exact Take.nil | exact Take.all _ | (apply Take.cons; focus (repeat (first | exact Pick.here | apply Pick.next))))))

theorem poly_NewJoiner {m : Nat} (hm : m = 4 ∨ m = 8) {b : Nat} {ar : Array Value} {T : TypeId} {Tb : Hp} {s : Nat → Bool} {made told : Int} (hr : BankRep ar Tb s made told) (hmade : 0 ≤ made ∧ made ≤ 900000000) (htold : 0 ≤ told ∧ told ≤ 900000000) : Ctr Try.prog 23 [.pointer (some ⟨b, 0, none⟩), .int .i64 m] [[(b, .cells ar T (0, 0))], Tb] (fun v ho => ∃ p bx hv tv H1 H2 ar' Tb' s' made' told', v = .tuple #[.pointer (some ⟨p, 0, none⟩), .int .i64 0] ∧ OwnI H1 hv 35 .i16 (filterL m) ∧ OwnI H2 tv 35 .i16 (turnL (8 * m)) ∧ BankRep ar' Tb' s' made' told' ∧ ho = [[(p, .cells #[.int .i64 m, hv, tv, .slice (some ⟨bx, 0, none⟩) (20 * m) (20 * m)] 110 (0, 0))], [(bx, .cells (ints .i64 (List.replicate (20 * m) 0)) 2 (0, 0))], H1, H2, [(b, .cells ar' T (0, 0))], Tb']) := by
  rcases hm with rfl | rfl
  · exact poly_NewJoiner4 hr hmade htold
  · exact poly_NewJoiner8 hr hmade htold

theorem PolyJoins_ctr (eight : Bool) {v : Value} {xs : List Int} {A : Hp} (hx : Ints A v .i32 xs) (hwf : ∀ a ∈ xs, (Lit.int .i32 a).wf = true) : Ctr Try.prog 7 [.bool eight, v] ([A]) (fun v ho => v = .bool true ∧ ho = [A]) := by
  refine spec_of Try.func7 rfl rfl fun w0 L => ?_
  refine w_seq ?_
  refine w_region rfl ?_
  refine o_asg rfl ?_
  refine w_nil ?_
  refine w_seq ?_
  refine w_seq ?_
  refine w_region rfl ?_
  refine o_call (alive08) fn_17 rfl (by repeat (first | exact Take.nil | exact Take.all _ | (apply Take.cons; focus (repeat (first | exact Pick.here | apply Pick.next))))) ?_
  rintro v ho ⟨rfl, rfl⟩
  refine o_not rfl ?_
  refine w_nil ?_
  refine w_if_f rfl ?_
  refine w_skip ?_
  refine w_seq ?_
  refine w_seq ?_
  refine w_region rfl ?_
  refine o_mov rfl ?_
  refine o_lenI hx slc_43 rfl ?_
  refine o_gt rfl rfl ?_
  refine w_nil ?_
  refine w_if_d rfl (fun hlen => ?_) (fun hlen => ?_)
  · refine w_seq ?_
    refine w_region rfl ?_
    refine o_asg rfl ?_
    refine w_nil ?_
    exact w_ret (ret1 rfl rfl) ⟨rfl, rfl⟩ (Take.sub (by repeat (first | exact Take.nil | exact Take.all _ | (apply Take.cons; focus (repeat (first | exact Pick.here | apply Pick.next))))))
  · have hxi : in32 xs := fun a ha => wf_i32 (hwf a ha)
    refine w_skip ?_
    refine w_seq ?_
    refine w_region rfl ?_
    refine o_asg rfl ?_
    refine w_nil ?_
    refine w_seq ?_
    refine w_seq ?_
    refine w_region rfl ?_
    refine o_mov rfl ?_
    refine w_nil ?_
    refine w_cut_x (X := Nat) (fun m => [(1, v), (5, .int .i64 (m : Nat))]) (fun _ => [A]) (fun m => m = 4 ∨ m = 8) ?_ ?_
    · refine w_if rfl (fun h8 => ?_) (fun h8 => ?_)
      · refine w_region rfl ?_
        refine o_asg rfl ?_
        refine w_nil ?_
        exact w_again ⟨8, (.inr rfl), (by repeat (first | exact Sub.nil _ | refine Sub.cons rfl ?_)), (Take.sub (by repeat (first | exact Take.nil | exact Take.all _ | (apply Take.cons; focus (repeat (first | exact Pick.here | apply Pick.next))))))⟩
      · refine w_skip ?_
        exact w_again ⟨4, (.inl rfl), (by repeat (first | exact Sub.nil _ | refine Sub.cons rfl ?_)), (Take.sub (by repeat (first | exact Take.nil | exact Take.all _ | (apply Take.cons; focus (repeat (first | exact Pick.here | apply Pick.next))))))⟩
    · intro m hm
      refine w_emp ?_
      refine w_seq ?_
      refine w_region rfl ?_
      refine o_call (bank_New) fn_12 rfl (by repeat (first | exact Take.nil | exact Take.all _ | (apply Take.cons; focus (repeat (first | exact Pick.here | apply Pick.next))))) ?_
      rintro v ho ⟨b, rfl, rfl⟩
      refine o_mov rfl ?_
      refine o_call (poly_NewJoiner (T := 98) hm BankRep.new (by omega) (by omega)) fn_23 rfl (by repeat (first | exact Take.nil | exact Take.all _ | (apply Take.cons; focus (repeat (first | exact Pick.here | apply Pick.next))))) ?_
      rintro v ho ⟨p, bx, hv, tv, H1, H2, ar1, Tb1, s1, m1, t1, rfl, hO1, hO2, hB1, rfl⟩
      refine o_mov rfl ?_
      refine o_ext rfl rfl ?_
      refine o_ext rfl rfl ?_
      refine o_asg rfl ?_
      refine o_asg rfl ?_
      refine w_nil ?_
      refine w_seq ?_
      refine w_seq ?_
      refine w_region rfl ?_
      refine o_mov rfl ?_
      refine o_ne_f rfl rfl (by omega) ?_
      refine w_nil ?_
      refine w_if_f rfl ?_
      refine w_skip ?_
      refine w_seq ?_
      refine w_region rfl ?_
      refine o_mov rfl ?_
      refine o_mov rfl ?_
      refine o_call (cut_i32 hx (by omega) (by omega)) fn_24 rfl (by repeat (first | exact Take.nil | exact Take.all _ | (apply Take.cons; focus (repeat (first | exact Pick.here | apply Pick.next))))) ?_
      rintro vb ho ⟨Ho, Hi, ⟨ws, hOw, hws⟩, rfl⟩
      have hRd := hOw.rd
      obtain ⟨pb, cb, rfl, hcb⟩ := Rd.slice hRd
      refine o_asg rfl ?_
      refine w_nil ?_
      refine w_seq ?_
      refine w_seq ?_
      refine w_region rfl ?_
      have hbm : ∀ b ∈ cutL xs m, b.length = m := fun b hb => (cutL_in (by omega) hb).1
      have hbi : ∀ b ∈ cutL xs m, in32 b := fun b hb a ha => hxi a ((cutL_in (by omega) hb).2 a ha)
      have hbl : (cutL xs m).length ≤ 200 := by rw [cutL_len]; have := Nat.div_le_self xs.length m; omega
      rw [show List.replicate (20 * m) (0 : Int) = histV ((cutL xs m).take 0) m by rw [List.take_zero]; exact (histV_nil m).symm]
      refine o_asg rfl ?_
      refine w_nil ?_
      generalize cutL xs m = bs at *
      refine w_block ?_
      refine w_loop (X := Nat) (fun i => [(5, .int .i64 m), (6, .pointer (some ⟨p, 0, none⟩)), (8, .slice pb bs.length cb), (9, .int .i64 i)]) (fun i => [[(p, .cells #[.int .i64 m, hv, tv, .slice (some ⟨bx, 0, none⟩) (20 * m) (20 * m)] 110 (0, 0))], [(bx, .cells (ints .i64 (histV (bs.take i) m)) 2 (0, 0))], H1, H2, Ho, Hi, A]) (fun i => i ≤ bs.length) (fun i => bs.length - i) 0 (by omega) (by repeat (first | exact Sub.nil _ | refine Sub.cons rfl ?_)) (Take.sub (by repeat (first | exact Take.nil | exact Take.all _ | (apply Take.cons; focus (repeat (first | exact Pick.here | apply Pick.next)))))) ?_
      intro i hi
      refine w_seq ?_
      refine w_seq ?_
      refine w_region rfl ?_
      refine o_mov rfl ?_
      refine o_mov rfl ?_
      refine o_lenR hRd slc_52 rfl ?_
      refine o_lt rfl rfl ?_
      refine w_nil ?_
      refine w_if_d rfl (fun hl => ?_) (fun hl => ?_)
      · have hlt : i < bs.length := by omega
        obtain ⟨w, hw, hI1⟩ := hws i hlt
        have hmem := getD_memL hlt
        have hst := histV_step (bs.take i) (bs.getD i []) m
        rw [take_stepL hlt] at hst
        have hRp := Rows.part hRd hws hlt
        refine w_skip ?_
        refine w_seq ?_
        refine w_block ?_
        refine w_seq ?_
        refine w_region rfl ?_
        refine o_mov rfl ?_
        refine o_mov rfl ?_
        refine o_mov rfl ?_
        refine o_idxR hRd (by repeat (first | exact Has.here | apply Has.next)) slc_52 rfl rfl ⟨by omega, by omega⟩ (fun bb ff arr TT fr hm1 hg1 => ?_)
        refine o_load lod_43 rfl hm1 (hg1 0 w (by rw [show (i : Int).toNat * 1 + 0 = i by omega]; exact hw)) ?_
        refine o_call (joiner_Feed (T := 110) hm hO1.ints hO2.ints (hist := histV (bs.take i) m) (histV_len _ _) (histV_in _ m) hI1 (hbm _ hmem) (hbi _ hmem)) fn_25 rfl (by repeat (first | exact Take.nil | exact Take.all _ | (apply Take.cons; focus (repeat (first | exact Pick.here | apply Pick.next))))) ?_
        rintro v ho ⟨v1, H', rfl, hO3, rfl⟩
        rw [hst] at hO3 ⊢
        rw [histV_join _ hm] at hO3
        refine o_mov rfl ?_
        refine o_ext rfl rfl ?_
        refine o_ext rfl rfl ?_
        refine o_asg rfl ?_
        refine o_asg rfl ?_
        refine w_nil ?_
        refine w_seq ?_
        refine w_region rfl ?_
        refine o_mov rfl ?_
        refine o_ne_f rfl rfl (by omega) ?_
        refine o_mov rfl ?_
        refine o_yes rfl rfl ?_
        refine o_mov rfl ?_
        refine o_yes rfl rfl ?_
        refine o_mov rfl ?_
        refine o_yes rfl rfl ?_
        refine o_mov rfl ?_
        refine o_yes rfl rfl ?_
        refine o_add rfl rfl (by first | exact IntWalk.i64_in _ (by omega) | rfl) ?_
        refine o_yes rfl rfl ?_
        refine o_slS (i := 0) (j := (i : Int) + 1) slc_52 rfl rfl ⟨_, rfl⟩ ⟨by omega, by omega, by omega⟩ ?_
        rw [show (0 : Int).toNat = 0 from rfl, Nat.sub_zero, Nat.sub_zero, show ((i : Int) + 1).toNat = i + 1 by omega]
        refine o_yes rfl rfl ?_
        refine o_mov rfl ?_
        refine o_yes rfl rfl ?_
        refine o_call (ref_Join hm hRp.1 hRp.2 (fun b hb => hbm b (List.mem_of_mem_take hb)) (by rw [List.length_take]; omega) (fun b hb => hbi b (List.mem_of_mem_take hb))) fn_26 rfl (by repeat (first | exact Take.nil | exact Take.all _ | (apply Take.cons; focus (repeat (first | exact Pick.here | apply Pick.next))))) ?_
        rintro v ho ⟨H4, hO4, rfl⟩
        refine o_yes rfl rfl ?_
        refine o_call (same_i16 hO3.ints hO4.ints) fn_14 rfl (by repeat (first | exact Take.nil | exact Take.all _ | (apply Take.cons; focus (repeat (first | exact Pick.here | apply Pick.next))))) ?_
        rintro v ho ⟨rfl, rfl⟩
        rw [decide_eq_true rfl]
        refine o_yes rfl rfl ?_
        refine o_not rfl ?_
        refine o_pick_f rfl rfl ?_
        refine w_nil ?_
        refine w_if_f rfl ?_
        refine w_skip ?_
        refine w_inB ?_
        refine w_region rfl ?_
        refine o_mov rfl ?_
        refine o_add rfl rfl (by first | exact IntWalk.i64_in _ (by omega) | rfl) ?_
        refine o_asg rfl ?_
        refine w_nil ?_
        exact w_again ⟨(i + 1), (by omega), (by omega), (by repeat (first | exact Sub.nil _ | refine Sub.cons rfl ?_)), (Take.sub (by repeat (first | exact Take.nil | exact Take.all _ | (apply Take.cons; focus (repeat (first | exact Pick.here | apply Pick.next))))))⟩
      · refine w_exit rfl ?_
        refine w_seq ?_
        refine w_region rfl ?_
        refine o_asg rfl ?_
        refine w_nil ?_
        exact w_ret (ret1 rfl rfl) ⟨rfl, rfl⟩ (Take.sub (by repeat (first | exact Take.nil | exact Take.all _ | (apply Take.cons; focus (repeat (first | exact Pick.here | apply Pick.next))))))

end Go.Proofs.Ytjmnidcfgkdhcaa
