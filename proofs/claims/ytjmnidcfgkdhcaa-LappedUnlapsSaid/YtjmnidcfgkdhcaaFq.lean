/- Contracts of bands joined: a joiner's Feed, blocks of 32 bits, the document's answer. No condition but on the counts and sizes. -/
import Derived.Test.YtjmnidcfgkdhcaaTy
import Derived.Test.YtjmnidcfgkdhcaaFp
import Derived.Test.YtjmnidcfgkdhcaaPe
namespace Go.Proofs.Ytjmnidcfgkdhcaa
open Go.Eng
set_option linter.unusedVariables false
set_option linter.unusedSimpArgs false
set_option maxRecDepth 20000
attribute [local irreducible] WL WT
theorem joiner_Feed {p bx : Nat} {T : TypeId} {m : Nat} (hm : m = 4 ∨ m = 8) {hv tv : Value} {H1 H2 Ax : Hp} (h1 : Ints H1 hv .i16 (filterL m)) (h2 : Ints H2 tv .i16 (turnL (8 * m))) {hist x : List Int} (hh : hist.length = 20 * m) (hhi : in32 hist) {xv : Value} (hx : Ints Ax xv .i32 x) (hxl : x.length = m) (hxi : in32 x) : Ctr Try.prog 25 [.pointer (some ⟨p, 0, none⟩), xv] ([[(p, .cells #[.int .i64 m, hv, tv, .slice (some ⟨bx, 0, none⟩) (20 * m) (20 * m)] T (0, 0))], [(bx, .cells (ints .i64 (hist)) 2 (0, 0))], H1, H2, Ax]) (fun v ho => ∃ v1 H', v = .tuple #[v1, .int .i64 0] ∧ OwnI H' v1 35 .i16 (joinL (newV x hist m) m) ∧ ho = [H', [(p, .cells #[.int .i64 m, hv, tv, .slice (some ⟨bx, 0, none⟩) (20 * m) (20 * m)] T (0, 0))], [(bx, .cells (ints .i64 (newV x hist m)) 2 (0, 0))], H1, H2, Ax]) := by
  refine spec_of Try.func25 rfl rfl fun w0 L => ?_
  refine w_seq ?_
  refine w_region rfl ?_
  refine o_asg rfl ?_
  refine o_asg rfl ?_
  refine w_nil ?_
  refine w_seq ?_
  refine w_block ?_
  refine w_seq ?_
  refine w_region rfl ?_
  refine o_mov rfl ?_
  refine o_pnil Try.underlying49 rfl rfl ?_
  refine o_asg rfl ?_
  refine w_nil ?_
  refine w_if_f rfl ?_
  refine w_seq ?_
  refine w_region rfl ?_
  refine o_mov rfl ?_
  refine o_lenI hx slc_43 rfl ?_
  refine o_mov rfl ?_
  refine o_nilc rfl ?_
  refine o_fld fld_110_0 rfl rfl ?_
  refine o_fld fld_101_0 rfl rfl ?_
  refine o_load lod_3 rfl (by repeat (first | exact At.here | (refine At.inA ?_; assumption) | apply At.next)) rfl ?_
  refine o_ne_f rfl rfl (by omega) ?_
  refine o_asg rfl ?_
  refine w_nil ?_
  refine w_if_f rfl ?_
  refine w_skip ?_
  refine w_inB ?_
  refine w_seq ?_
  refine w_region rfl ?_
  refine o_mov rfl ?_
  refine o_nilc rfl ?_
  refine o_fld fld_110_0 rfl rfl ?_
  refine o_fld fld_101_0 rfl rfl ?_
  refine o_load lod_3 rfl (by repeat (first | exact At.here | (refine At.inA ?_; assumption) | apply At.next)) rfl ?_
  refine o_asg rfl ?_
  refine w_nil ?_
  refine w_seq ?_
  refine w_line [(0, true), (1, true), (2, true), (3, true), (4, true), (5, true), (6, true), (7, true), (8, true), (9, true), (10, true), (11, false)] mixed (by kernel_rfl) ?_
  have hcp : Rd [(bx, Obj.cells (ints .i64 hist) 2 (0, 0))] (.slice (some ⟨bx, 0, none⟩) (20 * m) (20 * m)) 1 (20 * m) (hist.map (Value.int .i64)) := by have := (OwnI.mk_ (b := bx) (el := 2) (k := .i64) (xs := hist) (by simp only [maxLen]; omega)).ints; unfold Ints at this; rwa [hh] at this
  refine o_mov rfl ?_
  refine o_nilc rfl ?_
  refine o_fld fld_110_1 rfl rfl ?_
  refine o_load lod_71 rfl (by repeat (first | exact At.here | (refine At.inA ?_; assumption) | apply At.next)) rfl ?_
  refine o_mov rfl ?_
  refine o_mul rfl rfl (by first | exact IntWalk.i64_in _ (by omega) | rfl) ?_
  refine o_slS2 (o' := 2 * m) (l' := 18 * m) (c' := 18 * m) (i := 2 * (m : Int)) (j := (20 * m : Nat)) slc_71 rfl ⟨_, rfl⟩ rfl ⟨by omega, by omega, by omega⟩ ⟨by omega, by omega⟩ (by omega) (by omega) ?_
  refine o_mov rfl ?_
  refine o_nilc rfl ?_
  refine o_fld fld_110_1 rfl rfl ?_
  refine o_load lod_71 rfl (by repeat (first | exact At.here | (refine At.inA ?_; assumption) | apply At.next)) rfl ?_
  refine o_copy slc_71 rfl rfl hcp (by repeat (first | exact Has.here | apply Has.next)) (one_ints _ _) (by repeat (first | exact Upd.here | apply Upd.next)) (by rw [ints_size, hh]; omega) ?_
  refine w_nil ?_
  refine w_seq ?_
  refine w_seq ?_
  refine w_region rfl ?_
  obtain ⟨base, hb0, hbl, hbd⟩ : ∃ base, hist.take (2 * m) ++ hist.take (18 * m) = base ∧ base.length = 20 * m ∧ base.drop (2 * m) = hist.take (18 * m) := ⟨_, rfl, by rw [List.length_append, List.length_take, List.length_take]; omega, by rw [List.drop_append_of_le_length (by rw [List.length_take]; omega), List.drop_of_length_le (by rw [List.length_take]; omega)]; rfl⟩
  rw [movedG (n := 20 * m) (a := 2 * m) (b := 18 * m) hh (by omega), hb0]
  rw [show base = (vL x m).take 0 ++ base.drop 0 by simp]
  have hvl := vL_len x m
  refine o_mov rfl ?_
  refine o_mul rfl rfl (by first | exact IntWalk.i64_in _ (by omega) | rfl) ?_
  refine o_mov rfl ?_
  refine w_nil ?_
  refine w_block ?_
  refine w_loop (X := Nat) (fun k => [(0, .pointer (some ⟨p, 0, none⟩)), (6, .int .i64 m), (1, xv), (47, .int .i64 (2 * m)), (48, .int .i64 k)]) (fun k => [[(p, .cells #[.int .i64 m, hv, tv, .slice (some ⟨bx, 0, none⟩) (20 * m) (20 * m)] T (0, 0))], [(bx, .cells (ints .i64 ((vL x m).take k ++ base.drop k)) 2 (0, 0))], H1, H2, Ax]) (fun k => k ≤ 2 * m) (fun k => 2 * m - k) 0 (by omega) (by repeat (first | exact Sub.nil _ | refine Sub.cons rfl ?_)) (Take.sub (by repeat (first | exact Take.nil | exact Take.all _ | (apply Take.cons; focus (repeat (first | exact Pick.here | apply Pick.next)))))) ?_
  intro k hk
  refine w_seq ?_
  refine w_region rfl ?_
  refine o_lt rfl rfl ?_
  refine w_nil ?_
  refine w_seq ?_
  refine w_if_d rfl (fun hl => ?_) (fun hl => ?_)
  · refine w_skip ?_
    refine w_seq ?_
    refine w_block ?_
    refine w_seq ?_
    refine w_region rfl ?_
    refine o_mov rfl ?_
    refine o_asg rfl ?_
    refine w_nil ?_
    refine w_seq ?_
    refine w_region rfl ?_
    refine o_asg rfl ?_
    refine w_nil ?_
    refine w_seq ?_
    refine w_seq ?_
    refine w_region rfl ?_
    refine o_mov rfl ?_
    refine o_lenI hx slc_43 rfl ?_
    refine o_mov rfl ?_
    refine w_nil ?_
    refine w_block ?_
    refine w_loop (X := Nat) (fun i => [(0, .pointer (some ⟨p, 0, none⟩)), (6, .int .i64 m), (1, xv), (47, .int .i64 (2 * m)), (48, .int .i64 k), (7, .int .i64 k), (8, .int .i64 (sumN (joinP x m k) i)), (51, xv), (52, .int .i64 x.length), (53, .int .i64 i)]) (fun i => [[(p, .cells #[.int .i64 m, hv, tv, .slice (some ⟨bx, 0, none⟩) (20 * m) (20 * m)] T (0, 0))], [(bx, .cells (ints .i64 ((vL x m).take k ++ base.drop k)) 2 (0, 0))], H1, H2, Ax]) (fun i => i ≤ m) (fun i => m - i) 0 (by omega) (by repeat (first | exact Sub.nil _ | refine Sub.cons rfl ?_)) (Take.sub (by repeat (first | exact Take.nil | exact Take.all _ | (apply Take.cons; focus (repeat (first | exact Pick.here | apply Pick.next)))))) ?_
    intro i hi
    refine w_seq ?_
    refine w_region rfl ?_
    refine o_lt rfl rfl ?_
    refine w_nil ?_
    refine w_seq ?_
    refine w_if_d rfl (fun hil => ?_) (fun hil => ?_)
    · refine w_skip ?_
      refine w_seq ?_
      refine w_block ?_
      refine w_seq ?_
      refine w_region rfl ?_
      have hxii := hxi.get i
      have hq := joinP_in hxi hm k i
      have hsm := sumN_in (f := joinP x m k) (B := 70368744177664) (by omega) i (fun q _ => joinP_in hxi hm k q)
      have harg := arg_in2 hm (show k < 2 * m by omega) (show i < m by omega)
      refine o_mov rfl ?_
      refine o_idxI hx (by repeat (first | exact Has.here | apply Has.next)) slc_43 rfl rfl ⟨by omega, by omega⟩ (fun bb1 ff1 ar1 TT1 fr1 hm1 hg1 => ?_)
      rw [Int.toNat_natCast] at hg1
      refine o_load lod_21 rfl hm1 hg1 ?_
      refine o_asg rfl ?_
      refine o_asg rfl ?_
      refine w_nil ?_
      refine w_region rfl ?_
      refine o_mov rfl ?_
      refine o_mov rfl ?_
      refine o_conv int_2 (by rw [Try.underlying21]; rfl) rfl (by first | exact IntWalk.i64_in _ (by omega) | rfl) ?_
      refine o_mov rfl ?_
      refine o_nilc rfl ?_
      refine o_fld fld_110_0 rfl rfl ?_
      refine o_mov rfl ?_
      refine o_mul rfl rfl (by first | exact IntWalk.i64_in _ (by omega) | rfl) ?_
      refine o_add rfl rfl (by first | exact IntWalk.i64_in _ (by omega) | rfl) ?_
      refine o_mov rfl ?_
      refine o_mul rfl rfl (by first | exact IntWalk.i64_in _ (by omega) | rfl) ?_
      refine o_mov rfl ?_
      refine o_add rfl rfl (by first | exact IntWalk.i64_in _ (by omega) | rfl) ?_
      refine o_call (poly_wave (p := p) (off := 0) (ar := #[.int .i64 m, hv, tv, .slice (some ⟨bx, 0, none⟩) (20 * m) (20 * m)]) (tv := tv) (m := m) (2 * (i : Int) + 1) (2 * (k : Int) + m) rfl rfl h2 (by omega) (by omega)) fn_49 rfl (by repeat (first | exact Take.nil | exact Take.all _ | (apply Take.cons; focus (repeat (first | exact Pick.here | apply Pick.next))))) ?_
      rintro v ho ⟨rfl, rfl⟩
      refine o_mul (c := joinP x m k i) rfl rfl (IntWalk.i64_in (joinP x m k i) (by omega)) ?_
      refine o_add rfl rfl (by first | exact IntWalk.i64_in _ (by omega) | rfl) ?_
      refine o_asg rfl ?_
      refine w_nil ?_
      refine w_inB ?_
      refine w_region rfl ?_
      refine o_add rfl rfl (by first | exact IntWalk.i64_in _ (by omega) | rfl) ?_
      refine o_mov rfl ?_
      refine w_nil ?_
      exact w_again ⟨(i + 1), (by omega), (by omega), (by repeat (first | exact Sub.nil _ | refine Sub.cons rfl ?_)), (Take.sub (by repeat (first | exact Take.nil | exact Take.all _ | (apply Take.cons; focus (repeat (first | exact Pick.here | apply Pick.next))))))⟩
    · obtain rfl : m = i := by omega
      have hsm := sumN_in (f := joinP x m k) (B := 70368744177664) (by omega) m (fun q _ => joinP_in hxi hm k q)
      refine w_exit rfl ?_
      refine w_cut_x (X := Unit) (fun _ => [(0, .pointer (some ⟨p, 0, none⟩)), (6, .int .i64 m), (1, xv), (47, .int .i64 (2 * m)), (48, .int .i64 k)]) (fun _ => [[(p, .cells #[.int .i64 m, hv, tv, .slice (some ⟨bx, 0, none⟩) (20 * m) (20 * m)] T (0, 0))], [(bx, .cells (ints .i64 (((vL x m).take k ++ base.drop k).set k ((vL x m).getD k 0))) 2 (0, 0))], H1, H2, Ax]) (fun _ => True) ?_ ?_
      · refine w_plan (takes [0, 1, 2, 4, 5] (.alt 3 (.alt 6 (takes [7] (.alt 8 .done .stop)) .stop) (.alt 6 (takes [3, 7] (.alt 8 .done .stop)) .stop))) mixed (by kernel_rfl) ?_
        refine wp_take _ _ ?_
        refine o_mov rfl ?_
        refine o_nilc rfl ?_
        refine o_fld fld_110_1 rfl rfl ?_
        refine o_mov rfl ?_
        refine o_mov rfl ?_
        refine wl_nil ?_
        refine wp_alt ?_ ?_
        · refine o_load lod_71 rfl (by repeat (first | exact At.here | (refine At.inA ?_; assumption) | apply At.next)) rfl ?_
          refine wl_nil ?_
          refine wp_alt ?_ ?_
          · refine o_call (poly_rounded _ _ (by omega)) fn_48 rfl (by repeat (first | exact Take.nil | exact Take.all _ | (apply Take.cons; focus (repeat (first | exact Pick.here | apply Pick.next))))) ?_
            rintro v ho ⟨rfl, rfl⟩
            rw [show rsat (sumN (joinP x m k) m) 15 = (vL x m).getD k 0 by rw [vL_get (by omega)]; rfl]
            refine wl_nil ?_
            refine wp_take _ _ ?_
            refine o_idx slc_71 (off := k) rfl rfl ⟨by omega, by omega⟩ (by omega) ?_
            refine wl_nil ?_
            refine wp_alt ?_ ?_
            · refine o_storeI siz_2 rfl rfl (by repeat (first | exact Upd.here | apply Upd.next)) (by rw [List.length_append, List.length_take, List.length_drop]; omega) ?_
              refine wl_nil ?_
              refine wp_done ?_
              exact w_again ⟨(), trivial, (by repeat (first | exact Sub.nil _ | refine Sub.cons rfl ?_)), (Take.sub (by repeat (first | exact Take.nil | exact Take.all _ | (apply Take.cons; focus (repeat (first | exact Pick.here | apply Pick.next))))))⟩
            exact wp_stop
          exact wp_stop
        refine wp_alt ?_ ?_
        · refine o_call (poly_rounded _ _ (by omega)) fn_48 rfl (by repeat (first | exact Take.nil | exact Take.all _ | (apply Take.cons; focus (repeat (first | exact Pick.here | apply Pick.next))))) ?_
          rintro v ho ⟨rfl, rfl⟩
          rw [show rsat (sumN (joinP x m k) m) 15 = (vL x m).getD k 0 by rw [vL_get (by omega)]; rfl]
          refine wl_nil ?_
          refine wp_take _ _ ?_
          refine o_load lod_71 rfl (by repeat (first | exact At.here | (refine At.inA ?_; assumption) | apply At.next)) rfl ?_
          refine o_idx slc_71 (off := k) rfl rfl ⟨by omega, by omega⟩ (by omega) ?_
          refine wl_nil ?_
          refine wp_alt ?_ ?_
          · refine o_storeI siz_2 rfl rfl (by repeat (first | exact Upd.here | apply Upd.next)) (by rw [List.length_append, List.length_take, List.length_drop]; omega) ?_
            refine wl_nil ?_
            refine wp_done ?_
            exact w_again ⟨(), trivial, (by repeat (first | exact Sub.nil _ | refine Sub.cons rfl ?_)), (Take.sub (by repeat (first | exact Take.nil | exact Take.all _ | (apply Take.cons; focus (repeat (first | exact Pick.here | apply Pick.next))))))⟩
          exact wp_stop
        exact wp_stop
      rintro ⟨⟩ -
      refine w_inB ?_
      refine w_region rfl ?_
      rw [over_step (by omega) (by omega)]
      refine o_add rfl rfl (by first | exact IntWalk.i64_in _ (by omega) | rfl) ?_
      refine o_mov rfl ?_
      refine w_nil ?_
      exact w_again ⟨(k + 1), (by omega), (by omega), (by repeat (first | exact Sub.nil _ | refine Sub.cons rfl ?_)), (Take.sub (by repeat (first | exact Take.nil | exact Take.all _ | (apply Take.cons; focus (repeat (first | exact Pick.here | apply Pick.next))))))⟩
  · obtain rfl : k = 2 * m := by omega
    rw [List.take_of_length_le (Nat.le_of_eq hvl), hbd, show vL x m ++ hist.take (18 * m) = newV x hist m from rfl]
    have hnl := newV_len (s := x) hh
    have hni := newV_in (s := x) m hhi
    generalize newV x hist m = nh at hnl hni ⊢
    have hjl := joinL_len nh m
    have hfl := filterL_len m
    refine w_exit rfl ?_
    refine w_seq ?_
    refine w_region rfl ?_
    refine o_mov rfl ?_
    refine o_mks slc_26 zer_35 rfl rfl (by omega) (by omega) (by omega) (by omega) (fun b4 => ?_)
    rw [Int.toNat_natCast, show madeCells _ (m * 1) = ints .i16 (List.replicate m 0) from by rw [Nat.mul_one]; exact ints_made _ _]
    refine o_asg rfl ?_
    refine w_nil ?_
    refine w_seq ?_
    refine w_seq ?_
    refine w_region rfl ?_
    refine o_mov rfl ?_
    refine o_len slc_26 rfl ?_
    refine o_mov rfl ?_
    refine w_nil ?_
    refine w_block ?_
    refine w_loop (X := Nat) (fun q => [(0, .pointer (some ⟨p, 0, none⟩)), (6, .int .i64 m), (11, .slice (some ⟨b4, 0, none⟩) m m), (87, .int .i64 m), (88, .int .i64 q)]) (fun q => [[(b4, .cells (ints .i16 ((joinL nh m).take q ++ List.replicate (m - q) 0)) 35 (0, 0))], [(p, .cells #[.int .i64 m, hv, tv, .slice (some ⟨bx, 0, none⟩) (20 * m) (20 * m)] T (0, 0))], [(bx, .cells (ints .i64 (nh)) 2 (0, 0))], H1, H2, Ax]) (fun q => q ≤ m) (fun q => m - q) 0 (by omega) (by repeat (first | exact Sub.nil _ | refine Sub.cons rfl ?_)) (Take.sub (by repeat (first | exact Take.nil | exact Take.all _ | (apply Take.cons; focus (repeat (first | exact Pick.here | apply Pick.next)))))) ?_
    intro q hq
    refine w_seq ?_
    refine w_region rfl ?_
    refine o_lt rfl rfl ?_
    refine w_nil ?_
    refine w_seq ?_
    refine w_if_d rfl (fun hql => ?_) (fun hql => ?_)
    · refine w_skip ?_
      refine w_seq ?_
      refine w_block ?_
      refine w_seq ?_
      refine w_region rfl ?_
      refine o_mov rfl ?_
      refine o_asg rfl ?_
      refine w_nil ?_
      refine w_seq ?_
      refine w_region rfl ?_
      refine o_asg rfl ?_
      refine w_nil ?_
      refine w_seq ?_
      refine w_seq ?_
      refine w_region rfl ?_
      refine o_mov rfl ?_
      refine w_nil ?_
      refine w_block ?_
      refine w_loop (X := Nat) (fun i => [(0, .pointer (some ⟨p, 0, none⟩)), (6, .int .i64 m), (11, .slice (some ⟨b4, 0, none⟩) m m), (87, .int .i64 m), (88, .int .i64 q), (12, .int .i64 q), (13, .int .i64 (altS (joinF nh m q) i)), (91, .int .i64 i)]) (fun i => [[(b4, .cells (ints .i16 ((joinL nh m).take q ++ List.replicate (m - q) 0)) 35 (0, 0))], [(p, .cells #[.int .i64 m, hv, tv, .slice (some ⟨bx, 0, none⟩) (20 * m) (20 * m)] T (0, 0))], [(bx, .cells (ints .i64 (nh)) 2 (0, 0))], H1, H2, Ax]) (fun i => i ≤ 5) (fun i => 5 - i) 0 (by omega) (by repeat (first | exact Sub.nil _ | refine Sub.cons rfl ?_)) (Take.sub (by repeat (first | exact Take.nil | exact Take.all _ | (apply Take.cons; focus (repeat (first | exact Pick.here | apply Pick.next)))))) ?_
      intro i hi
      refine w_seq ?_
      refine w_region rfl ?_
      refine o_lt rfl rfl ?_
      refine w_nil ?_
      refine w_seq ?_
      refine w_if_d rfl (fun hil => ?_) (fun hil => ?_)
      · refine w_skip ?_
        refine w_seq ?_
        refine w_block ?_
        refine w_seq ?_
        refine w_region rfl ?_
        refine o_mov rfl ?_
        refine o_asg rfl ?_
        refine w_nil ?_
        refine w_seq ?_
        refine w_any [0, 1, 2, 3, 4, 5, 6, 7, 8, 9, 10, 11, 12, 13, 14, 15, 16, 17, 18, 19, 20, 21, 22, 23, 24, 25, 26, 27] mixed (by kernel_rfl) ?_
        have hat := at_in2 (i := i) hm (show q < m by omega) (by omega)
        have hal := altS_in (f := joinF nh m q) (B := 140737488355328) (by omega) i (fun w _ => joinF_in hni hm q w)
        have hab := joinAB_in hni hm q i
        have hf1 := filterL_in hm (2 * m * i + q)
        have hf2 := filterL_in hm (2 * m * i + m + q)
        refine o_mov rfl ?_
        refine o_nilc rfl ?_
        refine o_fld fld_110_1 rfl rfl ?_
        refine o_load lod_71 rfl (by repeat (first | exact At.here | (refine At.inA ?_; assumption) | apply At.next)) rfl ?_
        refine o_mov rfl ?_
        refine o_mul rfl rfl (by first | exact IntWalk.i64_in _ (by omega) | rfl) ?_
        refine o_mov rfl ?_
        refine o_mul (c := ((4 * m * i : Nat) : Int)) rfl rfl (by rw [show (4 * (m : Int)) * i = ((4 * m * i : Nat) : Int) by simp]; exact IntWalk.i64_in _ (by omega)) ?_
        refine o_mov rfl ?_
        refine o_add rfl rfl (by first | exact IntWalk.i64_in _ (by omega) | rfl) ?_
        refine o_idx slc_71 (off := 4 * m * i + q) rfl rfl ⟨by omega, by omega⟩ (by omega) ?_
        refine o_loadI lod_2 rfl (by repeat (first | exact At.here | (refine At.inA ?_; assumption) | apply At.next)) (by omega) ?_
        refine o_mov rfl ?_
        refine o_nilc rfl ?_
        refine o_fld fld_110_0 rfl rfl ?_
        refine o_fld fld_101_1 rfl rfl ?_
        refine o_load lod_26 rfl (by repeat (first | exact At.here | (refine At.inA ?_; assumption) | apply At.next)) rfl ?_
        refine o_mov rfl ?_
        refine o_mul rfl rfl (by first | exact IntWalk.i64_in _ (by omega) | rfl) ?_
        refine o_mov rfl ?_
        refine o_mul (c := ((2 * m * i : Nat) : Int)) rfl rfl (by rw [show (2 * (m : Int)) * i = ((2 * m * i : Nat) : Int) by simp]; exact IntWalk.i64_in _ (by omega)) ?_
        refine o_mov rfl ?_
        refine o_add rfl rfl (by first | exact IntWalk.i64_in _ (by omega) | rfl) ?_
        refine o_idxI h1 (by repeat (first | exact Has.here | apply Has.next)) slc_26 rfl rfl ⟨by omega, by omega⟩ (fun bb2 ff2 ar2 TT2 fr2 hm2 hg2 => ?_)
        rw [show (((2 * m * i : Nat) : Int) + q).toNat = 2 * m * i + q by omega] at hg2
        refine o_load lod_35 rfl hm2 hg2 ?_
        refine o_conv int_2 (by rw [Try.underlying35]; rfl) rfl (by first | exact IntWalk.i64_in _ (by omega) | rfl) ?_
        refine o_mul (c := joinA nh m q i) rfl rfl (IntWalk.i64_in (joinA nh m q i) (by omega)) ?_
        refine o_asg rfl ?_
        refine w_nil ?_
        refine w_seq ?_
        refine w_any [0, 1, 2, 3, 4, 5, 6, 7, 8, 9, 10, 11, 12, 13, 14, 15, 16, 17, 18, 19, 20, 21, 22, 23, 24, 25, 26, 27, 28, 29, 30, 31, 32] mixed (by kernel_rfl) ?_
        refine o_mov rfl ?_
        refine o_nilc rfl ?_
        refine o_fld fld_110_1 rfl rfl ?_
        refine o_load lod_71 rfl (by repeat (first | exact At.here | (refine At.inA ?_; assumption) | apply At.next)) rfl ?_
        refine o_mov rfl ?_
        refine o_mul rfl rfl (by first | exact IntWalk.i64_in _ (by omega) | rfl) ?_
        refine o_mov rfl ?_
        refine o_mul (c := ((4 * m * i : Nat) : Int)) rfl rfl (by rw [show (4 * (m : Int)) * i = ((4 * m * i : Nat) : Int) by simp]; exact IntWalk.i64_in _ (by omega)) ?_
        refine o_mov rfl ?_
        refine o_mul rfl rfl (by first | exact IntWalk.i64_in _ (by omega) | rfl) ?_
        refine o_add rfl rfl (by first | exact IntWalk.i64_in _ (by omega) | rfl) ?_
        refine o_mov rfl ?_
        refine o_add rfl rfl (by first | exact IntWalk.i64_in _ (by omega) | rfl) ?_
        refine o_idx slc_71 (off := 4 * m * i + 3 * m + q) rfl rfl ⟨by omega, by omega⟩ (by omega) ?_
        refine o_loadI lod_2 rfl (by repeat (first | exact At.here | (refine At.inA ?_; assumption) | apply At.next)) (by omega) ?_
        refine o_mov rfl ?_
        refine o_nilc rfl ?_
        refine o_fld fld_110_0 rfl rfl ?_
        refine o_fld fld_101_1 rfl rfl ?_
        refine o_load lod_26 rfl (by repeat (first | exact At.here | (refine At.inA ?_; assumption) | apply At.next)) rfl ?_
        refine o_mov rfl ?_
        refine o_mul rfl rfl (by first | exact IntWalk.i64_in _ (by omega) | rfl) ?_
        refine o_mov rfl ?_
        refine o_mul (c := ((2 * m * i : Nat) : Int)) rfl rfl (by rw [show (2 * (m : Int)) * i = ((2 * m * i : Nat) : Int) by simp]; exact IntWalk.i64_in _ (by omega)) ?_
        refine o_mov rfl ?_
        refine o_add rfl rfl (by first | exact IntWalk.i64_in _ (by omega) | rfl) ?_
        refine o_mov rfl ?_
        refine o_add rfl rfl (by first | exact IntWalk.i64_in _ (by omega) | rfl) ?_
        refine o_idxI h1 (by repeat (first | exact Has.here | apply Has.next)) slc_26 rfl rfl ⟨by omega, by omega⟩ (fun bb2 ff2 ar2 TT2 fr2 hm2 hg2 => ?_)
        rw [show (((2 * m * i : Nat) : Int) + m + q).toNat = 2 * m * i + m + q by omega] at hg2
        refine o_load lod_35 rfl hm2 hg2 ?_
        refine o_conv int_2 (by rw [Try.underlying35]; rfl) rfl (by first | exact IntWalk.i64_in _ (by omega) | rfl) ?_
        refine o_mul (c := joinB nh m q i) rfl rfl (IntWalk.i64_in (joinB nh m q i) (by omega)) ?_
        refine o_asg rfl ?_
        refine w_nil ?_
        refine w_region rfl ?_
        refine o_mov rfl ?_
        refine o_mov rfl ?_
        refine o_add rfl rfl (by first | exact IntWalk.i64_in _ (by omega) | rfl) ?_
        refine o_mov rfl ?_
        refine o_sub rfl rfl (by first | exact IntWalk.i64_in _ (by omega) | rfl) ?_
        refine o_asg rfl ?_
        refine w_nil ?_
        refine w_inB ?_
        refine w_region rfl ?_
        refine o_add rfl rfl (by first | exact IntWalk.i64_in _ (by omega) | rfl) ?_
        refine o_mov rfl ?_
        refine w_nil ?_
        exact w_again ⟨(i + 1), (by omega), (by omega), (by repeat (first | exact Sub.nil _ | refine Sub.cons rfl ?_)), (Take.sub (by repeat (first | exact Take.nil | exact Take.all _ | (apply Take.cons; focus (repeat (first | exact Pick.here | apply Pick.next))))))⟩
      · obtain rfl : i = 5 := by omega
        have hal := altS_in (f := joinF nh m q) (B := 140737488355328) (by omega) 5 (fun w _ => joinF_in hni hm q w)
        refine w_exit rfl ?_
        refine w_region rfl ?_
        refine o_mov rfl ?_
        refine o_mov rfl ?_
        refine o_mov rfl ?_
        refine o_call (fix_Round _ _ (by omega)) fn_53 rfl (by repeat (first | exact Take.nil | exact Take.all _ | (apply Take.cons; focus (repeat (first | exact Pick.here | apply Pick.next))))) ?_
        rintro v ho ⟨rfl, rfl⟩
        refine o_call (fix_Sat16 _) fn_52 rfl (by repeat (first | exact Take.nil | exact Take.all _ | (apply Take.cons; focus (repeat (first | exact Pick.here | apply Pick.next))))) ?_
        rintro v ho ⟨rfl, rfl⟩
        rw [join_alt, show clampI (roundI (sumN (joinR nh m q) 5) 14) (-32768) 32767 = (joinL nh m).getD q 0 by rw [joinL_get (by omega)]; rfl]
        refine o_idx slc_26 (off := q) rfl rfl ⟨by omega, by omega⟩ (by omega) ?_
        refine o_storeI siz_35 rfl rfl (by repeat (first | exact Upd.here | apply Upd.next)) (by simp [hjl]; omega) ?_
        refine w_nil ?_
        refine w_inB ?_
        refine w_region rfl ?_
        rw [fill_step hjl (by omega)]
        refine o_add rfl rfl (by first | exact IntWalk.i64_in _ (by omega) | rfl) ?_
        refine o_mov rfl ?_
        refine w_nil ?_
        exact w_again ⟨(q + 1), (by omega), (by omega), (by repeat (first | exact Sub.nil _ | refine Sub.cons rfl ?_)), (Take.sub (by repeat (first | exact Take.nil | exact Take.all _ | (apply Take.cons; focus (repeat (first | exact Pick.here | apply Pick.next))))))⟩
    · obtain rfl : m = q := by omega
      rw [List.take_of_length_le (Nat.le_of_eq hjl), Nat.sub_self, List.replicate_zero, List.append_nil]
      have hO : OwnI [(b4, .cells (ints .i16 (joinL nh m)) 35 (0, 0))] (.slice (some ⟨b4, 0, none⟩) m m) 35 .i16 (joinL nh m) := by have := OwnI.mk_ (b := b4) (el := 35) (k := .i16) (xs := joinL nh m) (by simp only [maxLen]; omega); rwa [hjl] at this
      refine w_exit rfl ?_
      refine w_seq ?_
      refine w_region rfl ?_
      refine o_mov rfl ?_
      refine o_asg rfl ?_
      refine o_asg rfl ?_
      refine w_nil ?_
      exact w_ret (ret2 rfl rfl rfl) ⟨_, _, rfl, hO, rfl⟩ (Take.sub (by repeat (first | exact Take.nil | exact Take.all _ | (apply Take.cons; focus (repeat (first | exact Pick.here | apply Pick.next))))))

theorem ref_Join {v : Value} {Ho Hi : Hp} {bs : List (List Int)} {ws : List Value} {m : Nat} (hm : m = 4 ∨ m = 8) (hR : Rd Ho v 1 bs.length ws) (hI : ∀ i, i < bs.length → ∃ w, ws[i]? = some w ∧ Ints Hi w .i32 (bs.getD i [])) (hb : ∀ b ∈ bs, b.length = m) (hn : bs.length ≤ 1000) (hbi : ∀ b ∈ bs, in32 b) : Ctr Try.prog 26 [v, .int .i64 m] ([Ho, Hi]) (fun v ho => ∃ H, OwnI H v 35 .i16 (joinL (allV bs m) m) ∧ ho = [H, Ho, Hi]) := by
  refine spec_of Try.func26 rfl rfl fun w0 L => ?_
  refine w_seq ?_
  refine w_region rfl ?_
  refine o_asg rfl ?_
  refine w_nil ?_
  refine w_seq ?_
  refine w_region rfl ?_
  refine o_asg rfl ?_
  refine w_nil ?_
  refine w_seq ?_
  refine w_seq ?_
  refine w_region rfl ?_
  refine o_mov rfl ?_
  refine o_lenR hR slc_52 rfl ?_
  refine o_sub rfl rfl (by first | exact IntWalk.i64_in _ (by omega) | rfl) ?_
  rw [show ((bs.length : Int) - 1) = (bs.length : Int) - 1 - ((0 : Nat) : Int) by omega]
  refine o_asg rfl ?_
  refine w_nil ?_
  refine w_emp ?_
  refine w_block ?_
  refine w_loop (X := Nat × Value × Hp) (fun x => [(0, v), (1, .int .i64 m), (5, x.2.1), (6, .int .i64 ((bs.length : Int) - 1 - x.1))]) (fun x => [x.2.2, Ho, Hi]) (fun x => x.1 ≤ bs.length ∧ OwnI x.2.2 x.2.1 2 .i64 (readV bs m x.1)) (fun x => bs.length - x.1) (0, .slice none 0 0, []) ⟨by simp, by rw [readV_0]; exact OwnI.nil _ _⟩ (by repeat (first | exact Sub.nil _ | refine Sub.cons rfl ?_)) (Take.sub (by repeat (first | exact Take.nil | exact Take.all _ | (apply Take.cons; focus (repeat (first | exact Pick.here | apply Pick.next)))))) ?_
  rintro ⟨c, u, H⟩ ⟨hc, hO⟩
  simp only at hc hO ⊢
  have hrl := readV_len (m := m) hc
  have hcm : c * (2 * m) ≤ 1000 * 16 := Nat.mul_le_mul (by omega) (by omega)
  refine w_seq ?_
  refine w_seq ?_
  refine w_cut_x (X := Bool) (fun y => [(0, v), (1, .int .i64 m), (5, u), (6, .int .i64 ((bs.length : Int) - 1 - c)), (27, .bool y)]) (fun _ => [H, Ho, Hi]) (fun y => y = decide (c < bs.length ∧ (readV bs m c).length < 20 * m)) ?_ ?_
  · refine w_region rfl ?_
    refine o_mov rfl ?_
    refine o_ge_s rfl rfl (fun hge => ?_) (fun hge => ?_)
    · refine o_mov rfl ?_
      refine o_yes rfl rfl ?_
      refine o_mov rfl ?_
      refine o_yes rfl rfl ?_
      refine o_lenI hO.ints slc_71 rfl ?_
      refine o_yes rfl rfl ?_
      refine o_mov rfl ?_
      refine o_yes rfl rfl ?_
      refine o_mul rfl rfl (by first | exact IntWalk.i64_in _ (by omega) | rfl) ?_
      refine o_yes rfl rfl ?_
      refine o_lt_s rfl rfl (fun hls => ?_) (fun hls => ?_)
      · refine o_pick_t rfl rfl ?_
        refine w_nil ?_
        exact w_again ⟨true, (decide_eq_true ⟨by omega, by omega⟩).symm, (by repeat (first | exact Sub.nil _ | refine Sub.cons rfl ?_)), (Take.sub (by repeat (first | exact Take.nil | exact Take.all _ | (apply Take.cons; focus (repeat (first | exact Pick.here | apply Pick.next))))))⟩
      · refine o_pick_t rfl rfl ?_
        refine w_nil ?_
        exact w_again ⟨false, (decide_eq_false (fun h => by omega)).symm, (by repeat (first | exact Sub.nil _ | refine Sub.cons rfl ?_)), (Take.sub (by repeat (first | exact Take.nil | exact Take.all _ | (apply Take.cons; focus (repeat (first | exact Pick.here | apply Pick.next))))))⟩
    · refine o_mov rfl ?_
      refine o_no rfl rfl rfl ?_
      refine o_no rfl rfl rfl ?_
      refine o_no rfl rfl rfl ?_
      refine o_no rfl rfl rfl ?_
      refine o_no rfl rfl rfl ?_
      refine o_pick_f rfl rfl ?_
      refine w_nil ?_
      exact w_again ⟨false, (decide_eq_false (fun h => by omega)).symm, (by repeat (first | exact Sub.nil _ | refine Sub.cons rfl ?_)), (Take.sub (by repeat (first | exact Take.nil | exact Take.all _ | (apply Take.cons; focus (repeat (first | exact Pick.here | apply Pick.next))))))⟩
  intro y hy
  subst hy
  refine w_if_d rfl (fun hl => ?_) (fun hl => ?_)
  · obtain ⟨hlt, hsh⟩ := hl
    obtain ⟨w, hw, hI1⟩ := hI (bs.length - 1 - c) (by omega)
    have hmem := getD_memL (bs := bs) (i := bs.length - 1 - c) (by omega)
    have hBl := hb _ hmem
    have hBi := hbi _ hmem
    have hvl := vL_len (bs.getD (bs.length - 1 - c) []) m
    refine w_skip ?_
    refine w_seq ?_
    refine w_block ?_
    refine w_seq ?_
    refine w_region rfl ?_
    refine o_asg rfl ?_
    refine w_nil ?_
    refine w_block ?_
    refine w_loop (X := Nat × Value × Hp) (fun y => [(0, v), (1, .int .i64 m), (5, y.2.1), (6, .int .i64 ((bs.length : Int) - 1 - c)), (7, .int .i64 y.1)]) (fun y => [y.2.2, Ho, Hi]) (fun y => y.1 ≤ 2 * m ∧ OwnI y.2.2 y.2.1 2 .i64 (readV bs m c ++ (vL (bs.getD (bs.length - 1 - c) []) m).take y.1)) (fun y => 2 * m - y.1) (0, u, H) ⟨by simp, by simpa using hO⟩ (by repeat (first | exact Sub.nil _ | refine Sub.cons rfl ?_)) (Take.sub (by repeat (first | exact Take.nil | exact Take.all _ | (apply Take.cons; focus (repeat (first | exact Pick.here | apply Pick.next)))))) ?_
    rintro ⟨k, u2, H2⟩ ⟨hk, hO2⟩
    refine w_seq ?_
    refine w_seq ?_
    refine w_region rfl ?_
    refine o_mov rfl ?_
    refine o_mov rfl ?_
    refine o_mul rfl rfl (by first | exact IntWalk.i64_in _ (by omega) | rfl) ?_
    refine o_lt rfl rfl ?_
    refine w_nil ?_
    refine w_if_d rfl (fun hkl => ?_) (fun hkl => ?_)
    · simp only at hk hO2 hkl ⊢
      have hlen : (readV bs m c ++ (vL (bs.getD (bs.length - 1 - c) []) m).take k).length = c * (2 * m) + k := by rw [List.length_append, hrl, List.length_take, hvl]; omega
      refine w_skip ?_
      refine w_seq ?_
      refine w_block ?_
      refine w_seq ?_
      refine w_region rfl ?_
      refine o_asg rfl ?_
      refine w_nil ?_
      refine w_seq ?_
      refine w_seq ?_
      refine w_region rfl ?_
      refine o_asg rfl ?_
      refine w_nil ?_
      refine w_block ?_
      refine w_loop (X := Nat) (fun q => [(0, v), (1, .int .i64 m), (5, u2), (6, .int .i64 ((bs.length : Int) - 1 - c)), (7, .int .i64 k), (8, .int .i64 (sumN (joinP (bs.getD (bs.length - 1 - c) []) m k) q)), (9, .int .i64 q)]) (fun q => [H2, Ho, Hi]) (fun q => q ≤ m) (fun q => m - q) 0 (by omega) (by repeat (first | exact Sub.nil _ | refine Sub.cons rfl ?_)) (Take.sub (by repeat (first | exact Take.nil | exact Take.all _ | (apply Take.cons; focus (repeat (first | exact Pick.here | apply Pick.next)))))) ?_
      intro q hq
      refine w_seq ?_
      refine w_seq ?_
      refine w_region rfl ?_
      refine o_mov rfl ?_
      refine o_mov rfl ?_
      refine o_lt rfl rfl ?_
      refine w_nil ?_
      refine w_if_d rfl (fun hql => ?_) (fun hql => ?_)
      · have hbq := hBi.get q
        have hjp := joinP_in hBi hm k q
        have hsm := sumN_in (f := joinP (bs.getD (bs.length - 1 - c) []) m k) (B := 70368744177664) (by omega) q (fun q _ => joinP_in hBi hm k q)
        have harg := arg_in2 hm (show k < 2 * m by omega) (show q < m by omega)
        refine w_skip ?_
        refine w_seq ?_
        refine w_block ?_
        refine w_cut_x (X := Unit) (fun _ => [(0, v), (1, .int .i64 m), (5, u2), (6, .int .i64 ((bs.length : Int) - 1 - c)), (7, .int .i64 k), (8, .int .i64 (sumN (joinP (bs.getD (bs.length - 1 - c) []) m k) (q + 1))), (9, .int .i64 q)]) (fun _ => [H2, Ho, Hi]) (fun _ => True) ?_ ?_
        · refine w_plan (takes [0, 1, 2, 3, 5, 9, 10, 11, 12, 13, 14, 15, 16] (.alt 4 (takes [6] (.alt 7 (takes [8] (.alt 17 (takes [18, 19, 20] .done) .stop)) (.alt 17 (takes [7, 8, 18, 19, 20] .done) .stop))) (.alt 17 (takes [4, 6, 7, 8, 18, 19, 20] .done) .stop))) mixed (by kernel_rfl) ?_
          refine wp_take _ _ ?_
          refine o_mov rfl ?_
          refine o_mov rfl ?_
          refine o_mov rfl ?_
          refine o_idxR hR (by repeat (first | exact Has.here | apply Has.next)) slc_52 rfl rfl ⟨by omega, by omega⟩ (fun bb ff arr TT fr hm1 hg1 => ?_)
          refine o_mov rfl ?_
          refine o_mov rfl ?_
          refine o_mul rfl rfl (by first | exact IntWalk.i64_in _ (by omega) | rfl) ?_
          refine o_add rfl rfl (by first | exact IntWalk.i64_in _ (by omega) | rfl) ?_
          refine o_mov rfl ?_
          refine o_mul rfl rfl (by first | exact IntWalk.i64_in _ (by omega) | rfl) ?_
          refine o_mov rfl ?_
          refine o_add rfl rfl (by first | exact IntWalk.i64_in _ (by omega) | rfl) ?_
          refine o_mov rfl ?_
          refine wl_nil ?_
          refine wp_alt ?_ ?_
          · refine o_load (v := w) lod_43 rfl hm1 (hg1 0 w (by rw [show ((bs.length : Int) - 1 - c).toNat * 1 + 0 = bs.length - 1 - c by omega]; exact hw)) ?_
            refine wl_nil ?_
            refine wp_take _ _ ?_
            refine o_idxI hI1 (by repeat (first | exact Has.here | apply Has.next)) slc_43 rfl rfl ⟨by omega, by omega⟩ (fun bb2 ff2 ar2 TT2 fr2 hm2 hg2 => ?_)
            refine wl_nil ?_
            refine wp_alt ?_ ?_
            · refine o_load (v := .int .i32 ((bs.getD (bs.length - 1 - c) []).getD q 0)) lod_21 rfl hm2 hg2 ?_
              refine wl_nil ?_
              refine wp_take _ _ ?_
              refine o_conv int_2 (by rw [Try.underlying21]; rfl) rfl (by first | exact IntWalk.i64_in _ (by omega) | rfl) ?_
              refine wl_nil ?_
              refine wp_alt ?_ ?_
              · refine o_call (ref8_wave (2 * (q : Int) + 1) (2 * (k : Int) + m) m (by omega) (by omega)) fn_51 rfl (by repeat (first | exact Take.nil | exact Take.all _ | (apply Take.cons; focus (repeat (first | exact Pick.here | apply Pick.next))))) ?_
                rintro v ho ⟨rfl, rfl⟩
                refine wl_nil ?_
                refine wp_take _ _ ?_
                refine o_mul (c := joinP (bs.getD (bs.length - 1 - c) []) m k q) rfl rfl (IntWalk.i64_in (joinP (bs.getD (bs.length - 1 - c) []) m k q) (by omega)) ?_
                refine o_add rfl rfl (by first | exact IntWalk.i64_in _ (by omega) | rfl) ?_
                refine o_asg rfl ?_
                refine wl_nil ?_
                refine wp_done ?_
                exact w_again ⟨(), trivial, (by repeat (first | exact Sub.nil _ | refine Sub.cons rfl ?_)), (Take.sub (by repeat (first | exact Take.nil | exact Take.all _ | (apply Take.cons; focus (repeat (first | exact Pick.here | apply Pick.next))))))⟩
              exact wp_stop
            refine wp_alt ?_ ?_
            · refine o_call (ref8_wave (2 * (q : Int) + 1) (2 * (k : Int) + m) m (by omega) (by omega)) fn_51 rfl (by repeat (first | exact Take.nil | exact Take.all _ | (apply Take.cons; focus (repeat (first | exact Pick.here | apply Pick.next))))) ?_
              rintro v ho ⟨rfl, rfl⟩
              refine wl_nil ?_
              refine wp_take _ _ ?_
              refine o_load (v := .int .i32 ((bs.getD (bs.length - 1 - c) []).getD q 0)) lod_21 rfl hm2 hg2 ?_
              refine o_conv int_2 (by rw [Try.underlying21]; rfl) rfl (by first | exact IntWalk.i64_in _ (by omega) | rfl) ?_
              refine o_mul (c := joinP (bs.getD (bs.length - 1 - c) []) m k q) rfl rfl (IntWalk.i64_in (joinP (bs.getD (bs.length - 1 - c) []) m k q) (by omega)) ?_
              refine o_add rfl rfl (by first | exact IntWalk.i64_in _ (by omega) | rfl) ?_
              refine o_asg rfl ?_
              refine wl_nil ?_
              refine wp_done ?_
              exact w_again ⟨(), trivial, (by repeat (first | exact Sub.nil _ | refine Sub.cons rfl ?_)), (Take.sub (by repeat (first | exact Take.nil | exact Take.all _ | (apply Take.cons; focus (repeat (first | exact Pick.here | apply Pick.next))))))⟩
            exact wp_stop
          refine wp_alt ?_ ?_
          · refine o_call (ref8_wave (2 * (q : Int) + 1) (2 * (k : Int) + m) m (by omega) (by omega)) fn_51 rfl (by repeat (first | exact Take.nil | exact Take.all _ | (apply Take.cons; focus (repeat (first | exact Pick.here | apply Pick.next))))) ?_
            rintro v ho ⟨rfl, rfl⟩
            refine wl_nil ?_
            refine wp_take _ _ ?_
            refine o_load (v := w) lod_43 rfl hm1 (hg1 0 w (by rw [show ((bs.length : Int) - 1 - c).toNat * 1 + 0 = bs.length - 1 - c by omega]; exact hw)) ?_
            refine o_idxI hI1 (by repeat (first | exact Has.here | apply Has.next)) slc_43 rfl rfl ⟨by omega, by omega⟩ (fun bb2 ff2 ar2 TT2 fr2 hm2 hg2 => ?_)
            refine o_load (v := .int .i32 ((bs.getD (bs.length - 1 - c) []).getD q 0)) lod_21 rfl hm2 hg2 ?_
            refine o_conv int_2 (by rw [Try.underlying21]; rfl) rfl (by first | exact IntWalk.i64_in _ (by omega) | rfl) ?_
            refine o_mul (c := joinP (bs.getD (bs.length - 1 - c) []) m k q) rfl rfl (IntWalk.i64_in (joinP (bs.getD (bs.length - 1 - c) []) m k q) (by omega)) ?_
            refine o_add rfl rfl (by first | exact IntWalk.i64_in _ (by omega) | rfl) ?_
            refine o_asg rfl ?_
            refine wl_nil ?_
            refine wp_done ?_
            exact w_again ⟨(), trivial, (by repeat (first | exact Sub.nil _ | refine Sub.cons rfl ?_)), (Take.sub (by repeat (first | exact Take.nil | exact Take.all _ | (apply Take.cons; focus (repeat (first | exact Pick.here | apply Pick.next))))))⟩
          exact wp_stop
        rintro ⟨⟩ -
        refine w_inB ?_
        refine w_region rfl ?_
        refine o_mov rfl ?_
        refine o_add rfl rfl (by first | exact IntWalk.i64_in _ (by omega) | rfl) ?_
        refine o_asg rfl ?_
        refine w_nil ?_
        exact w_again ⟨(q + 1), (by omega), (by omega), (by repeat (first | exact Sub.nil _ | refine Sub.cons rfl ?_)), (Take.sub (by repeat (first | exact Take.nil | exact Take.all _ | (apply Take.cons; focus (repeat (first | exact Pick.here | apply Pick.next))))))⟩
      · obtain rfl : m = q := by omega
        have hsm := sumN_in (f := joinP (bs.getD (bs.length - 1 - c) []) m k) (B := 70368744177664) (by omega) m (fun q _ => joinP_in hBi hm k q)
        refine w_exit rfl ?_
        refine w_region rfl ?_
        refine o_mov rfl ?_
        refine o_mov rfl ?_
        refine o_call (ref8_round _ _ (by omega)) fn_50 rfl (by repeat (first | exact Take.nil | exact Take.all _ | (apply Take.cons; focus (repeat (first | exact Pick.here | apply Pick.next))))) ?_
        rintro v ho ⟨rfl, rfl⟩
        rw [show rsat (sumN (joinP (bs.getD (bs.length - 1 - c) []) m k) m) 15 = (vL (bs.getD (bs.length - 1 - c) []) m).getD k 0 by rw [vL_get (by omega)]; rfl]
        refine o_bslN [_] slc_71 zer_2 (Nat.le_of_ble_eq_true rfl) rfl rfl (fun b5 => ?_)
        refine o_app1 slc_71 zer_2 rfl rfl rfl hO2 (by repeat (first | exact Pick.here | apply Pick.next)) (by repeat (first | exact Has.here | apply Has.next)) (Nat.le_of_ble_eq_true rfl) (by simp only [maxLen]; omega) (by omega) (fun v' H' hO3 => ?_)
        refine o_asg rfl ?_
        refine w_nil ?_
        refine w_inB ?_
        refine w_region rfl ?_
        refine o_mov rfl ?_
        refine o_add rfl rfl (by first | exact IntWalk.i64_in _ (by omega) | rfl) ?_
        refine o_asg rfl ?_
        refine w_nil ?_
        exact w_again ⟨(k + 1, v', H'), ⟨by simp only; omega, by rw [← take_get_step (by omega), ← List.append_assoc]; exact hO3⟩, (by simp only; omega), (by repeat (first | exact Sub.nil _ | refine Sub.cons rfl ?_)), (Take.sub (by repeat (first | exact Take.nil | exact Take.all _ | (apply Take.cons; focus (repeat (first | exact Pick.here | apply Pick.next))))))⟩
    · simp only at hk hO2 hkl ⊢
      obtain rfl : k = 2 * m := by omega
      rw [List.take_of_length_le (Nat.le_of_eq hvl), ← readV_step hlt] at hO2
      refine w_exit rfl ?_
      refine w_inB ?_
      refine w_region rfl ?_
      refine o_mov rfl ?_
      refine o_sub rfl rfl (by first | exact IntWalk.i64_in _ (by omega) | rfl) ?_
      rw [show ((bs.length : Int) - 1 - c - 1) = (bs.length : Int) - 1 - ((c + 1 : Nat) : Int) by omega]
      refine o_asg rfl ?_
      refine w_nil ?_
      exact w_again ⟨(c + 1, u2, H2), ⟨by simp only; omega, hO2⟩, (by simp only; omega), (by repeat (first | exact Sub.nil _ | refine Sub.cons rfl ?_)), (Take.sub (by repeat (first | exact Take.nil | exact Take.all _ | (apply Take.cons; focus (repeat (first | exact Pick.here | apply Pick.next))))))⟩
  · have hdone : c = bs.length ∨ 20 * m ≤ (readV bs m c).length := by omega
    have hall := fun z => readV_all (z := z) hm hc hdone
    have hxi : in32 (readV bs m c) := allV_in _ _
    generalize readV bs m c = rv at hO hrl hdone hall hxi ⊢
    refine w_exit rfl ?_
    refine w_seq ?_
    refine w_block ?_
    refine w_loop (X := Nat × Value × Hp) (fun y => [(0, v), (1, .int .i64 m), (5, y.2.1)]) (fun y => [y.2.2, Ho, Hi]) (fun y => y.1 ≤ 20 * m ∧ OwnI y.2.2 y.2.1 2 .i64 (rv ++ List.replicate y.1 0)) (fun y => 20 * m - y.1) (0, u, H) ⟨by simp, by simpa using hO⟩ (by repeat (first | exact Sub.nil _ | refine Sub.cons rfl ?_)) (Take.sub (by repeat (first | exact Take.nil | exact Take.all _ | (apply Take.cons; focus (repeat (first | exact Pick.here | apply Pick.next)))))) ?_
    rintro ⟨z, u, H⟩ ⟨hz, hO⟩
    refine w_seq ?_
    refine w_seq ?_
    refine w_region rfl ?_
    refine o_mov rfl ?_
    refine o_lenI hO.ints slc_71 rfl ?_
    refine o_mov rfl ?_
    refine o_mul rfl rfl (by first | exact IntWalk.i64_in _ (by omega) | rfl) ?_
    refine o_lt rfl rfl ?_
    refine w_nil ?_
    refine w_if_d rfl (fun hzl => ?_) (fun hzl => ?_)
    · simp only at hz hO hzl ⊢
      simp only [List.length_append, List.length_replicate] at hzl
      refine w_skip ?_
      refine w_block ?_
      refine w_region rfl ?_
      refine o_mov rfl ?_
      refine o_bslN [_] slc_71 zer_2 (Nat.le_of_ble_eq_true rfl) rfl rfl (fun b6 => ?_)
      refine o_app1 slc_71 zer_2 rfl rfl rfl hO (by repeat (first | exact Pick.here | apply Pick.next)) (by repeat (first | exact Has.here | apply Has.next)) (Nat.le_of_ble_eq_true rfl) (by simp only [maxLen, List.length_append, List.length_replicate]; omega) (by simp only [List.length_append, List.length_replicate]; omega) (fun v' H' hO3 => ?_)
      refine o_asg rfl ?_
      refine w_nil ?_
      refine w_inB ?_
      exact w_again ⟨(z + 1, v', H'), ⟨by simp only; omega, by rw [List.replicate_succ', ← List.append_assoc]; exact hO3⟩, (by simp only; omega), (by repeat (first | exact Sub.nil _ | refine Sub.cons rfl ?_)), (Take.sub (by repeat (first | exact Take.nil | exact Take.all _ | (apply Take.cons; focus (repeat (first | exact Pick.here | apply Pick.next))))))⟩
    · simp only at hz hO hzl ⊢
      simp only [List.length_append, List.length_replicate] at hzl
      have hXl : 20 * m ≤ (rv ++ List.replicate z 0).length := by simp only [List.length_append, List.length_replicate]; omega
      have hXi : in32 (rv ++ List.replicate z 0) := hxi.app (in32_rep _)
      rw [← hall z]
      generalize rv ++ List.replicate z 0 = X at hO hXl hXi ⊢
      have hjl := joinL_len X m
      have hfl := filterL_len m
      refine w_emp ?_
      refine w_exit rfl ?_
      refine w_seq ?_
      refine w_region rfl ?_
      refine o_mov rfl ?_
      refine o_call (ref_Filter hm) fn_45 rfl (by repeat (first | exact Take.nil | exact Take.all _ | (apply Take.cons; focus (repeat (first | exact Pick.here | apply Pick.next))))) ?_
      rintro vf ho ⟨Hf, hOf, rfl⟩
      refine o_asg rfl ?_
      refine w_nil ?_
      refine w_seq ?_
      refine w_region rfl ?_
      refine o_asg rfl ?_
      refine w_nil ?_
      refine w_seq ?_
      refine w_seq ?_
      refine w_region rfl ?_
      refine o_asg rfl ?_
      refine w_nil ?_
      refine w_block ?_
      refine w_loop (X := Nat × Value × Hp) (fun x => [(0, v), (1, .int .i64 m), (5, u), (10, vf), (11, x.2.1), (12, .int .i64 x.1)]) (fun x => [x.2.2, Hf, H, Ho, Hi]) (fun x => x.1 ≤ m ∧ OwnI x.2.2 x.2.1 35 .i16 ((joinL X m).take x.1)) (fun x => m - x.1) (0, .slice none 0 0, []) ⟨by simp, OwnI.nil _ _⟩ (by repeat (first | exact Sub.nil _ | refine Sub.cons rfl ?_)) (Take.sub (by repeat (first | exact Take.nil | exact Take.all _ | (apply Take.cons; focus (repeat (first | exact Pick.here | apply Pick.next)))))) ?_
      rintro ⟨j, uy, Hy⟩ ⟨hj, hY⟩
      refine w_seq ?_
      refine w_seq ?_
      refine w_region rfl ?_
      refine o_mov rfl ?_
      refine o_mov rfl ?_
      refine o_lt rfl rfl ?_
      refine w_nil ?_
      refine w_if_d rfl (fun hjl2 => ?_) (fun hjl2 => ?_)
      · simp only at hj hY hjl2 ⊢
        have hjlj : ((joinL X m).take j).length = j := by rw [List.length_take]; omega
        refine w_skip ?_
        refine w_seq ?_
        refine w_block ?_
        refine w_seq ?_
        refine w_region rfl ?_
        refine o_asg rfl ?_
        refine w_nil ?_
        refine w_seq ?_
        refine w_seq ?_
        refine w_region rfl ?_
        refine o_asg rfl ?_
        refine w_nil ?_
        refine w_block ?_
        refine w_loop (X := Nat) (fun i => [(0, v), (1, .int .i64 m), (5, u), (10, vf), (11, uy), (12, .int .i64 j), (13, .int .i64 (sumN (joinR X m j) i)), (14, .int .i64 i)]) (fun i => [Hy, Hf, H, Ho, Hi]) (fun i => i ≤ 5) (fun i => 5 - i) 0 (by omega) (by repeat (first | exact Sub.nil _ | refine Sub.cons rfl ?_)) (Take.sub (by repeat (first | exact Take.nil | exact Take.all _ | (apply Take.cons; focus (repeat (first | exact Pick.here | apply Pick.next)))))) ?_
        intro i hi
        refine w_seq ?_
        refine w_seq ?_
        refine w_region rfl ?_
        refine o_mov rfl ?_
        refine o_lt rfl rfl ?_
        refine w_nil ?_
        refine w_if_d rfl (fun hil => ?_) (fun hil => ?_)
        · refine w_skip ?_
          refine w_seq ?_
          refine w_block ?_
          refine w_seq ?_
          refine w_any [0, 1, 2, 3, 4, 5, 6, 7, 8, 9, 10, 11, 12, 13, 14, 15, 16, 17, 18, 19, 20, 21, 22, 23, 24, 25, 26, 27, 28, 29, 30, 31, 32, 33, 34, 35, 36, 37, 38, 39, 40, 41, 42, 43, 44, 45, 46] mixed (by kernel_rfl) ?_
          have hat := at_in2 (i := i) hm (show j < m by omega) (by omega)
          have hab := joinAB_in hXi hm j i
          have hf1 := filterL_in hm (2 * m * i + j)
          have hf2 := filterL_in hm (2 * m * i + m + j)
          have hjr := joinR_in hXi hm j i
          have hsu := sumN_in (f := joinR X m j) (B := 140737488355328) (by omega) i (fun q _ => joinR_in hXi hm j q)
          refine o_mov rfl ?_
          refine o_mov rfl ?_
          refine o_mul rfl rfl (by first | exact IntWalk.i64_in _ (by omega) | rfl) ?_
          refine o_mov rfl ?_
          refine o_mul (c := ((4 * m * i : Nat) : Int)) rfl rfl (by rw [show (4 * (m : Int)) * i = ((4 * m * i : Nat) : Int) by simp]; exact IntWalk.i64_in _ (by omega)) ?_
          refine o_mov rfl ?_
          refine o_add rfl rfl (by first | exact IntWalk.i64_in _ (by omega) | rfl) ?_
          refine o_idxI hO.ints (by repeat (first | exact Has.here | apply Has.next)) slc_71 rfl rfl ⟨by omega, by omega⟩ (fun bb1 ff1 ar1 TT1 fr1 hm1 hg1 => ?_)
          rw [show (((4 * m * i : Nat) : Int) + j).toNat = 4 * m * i + j by omega] at hg1
          refine o_load lod_2 rfl hm1 hg1 ?_
          refine o_mov rfl ?_
          refine o_mov rfl ?_
          refine o_mul rfl rfl (by first | exact IntWalk.i64_in _ (by omega) | rfl) ?_
          refine o_mov rfl ?_
          refine o_mul (c := ((2 * m * i : Nat) : Int)) rfl rfl (by rw [show (2 * (m : Int)) * i = ((2 * m * i : Nat) : Int) by simp]; exact IntWalk.i64_in _ (by omega)) ?_
          refine o_mov rfl ?_
          refine o_add rfl rfl (by first | exact IntWalk.i64_in _ (by omega) | rfl) ?_
          refine o_idxI hOf.ints (by repeat (first | exact Has.here | apply Has.next)) slc_26 rfl rfl ⟨by omega, by omega⟩ (fun bb2 ff2 ar2 TT2 fr2 hm2 hg2 => ?_)
          rw [show (((2 * m * i : Nat) : Int) + j).toNat = 2 * m * i + j by omega] at hg2
          refine o_load lod_35 rfl hm2 hg2 ?_
          refine o_conv int_2 (by rw [Try.underlying35]; rfl) rfl (by first | exact IntWalk.i64_in _ (by omega) | rfl) ?_
          refine o_mul (c := joinA X m j i) rfl rfl (IntWalk.i64_in (joinA X m j i) (by omega)) ?_
          refine o_mov rfl ?_
          refine o_mov rfl ?_
          refine o_mul rfl rfl (by first | exact IntWalk.i64_in _ (by omega) | rfl) ?_
          refine o_mov rfl ?_
          refine o_mul (c := ((4 * m * i : Nat) : Int)) rfl rfl (by rw [show (4 * (m : Int)) * i = ((4 * m * i : Nat) : Int) by simp]; exact IntWalk.i64_in _ (by omega)) ?_
          refine o_mov rfl ?_
          refine o_mul rfl rfl (by first | exact IntWalk.i64_in _ (by omega) | rfl) ?_
          refine o_add rfl rfl (by first | exact IntWalk.i64_in _ (by omega) | rfl) ?_
          refine o_mov rfl ?_
          refine o_add rfl rfl (by first | exact IntWalk.i64_in _ (by omega) | rfl) ?_
          refine o_idxI hO.ints (by repeat (first | exact Has.here | apply Has.next)) slc_71 rfl rfl ⟨by omega, by omega⟩ (fun bb3 ff3 ar3 TT3 fr3 hm3 hg3 => ?_)
          rw [show (((4 * m * i : Nat) : Int) + 3 * (m : Int) + j).toNat = 4 * m * i + 3 * m + j by omega] at hg3
          refine o_load lod_2 rfl hm3 hg3 ?_
          refine o_mov rfl ?_
          refine o_mov rfl ?_
          refine o_mul rfl rfl (by first | exact IntWalk.i64_in _ (by omega) | rfl) ?_
          refine o_mov rfl ?_
          refine o_mul (c := ((2 * m * i : Nat) : Int)) rfl rfl (by rw [show (2 * (m : Int)) * i = ((2 * m * i : Nat) : Int) by simp]; exact IntWalk.i64_in _ (by omega)) ?_
          refine o_mov rfl ?_
          refine o_add rfl rfl (by first | exact IntWalk.i64_in _ (by omega) | rfl) ?_
          refine o_mov rfl ?_
          refine o_add rfl rfl (by first | exact IntWalk.i64_in _ (by omega) | rfl) ?_
          refine o_idxI hOf.ints (by repeat (first | exact Has.here | apply Has.next)) slc_26 rfl rfl ⟨by omega, by omega⟩ (fun bb4 ff4 ar4 TT4 fr4 hm4 hg4 => ?_)
          rw [show (((2 * m * i : Nat) : Int) + m + j).toNat = 2 * m * i + m + j by omega] at hg4
          refine o_load lod_35 rfl hm4 hg4 ?_
          refine o_conv int_2 (by rw [Try.underlying35]; rfl) rfl (by first | exact IntWalk.i64_in _ (by omega) | rfl) ?_
          refine o_mul (c := joinB X m j i) rfl rfl (IntWalk.i64_in (joinB X m j i) (by omega)) ?_
          refine o_add rfl rfl (by first | exact IntWalk.i64_in _ (by omega) | rfl) ?_
          refine o_asg rfl ?_
          refine w_nil ?_
          refine w_seq ?_
          refine w_seq ?_
          refine w_region rfl ?_
          refine o_mov rfl ?_
          have htm : (i : Int).tmod 2 = (i : Int) % 2 := Int.tmod_eq_emod_of_nonneg (by omega)
          refine o_rem rfl rfl (by first | decide | omega) (by first | exact IntWalk.rem_in _ _ (by omega) | rfl) ?_
          refine o_eq rfl rfl ?_
          refine w_nil ?_
          refine w_cut_x (X := Int) (fun y => [(0, v), (1, .int .i64 m), (5, u), (10, vf), (11, uy), (12, .int .i64 j), (13, .int .i64 (sumN (joinR X m j) i)), (14, .int .i64 i), (15, .int .i64 y)]) (fun _ => [Hy, Hf, H, Ho, Hi]) (fun y => y = joinR X m j i) ?_ ?_
          · refine w_if_d rfl (fun he => ?_) (fun he => ?_)
            · refine w_region rfl ?_
              refine o_mov rfl ?_
              refine o_neg rfl (by first | exact IntWalk.i64_in _ (by omega) | rfl) ?_
              refine o_asg rfl ?_
              refine w_nil ?_
              exact w_again ⟨(0 - (joinA X m j i + joinB X m j i)), (by unfold joinR; rw [if_pos (by omega)]; unfold joinF; omega), (by repeat (first | exact Sub.nil _ | refine Sub.cons rfl ?_)), (Take.sub (by repeat (first | exact Take.nil | exact Take.all _ | (apply Take.cons; focus (repeat (first | exact Pick.here | apply Pick.next))))))⟩
            · refine w_skip ?_
              exact w_again ⟨(joinA X m j i + joinB X m j i), (by unfold joinR; rw [if_neg (by omega)]; rfl), (by repeat (first | exact Sub.nil _ | refine Sub.cons rfl ?_)), (Take.sub (by repeat (first | exact Take.nil | exact Take.all _ | (apply Take.cons; focus (repeat (first | exact Pick.here | apply Pick.next))))))⟩
          · intro y hy
            subst hy
            refine w_region rfl ?_
            refine o_mov rfl ?_
            refine o_mov rfl ?_
            refine o_add rfl rfl (by first | exact IntWalk.i64_in _ (by omega) | rfl) ?_
            refine o_asg rfl ?_
            refine w_nil ?_
            refine w_inB ?_
            refine w_region rfl ?_
            refine o_mov rfl ?_
            refine o_add rfl rfl (by first | exact IntWalk.i64_in _ (by omega) | rfl) ?_
            refine o_asg rfl ?_
            refine w_nil ?_
            exact w_again ⟨(i + 1), (by omega), (by omega), (by repeat (first | exact Sub.nil _ | refine Sub.cons rfl ?_)), (Take.sub (by repeat (first | exact Take.nil | exact Take.all _ | (apply Take.cons; focus (repeat (first | exact Pick.here | apply Pick.next))))))⟩
        · obtain rfl : i = 5 := by omega
          have hsu := sumN_in (f := joinR X m j) (B := 140737488355328) (by omega) 5 (fun q _ => joinR_in hXi hm j q)
          refine w_exit rfl ?_
          refine w_region rfl ?_
          refine o_mov rfl ?_
          refine o_mov rfl ?_
          refine o_call (ref_Round _ _ (by omega)) fn_55 rfl (by repeat (first | exact Take.nil | exact Take.all _ | (apply Take.cons; focus (repeat (first | exact Pick.here | apply Pick.next))))) ?_
          rintro v ho ⟨rfl, rfl⟩
          refine o_call (ref_Sat16 _) fn_54 rfl (by repeat (first | exact Take.nil | exact Take.all _ | (apply Take.cons; focus (repeat (first | exact Pick.here | apply Pick.next))))) ?_
          rintro v ho ⟨rfl, rfl⟩
          have hcl := clamp_in (roundI (sumN (joinR X m j) 5) 14) (-32768) 32767 (by decide)
          refine o_conv int_35 (by rw [Try.underlying2]; rfl) rfl (by first | exact IntWalk.i16_in _ (by omega) | rfl) ?_
          rw [show clampI (roundI (sumN (joinR X m j) 5) 14) (-32768) 32767 = (joinL X m).getD j 0 by rw [joinL_get (by omega)]; rfl]
          refine o_bslN [_] slc_26 zer_35 (Nat.le_of_ble_eq_true rfl) rfl rfl (fun b10 => ?_)
          refine o_app1 slc_26 zer_35 rfl rfl rfl hY (by repeat (first | exact Pick.here | apply Pick.next)) (by repeat (first | exact Has.here | apply Has.next)) (Nat.le_of_ble_eq_true rfl) (by simp only [maxLen]; omega) (by omega) (fun v' H' hO3 => ?_)
          refine o_asg rfl ?_
          refine w_nil ?_
          refine w_inB ?_
          refine w_region rfl ?_
          refine o_mov rfl ?_
          refine o_add rfl rfl (by first | exact IntWalk.i64_in _ (by omega) | rfl) ?_
          refine o_asg rfl ?_
          refine w_nil ?_
          exact w_again ⟨(j + 1, v', H'), ⟨by simp only; omega, by rw [← take_get_step (by omega)]; exact hO3⟩, (by simp only; omega), (by repeat (first | exact Sub.nil _ | refine Sub.cons rfl ?_)), (Take.sub (by repeat (first | exact Take.nil | exact Take.all _ | (apply Take.cons; focus (repeat (first | exact Pick.here | apply Pick.next))))))⟩
      · simp only at hj hY hjl2 ⊢
        obtain rfl : m = j := by omega
        rw [List.take_of_length_le (Nat.le_of_eq hjl)] at hY
        refine w_exit rfl ?_
        refine w_seq ?_
        refine w_region rfl ?_
        refine o_mov rfl ?_
        refine o_asg rfl ?_
        refine w_nil ?_
        exact w_ret (ret1 rfl rfl) ⟨Hy, hY, rfl⟩ (Take.sub (by repeat (first | exact Take.nil | exact Take.all _ | (apply Take.cons; focus (repeat (first | exact Pick.here | apply Pick.next))))))

end Go.Proofs.Ytjmnidcfgkdhcaa
