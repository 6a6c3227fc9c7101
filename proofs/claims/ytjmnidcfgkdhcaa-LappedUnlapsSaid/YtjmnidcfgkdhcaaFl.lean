/- The contract of a splitter's Feed. No condition but that the samples are of 16 bits. -/
import Derived.Test.YtjmnidcfgkdhcaaTy
import Derived.Test.YtjmnidcfgkdhcaaFk
namespace Go.Proofs.Ytjmnidcfgkdhcaa
open Go.Eng
set_option linter.unusedVariables false
set_option linter.unusedSimpArgs false
set_option maxRecDepth 20000
attribute [local irreducible] WL WT
theorem splitter_Feed {p bx : Nat} {T : TypeId} {m : Nat} (hm : m = 4 ∨ m = 8) {hv tv : Value} {H1 H2 Ax : Hp} (h1 : Ints H1 hv .i16 (filterL m)) (h2 : Ints H2 tv .i16 (turnL (8 * m))) {hist x : List Int} (hh : hist.length = 10 * m) (hhi : in16 hist) {xv : Value} (hx : Ints Ax xv .i16 x) (hxl : x.length = m) (hxi : in16 x) : Ctr Try.prog 20 [.pointer (some ⟨p, 0, none⟩), xv] ([[(p, .cells #[.int .i64 m, hv, tv, .slice (some ⟨bx, 0, none⟩) (10 * m) (10 * m)] T (0, 0))], [(bx, .cells (ints .i64 (hist)) 2 (0, 0))], H1, H2, Ax]) (fun v ho => ∃ v1 H', v = .tuple #[v1, .int .i64 0] ∧ OwnI H' v1 21 .i32 (splitL (newH x hist m) m) ∧ ho = [H', [(p, .cells #[.int .i64 m, hv, tv, .slice (some ⟨bx, 0, none⟩) (10 * m) (10 * m)] T (0, 0))], [(bx, .cells (ints .i64 (newH x hist m)) 2 (0, 0))], H1, H2, Ax]) := by
  refine spec_of Try.func20 rfl rfl fun w0 L => ?_
  refine w_seq ?_
  refine w_region rfl ?_
  refine o_asg rfl ?_
  refine o_asg rfl ?_
  refine w_nil ?_
  refine w_seq ?_
  refine w_block ?_
  refine w_seq ?_
  refine w_region rfl ?_
  refine o_mov rfl ?_
  refine o_pnil Try.underlying38 rfl rfl ?_
  refine o_asg rfl ?_
  refine w_nil ?_
  refine w_if_f rfl ?_
  refine w_seq ?_
  refine w_region rfl ?_
  refine o_mov rfl ?_
  refine o_lenI hx slc_26 rfl ?_
  refine o_mov rfl ?_
  refine o_nilc rfl ?_
  refine o_fld fld_105_0 rfl rfl ?_
  refine o_fld fld_101_0 rfl rfl ?_
  refine o_load lod_3 rfl (by repeat (first | exact At.here | (refine At.inA ?_; assumption) | apply At.next)) rfl ?_
  refine o_ne_f rfl rfl (by omega) ?_
  refine o_asg rfl ?_
  refine w_nil ?_
  refine w_if_f rfl ?_
  refine w_skip ?_
  refine w_inB ?_
  refine w_seq ?_
  refine w_line [(0, true), (1, true), (2, true), (3, true), (4, true), (5, true), (6, true), (7, true), (8, true), (9, true), (10, true), (11, true), (12, true), (13, true), (14, false)] mixed (by kernel_rfl) ?_
  have hcp : Rd [(bx, Obj.cells (ints .i64 hist) 2 (0, 0))] (.slice (some ⟨bx, 0, none⟩) (10 * m) (10 * m)) 1 (10 * m) (hist.map (Value.int .i64)) := by have := (OwnI.mk_ (b := bx) (el := 2) (k := .i64) (xs := hist) (by simp only [maxLen]; omega)).ints; unfold Ints at this; rwa [hh] at this
  refine o_mov rfl ?_
  refine o_nilc rfl ?_
  refine o_fld fld_105_1 rfl rfl ?_
  refine o_load lod_71 rfl (by repeat (first | exact At.here | (refine At.inA ?_; assumption) | apply At.next)) rfl ?_
  refine o_mov rfl ?_
  refine o_nilc rfl ?_
  refine o_fld fld_105_0 rfl rfl ?_
  refine o_fld fld_101_0 rfl rfl ?_
  refine o_load lod_3 rfl (by repeat (first | exact At.here | (refine At.inA ?_; assumption) | apply At.next)) rfl ?_
  refine o_slS2 (o' := m) (l' := 9 * m) (c' := 9 * m) (i := m) (j := (10 * m : Nat)) slc_71 rfl ⟨_, rfl⟩ rfl ⟨by omega, by omega, by omega⟩ ⟨by omega, by omega⟩ (by omega) (by omega) ?_
  refine o_mov rfl ?_
  refine o_nilc rfl ?_
  refine o_fld fld_105_1 rfl rfl ?_
  refine o_load lod_71 rfl (by repeat (first | exact At.here | (refine At.inA ?_; assumption) | apply At.next)) rfl ?_
  refine o_copy slc_71 rfl rfl hcp (by repeat (first | exact Has.here | apply Has.next)) (one_ints _ _) (by repeat (first | exact Upd.here | apply Upd.next)) (by rw [ints_size, hh]; omega) ?_
  refine w_nil ?_
  refine w_seq ?_
  refine w_seq ?_
  refine w_region rfl ?_
  rw [moved hh, ← putH_0 x]
  refine o_mov rfl ?_
  refine o_lenI hx slc_26 rfl ?_
  refine o_mov rfl ?_
  refine w_nil ?_
  refine w_block ?_
  refine w_loop (X := Nat) (fun i => [(0, .pointer (some ⟨p, 0, none⟩)), (1, xv), (45, xv), (46, .int .i64 x.length), (47, .int .i64 i)]) (fun i => [[(p, .cells #[.int .i64 m, hv, tv, .slice (some ⟨bx, 0, none⟩) (10 * m) (10 * m)] T (0, 0))], [(bx, .cells (ints .i64 (putH x hist m i)) 2 (0, 0))], H1, H2, Ax]) (fun i => i ≤ m) (fun i => m - i) 0 (by omega) (by repeat (first | exact Sub.nil _ | refine Sub.cons rfl ?_)) (Take.sub (by repeat (first | exact Take.nil | exact Take.all _ | (apply Take.cons; focus (repeat (first | exact Pick.here | apply Pick.next)))))) ?_
  intro i hi
  refine w_seq ?_
  refine w_region rfl ?_
  refine o_lt rfl rfl ?_
  refine w_nil ?_
  refine w_seq ?_
  refine w_if_d rfl (fun hl => ?_) (fun hl => ?_)
  · refine w_skip ?_
    refine w_seq ?_
    refine w_block ?_
    refine w_seq ?_
    refine w_region rfl ?_
    refine o_mov rfl ?_
    refine o_idxI hx (by repeat (first | exact Has.here | apply Has.next)) slc_26 rfl rfl ⟨by omega, by omega⟩ (fun bb ff arr TT fr hm2 hg => ?_)
    rw [Int.toNat_natCast] at hg
    refine o_load lod_35 rfl hm2 hg ?_
    refine o_asg rfl ?_
    refine o_asg rfl ?_
    refine w_nil ?_
    refine w_line [(0, true), (1, true), (2, true), (3, true), (4, true), (5, true), (6, true), (7, true), (8, true), (9, true), (10, true), (11, true), (12, true), (13, true), (14, true), (15, false)] mixed (by kernel_rfl) ?_
    have hxi' := hxi.get i
    refine o_mov rfl ?_
    refine o_nilc rfl ?_
    refine o_fld fld_105_1 rfl rfl ?_
    refine o_load lod_71 rfl (by repeat (first | exact At.here | (refine At.inA ?_; assumption) | apply At.next)) rfl ?_
    refine o_mov rfl ?_
    refine o_nilc rfl ?_
    refine o_fld fld_105_0 rfl rfl ?_
    refine o_fld fld_101_0 rfl rfl ?_
    refine o_load lod_3 rfl (by repeat (first | exact At.here | (refine At.inA ?_; assumption) | apply At.next)) rfl ?_
    refine o_sub rfl rfl (by first | exact IntWalk.i64_in _ (by omega) | rfl) ?_
    refine o_mov rfl ?_
    refine o_sub rfl rfl (by first | exact IntWalk.i64_in _ (by omega) | rfl) ?_
    refine o_mov rfl ?_
    refine o_conv int_2 (by rw [Try.underlying35]; rfl) rfl (by first | exact IntWalk.i64_in _ (by omega) | rfl) ?_
    refine o_idx slc_71 (off := m - 1 - i) rfl rfl ⟨by omega, by omega⟩ (by omega) ?_
    refine o_storeI siz_2 rfl rfl (by repeat (first | exact Upd.here | apply Upd.next)) (by rw [putH_len hxl hh (by omega)]; omega) ?_
    refine w_nil ?_
    refine w_inB ?_
    refine w_region rfl ?_
    rw [putH_step hxl hh (by omega)]
    refine o_add rfl rfl (by first | exact IntWalk.i64_in _ (by omega) | rfl) ?_
    refine o_mov rfl ?_
    refine w_nil ?_
    exact w_again ⟨(i + 1), (by omega), (by omega), (by repeat (first | exact Sub.nil _ | refine Sub.cons rfl ?_)), (Take.sub (by repeat (first | exact Take.nil | exact Take.all _ | (apply Take.cons; focus (repeat (first | exact Pick.here | apply Pick.next))))))⟩
  · refine w_exit rfl ?_
    refine w_seq ?_
    refine w_region rfl ?_
    obtain rfl : m = i := by omega
    rw [putH_m hxl]
    have hnl := newH_len hxl hh
    have hni := hxi.new (m := m) hhi
    generalize newH x hist m = nh at hnl hni ⊢
    refine o_mov rfl ?_
    refine o_nilc rfl ?_
    refine o_fld fld_105_0 rfl rfl ?_
    refine o_fld fld_101_0 rfl rfl ?_
    refine o_load lod_3 rfl (by repeat (first | exact At.here | (refine At.inA ?_; assumption) | apply At.next)) rfl ?_
    refine o_mul rfl rfl (by first | exact IntWalk.i64_in _ (by omega) | rfl) ?_
    refine o_mks slc_71 zer_2 rfl rfl (by omega) (by omega) (by omega) (by omega) (fun b1 => ?_)
    rw [show (2 * (m : Int)).toNat = 2 * m by omega, show madeCells _ (2 * m * 1) = ints .i64 (List.replicate (2 * m) 0) from by rw [Nat.mul_one]; exact ints_made _ _]
    refine o_asg rfl ?_
    refine w_nil ?_
    have hyl := yL_len nh m
    refine w_seq ?_
    refine w_seq ?_
    refine w_region rfl ?_
    refine o_mov rfl ?_
    refine o_len slc_71 rfl ?_
    refine o_mov rfl ?_
    refine w_nil ?_
    refine w_block ?_
    refine w_loop (X := Nat) (fun j => [(0, .pointer (some ⟨p, 0, none⟩)), (8, .slice (some ⟨b1, 0, none⟩) (2 * m) (2 * m)), (76, .int .i64 (2 * m : Nat)), (77, .int .i64 j)]) (fun j => [[(b1, .cells (ints .i64 ((yL nh m).take j ++ List.replicate (2 * m - j) 0)) 2 (0, 0))], [(p, .cells #[.int .i64 m, hv, tv, .slice (some ⟨bx, 0, none⟩) (10 * m) (10 * m)] T (0, 0))], [(bx, .cells (ints .i64 (nh)) 2 (0, 0))], H1, H2, Ax]) (fun j => j ≤ 2 * m) (fun j => 2 * m - j) 0 (by omega) (by repeat (first | exact Sub.nil _ | refine Sub.cons rfl ?_)) (Take.sub (by repeat (first | exact Take.nil | exact Take.all _ | (apply Take.cons; focus (repeat (first | exact Pick.here | apply Pick.next)))))) ?_
    intro j hj
    refine w_seq ?_
    refine w_region rfl ?_
    refine o_lt rfl rfl ?_
    refine w_nil ?_
    refine w_seq ?_
    refine w_if_d rfl (fun hjl => ?_) (fun hjl => ?_)
    · refine w_skip ?_
      refine w_seq ?_
      refine w_block ?_
      refine w_seq ?_
      refine w_region rfl ?_
      refine o_mov rfl ?_
      refine o_asg rfl ?_
      refine w_nil ?_
      refine w_seq ?_
      refine w_region rfl ?_
      refine o_asg rfl ?_
      refine w_nil ?_
      refine w_seq ?_
      refine w_seq ?_
      refine w_region rfl ?_
      refine o_mov rfl ?_
      refine w_nil ?_
      refine w_block ?_
      refine w_loop (X := Nat) (fun k => [(0, .pointer (some ⟨p, 0, none⟩)), (8, .slice (some ⟨b1, 0, none⟩) (2 * m) (2 * m)), (76, .int .i64 (2 * m : Nat)), (77, .int .i64 j), (9, .int .i64 j), (10, .int .i64 (altS (polyP nh m j) k)), (80, .int .i64 k)]) (fun k => [[(b1, .cells (ints .i64 ((yL nh m).take j ++ List.replicate (2 * m - j) 0)) 2 (0, 0))], [(p, .cells #[.int .i64 m, hv, tv, .slice (some ⟨bx, 0, none⟩) (10 * m) (10 * m)] T (0, 0))], [(bx, .cells (ints .i64 (nh)) 2 (0, 0))], H1, H2, Ax]) (fun k => k ≤ 5) (fun k => 5 - k) 0 (by omega) (by repeat (first | exact Sub.nil _ | refine Sub.cons rfl ?_)) (Take.sub (by repeat (first | exact Take.nil | exact Take.all _ | (apply Take.cons; focus (repeat (first | exact Pick.here | apply Pick.next)))))) ?_
      intro k hk
      refine w_seq ?_
      refine w_region rfl ?_
      refine o_lt rfl rfl ?_
      refine w_nil ?_
      refine w_seq ?_
      refine w_if_d rfl (fun hkl => ?_) (fun hkl => ?_)
      · refine w_skip ?_
        refine w_seq ?_
        refine w_block ?_
        refine w_seq ?_
        refine w_region rfl ?_
        refine o_mov rfl ?_
        refine o_asg rfl ?_
        refine w_nil ?_
        refine w_seq ?_
        refine w_region rfl ?_
        have hmk := at_in (k := k) hm (show j < 2 * m by omega) (by omega)
        have hal := altS_in (f := polyP nh m j) (B := 1073741824) (by omega) k (fun q _ => polyP_in hni hm j q)
        have hpp := polyP_in hni hm j k
        have hf := filterL_in hm (j + 2 * m * k)
        have hfl := filterL_len m
        refine o_mov rfl ?_
        refine o_mov rfl ?_
        refine o_nilc rfl ?_
        refine o_fld fld_105_0 rfl rfl ?_
        refine o_fld fld_101_0 rfl rfl ?_
        refine o_load lod_3 rfl (by repeat (first | exact At.here | (refine At.inA ?_; assumption) | apply At.next)) rfl ?_
        refine o_mul rfl rfl (by first | exact IntWalk.i64_in _ (by omega) | rfl) ?_
        refine o_mov rfl ?_
        refine o_mul (c := ((2 * m * k : Nat) : Int)) rfl rfl (by rw [show (2 * (m : Int)) * k = ((2 * m * k : Nat) : Int) by simp]; exact IntWalk.i64_in _ (by omega)) ?_
        refine o_add rfl rfl (by first | exact IntWalk.i64_in _ (by omega) | rfl) ?_
        refine o_asg rfl ?_
        refine w_nil ?_
        refine w_any [0, 1, 2, 3, 4, 5, 6, 7, 8, 9, 10, 11, 12, 13, 14, 15, 16, 17, 18, 19] mixed (by kernel_rfl) ?_
        refine o_mov rfl ?_
        refine o_nilc rfl ?_
        refine o_fld fld_105_1 rfl rfl ?_
        refine o_load lod_71 rfl (by repeat (first | exact At.here | (refine At.inA ?_; assumption) | apply At.next)) rfl ?_
        refine o_mov rfl ?_
        refine o_idx slc_71 (off := j + 2 * m * k) rfl rfl ⟨by omega, by omega⟩ (by omega) ?_
        refine o_loadI lod_2 rfl (by repeat (first | exact At.here | (refine At.inA ?_; assumption) | apply At.next)) (by omega) ?_
        refine o_mov rfl ?_
        refine o_nilc rfl ?_
        refine o_fld fld_105_0 rfl rfl ?_
        refine o_fld fld_101_1 rfl rfl ?_
        refine o_load lod_26 rfl (by repeat (first | exact At.here | (refine At.inA ?_; assumption) | apply At.next)) rfl ?_
        refine o_mov rfl ?_
        refine o_idxI h1 (by repeat (first | exact Has.here | apply Has.next)) slc_26 rfl rfl ⟨by omega, by omega⟩ (fun bb ff arr TT fr hm2 hg => ?_)
        rw [show ((j : Int) + ((2 * m * k : Nat) : Int)).toNat = j + 2 * m * k by omega] at hg
        refine o_load lod_35 rfl hm2 hg ?_
        refine o_conv int_2 (by rw [Try.underlying35]; rfl) rfl (by first | exact IntWalk.i64_in _ (by omega) | rfl) ?_
        refine o_mul (c := polyP nh m j k) rfl rfl (IntWalk.i64_in (polyP nh m j k) (by omega)) ?_
        refine o_mov rfl ?_
        refine o_sub rfl rfl (by first | exact IntWalk.i64_in _ (by omega) | rfl) ?_
        refine o_asg rfl ?_
        refine w_nil ?_
        refine w_inB ?_
        refine w_region rfl ?_
        refine o_add rfl rfl (by first | exact IntWalk.i64_in _ (by omega) | rfl) ?_
        refine o_mov rfl ?_
        refine w_nil ?_
        exact w_again ⟨(k + 1), (by omega), (by omega), (by repeat (first | exact Sub.nil _ | refine Sub.cons rfl ?_)), (Take.sub (by repeat (first | exact Take.nil | exact Take.all _ | (apply Take.cons; focus (repeat (first | exact Pick.here | apply Pick.next))))))⟩
      · refine w_exit rfl ?_
        refine w_region rfl ?_
        obtain rfl : k = 5 := by omega
        have hal := altS_in (f := polyP nh m j) (B := 1073741824) (by omega) 5 (fun q _ => polyP_in hni hm j q)
        refine o_mov rfl ?_
        refine o_mov rfl ?_
        refine o_mov rfl ?_
        refine o_neg rfl (by first | exact IntWalk.i64_in _ (by omega) | rfl) ?_
        refine o_call (poly_rounded _ _ (by omega)) fn_48 rfl (by repeat (first | exact Take.nil | exact Take.all _ | (apply Take.cons; focus (repeat (first | exact Pick.here | apply Pick.next))))) ?_
        rintro v ho ⟨rfl, rfl⟩
        rw [show (0 - altS (polyP nh m j) 5) = polyN nh m j by rw [← alt_poly]; omega, show rsat (polyN nh m j) 14 = (yL nh m).getD j 0 by rw [yL_get (by omega)]; rfl]
        refine o_idx slc_71 (off := j) rfl rfl ⟨by omega, by omega⟩ (by omega) ?_
        refine o_storeI siz_2 rfl rfl (by repeat (first | exact Upd.here | apply Upd.next)) (by simp [hyl]; omega) ?_
        refine w_nil ?_
        refine w_inB ?_
        refine w_region rfl ?_
        rw [fill_step hyl (by omega)]
        refine o_add rfl rfl (by first | exact IntWalk.i64_in _ (by omega) | rfl) ?_
        refine o_mov rfl ?_
        refine w_nil ?_
        exact w_again ⟨(j + 1), (by omega), (by omega), (by repeat (first | exact Sub.nil _ | refine Sub.cons rfl ?_)), (Take.sub (by repeat (first | exact Take.nil | exact Take.all _ | (apply Take.cons; focus (repeat (first | exact Pick.here | apply Pick.next))))))⟩
    · refine w_exit rfl ?_
      refine w_seq ?_
      refine w_region rfl ?_
      obtain rfl : j = 2 * m := by omega
      rw [List.take_of_length_le (Nat.le_of_eq hyl), Nat.sub_self, List.replicate_zero, List.append_nil]
      refine o_mov rfl ?_
      refine o_nilc rfl ?_
      refine o_fld fld_105_0 rfl rfl ?_
      refine o_fld fld_101_0 rfl rfl ?_
      refine o_load lod_3 rfl (by repeat (first | exact At.here | (refine At.inA ?_; assumption) | apply At.next)) rfl ?_
      refine o_mks slc_43 zer_21 rfl rfl (by omega) (by omega) (by omega) (by omega) (fun b3 => ?_)
      rw [Int.toNat_natCast, show madeCells _ (m * 1) = ints .i32 (List.replicate m 0) from by rw [Nat.mul_one]; exact ints_made _ _]
      refine o_asg rfl ?_
      refine w_nil ?_
      have hsl := splitL_len nh m
      refine w_seq ?_
      refine w_seq ?_
      refine w_region rfl ?_
      refine o_mov rfl ?_
      refine o_len slc_43 rfl ?_
      refine o_mov rfl ?_
      refine w_nil ?_
      refine w_block ?_
      refine w_loop (X := Nat) (fun i => [(0, .pointer (some ⟨p, 0, none⟩)), (8, .slice (some ⟨b1, 0, none⟩) (2 * m) (2 * m)), (13, .slice (some ⟨b3, 0, none⟩) m m), (127, .int .i64 m), (128, .int .i64 i)]) (fun i => [[(b3, .cells (ints .i32 ((splitL nh m).take i ++ List.replicate (m - i) 0)) 21 (0, 0))], [(b1, .cells (ints .i64 (yL nh m)) 2 (0, 0))], [(p, .cells #[.int .i64 m, hv, tv, .slice (some ⟨bx, 0, none⟩) (10 * m) (10 * m)] T (0, 0))], [(bx, .cells (ints .i64 (nh)) 2 (0, 0))], H1, H2, Ax]) (fun i => i ≤ m) (fun i => m - i) 0 (by omega) (by repeat (first | exact Sub.nil _ | refine Sub.cons rfl ?_)) (Take.sub (by repeat (first | exact Take.nil | exact Take.all _ | (apply Take.cons; focus (repeat (first | exact Pick.here | apply Pick.next)))))) ?_
      intro i hi2
      refine w_seq ?_
      refine w_region rfl ?_
      refine o_lt rfl rfl ?_
      refine w_nil ?_
      refine w_seq ?_
      refine w_if_d rfl (fun hil => ?_) (fun hil => ?_)
      · refine w_skip ?_
        refine w_seq ?_
        refine w_block ?_
        refine w_seq ?_
        refine w_region rfl ?_
        refine o_mov rfl ?_
        refine o_asg rfl ?_
        refine w_nil ?_
        refine w_seq ?_
        refine w_region rfl ?_
        refine o_asg rfl ?_
        refine w_nil ?_
        refine w_seq ?_
        refine w_seq ?_
        refine w_region rfl ?_
        refine o_mov rfl ?_
        refine o_len slc_71 rfl ?_
        refine o_mov rfl ?_
        refine w_nil ?_
        refine w_block ?_
        refine w_loop (X := Nat) (fun j => [(0, .pointer (some ⟨p, 0, none⟩)), (8, .slice (some ⟨b1, 0, none⟩) (2 * m) (2 * m)), (13, .slice (some ⟨b3, 0, none⟩) m m), (127, .int .i64 m), (128, .int .i64 i), (14, .int .i64 i), (15, .int .i64 (sumN (polyQ nh m i) j)), (131, .slice (some ⟨b1, 0, none⟩) (2 * m) (2 * m)), (132, .int .i64 (2 * m : Nat)), (133, .int .i64 j)]) (fun j => [[(b3, .cells (ints .i32 ((splitL nh m).take i ++ List.replicate (m - i) 0)) 21 (0, 0))], [(b1, .cells (ints .i64 (yL nh m)) 2 (0, 0))], [(p, .cells #[.int .i64 m, hv, tv, .slice (some ⟨bx, 0, none⟩) (10 * m) (10 * m)] T (0, 0))], [(bx, .cells (ints .i64 (nh)) 2 (0, 0))], H1, H2, Ax]) (fun j => j ≤ 2 * m) (fun j => 2 * m - j) 0 (by omega) (by repeat (first | exact Sub.nil _ | refine Sub.cons rfl ?_)) (Take.sub (by repeat (first | exact Take.nil | exact Take.all _ | (apply Take.cons; focus (repeat (first | exact Pick.here | apply Pick.next)))))) ?_
        intro j hj2
        refine w_seq ?_
        refine w_region rfl ?_
        refine o_lt rfl rfl ?_
        refine w_nil ?_
        refine w_seq ?_
        refine w_if_d rfl (fun hjl2 => ?_) (fun hjl2 => ?_)
        · refine w_skip ?_
          refine w_seq ?_
          refine w_block ?_
          refine w_seq ?_
          refine w_region rfl ?_
          have hq := polyQ_in nh hm i j
          have hsm := sumN_in (f := polyQ nh m i) (B := 70368744177664) (by omega) j (fun q _ => polyQ_in nh hm i q)
          have harg := arg_in hm (show i < m by omega) (show j < 2 * m by omega)
          refine o_mov rfl ?_
          refine o_idx slc_71 (off := j) rfl rfl ⟨by omega, by omega⟩ (by omega) ?_
          refine o_loadI lod_2 rfl (by repeat (first | exact At.here | (refine At.inA ?_; assumption) | apply At.next)) (by omega) ?_
          refine o_asg rfl ?_
          refine o_asg rfl ?_
          refine w_nil ?_
          refine w_line [(0, true), (1, true), (2, true), (3, true), (4, true), (5, true), (6, true), (7, true), (8, true), (9, true), (10, true), (11, true), (12, true), (13, true), (14, true), (15, true), (16, false), (17, true), (18, true), (19, true)] mixed (by kernel_rfl) ?_
          refine o_mov rfl ?_
          refine o_mov rfl ?_
          refine o_mov rfl ?_
          refine o_nilc rfl ?_
          refine o_fld fld_105_0 rfl rfl ?_
          refine o_mov rfl ?_
          refine o_mul rfl rfl (by first | exact IntWalk.i64_in _ (by omega) | rfl) ?_
          refine o_add rfl rfl (by first | exact IntWalk.i64_in _ (by omega) | rfl) ?_
          refine o_mov rfl ?_
          refine o_mul rfl rfl (by first | exact IntWalk.i64_in _ (by omega) | rfl) ?_
          refine o_mov rfl ?_
          refine o_nilc rfl ?_
          refine o_fld fld_105_0 rfl rfl ?_
          refine o_fld fld_101_0 rfl rfl ?_
          refine o_load lod_3 rfl (by repeat (first | exact At.here | (refine At.inA ?_; assumption) | apply At.next)) rfl ?_
          refine o_sub rfl rfl (by first | exact IntWalk.i64_in _ (by omega) | rfl) ?_
          refine o_call (poly_wave (p := p) (off := 0) (ar := #[.int .i64 m, hv, tv, .slice (some ⟨bx, 0, none⟩) (10 * m) (10 * m)]) (tv := tv) (m := m) (2 * (i : Int) + 1) (2 * (j : Int) - m) rfl rfl h2 (by omega) (by omega)) fn_49 rfl (by repeat (first | exact Take.nil | exact Take.all _ | (apply Take.cons; focus (repeat (first | exact Pick.here | apply Pick.next))))) ?_
          rintro v ho ⟨rfl, rfl⟩
          refine o_mul (c := polyQ nh m i j) rfl rfl (by rw [yL_get (by omega)]; exact IntWalk.i64_in (polyQ nh m i j) (by omega)) ?_
          refine o_add rfl rfl (by first | exact IntWalk.i64_in _ (by omega) | rfl) ?_
          refine o_asg rfl ?_
          refine w_nil ?_
          refine w_inB ?_
          refine w_region rfl ?_
          refine o_add rfl rfl (by first | exact IntWalk.i64_in _ (by omega) | rfl) ?_
          refine o_mov rfl ?_
          refine w_nil ?_
          exact w_again ⟨(j + 1), (by omega), (by omega), (by repeat (first | exact Sub.nil _ | refine Sub.cons rfl ?_)), (Take.sub (by repeat (first | exact Take.nil | exact Take.all _ | (apply Take.cons; focus (repeat (first | exact Pick.here | apply Pick.next))))))⟩
        · refine w_exit rfl ?_
          refine w_region rfl ?_
          obtain rfl : j = 2 * m := by omega
          have hsm := sumN_in (f := polyQ nh m i) (B := 70368744177664) (by omega) (2 * m) (fun q _ => polyQ_in nh hm i q)
          have hrs := rsat_in (sumN (polyQ nh m i) (2 * m)) (16 + (m : Int) / 4)
          refine o_mov rfl ?_
          refine o_mov rfl ?_
          refine o_mov rfl ?_
          refine o_mov rfl ?_
          refine o_nilc rfl ?_
          refine o_fld fld_105_0 rfl rfl ?_
          refine o_fld fld_101_0 rfl rfl ?_
          refine o_load lod_3 rfl (by repeat (first | exact At.here | (refine At.inA ?_; assumption) | apply At.next)) rfl ?_
          refine o_quo rfl rfl (by first | decide | omega) (by first | exact IntWalk.i64_quo _ _ (by omega) | exact IntWalk.i64_quo' _ _ (by omega) | rfl) ?_
          refine o_add rfl rfl (by first | exact IntWalk.i64_in _ (by omega) | rfl) ?_
          refine o_call (poly_rounded _ _ (by omega)) fn_48 rfl (by repeat (first | exact Take.nil | exact Take.all _ | (apply Take.cons; focus (repeat (first | exact Pick.here | apply Pick.next))))) ?_
          rintro v ho ⟨rfl, rfl⟩
          refine o_conv int_21 (by rw [Try.underlying2]; rfl) rfl (by first | exact IntWalk.i32_in _ (by omega) | rfl) ?_
          rw [polyS_eq hm, ← split_sum, ← splitL_get (show i < m by omega)]
          refine o_idx slc_43 (off := i) rfl rfl ⟨by omega, by omega⟩ (by omega) ?_
          refine o_storeI siz_21 rfl rfl (by repeat (first | exact Upd.here | apply Upd.next)) (by simp [hsl]; omega) ?_
          refine w_nil ?_
          refine w_inB ?_
          refine w_region rfl ?_
          rw [fill_step hsl (by omega)]
          refine o_add rfl rfl (by first | exact IntWalk.i64_in _ (by omega) | rfl) ?_
          refine o_mov rfl ?_
          refine w_nil ?_
          exact w_again ⟨(i + 1), (by omega), (by omega), (by repeat (first | exact Sub.nil _ | refine Sub.cons rfl ?_)), (Take.sub (by repeat (first | exact Take.nil | exact Take.all _ | (apply Take.cons; focus (repeat (first | exact Pick.here | apply Pick.next))))))⟩
      · refine w_exit rfl ?_
        refine w_seq ?_
        refine w_region rfl ?_
        obtain rfl : m = i := by omega
        rw [List.take_of_length_le (Nat.le_of_eq hsl), Nat.sub_self, List.replicate_zero, List.append_nil]
        have hO : OwnI [(b3, .cells (ints .i32 (splitL nh m)) 21 (0, 0))] (.slice (some ⟨b3, 0, none⟩) m m) 21 .i32 (splitL nh m) := by have := OwnI.mk_ (b := b3) (el := 21) (k := .i32) (xs := splitL nh m) (by simp only [maxLen]; omega); rwa [hsl] at this
        refine o_mov rfl ?_
        refine o_asg rfl ?_
        refine o_asg rfl ?_
        refine w_nil ?_
        exact w_ret (ret2 rfl rfl rfl) ⟨_, _, rfl, hO, rfl⟩ (Take.sub (by repeat (first | exact Take.nil | exact Take.all _ | (apply Take.cons; focus (repeat (first | exact Pick.here | apply Pick.next))))))

end Go.Proofs.Ytjmnidcfgkdhcaa
