/- Contracts of the document's answer 8: bands by definition; two tables the same. No condition but on the counts and sizes. -/
import Derived.Test.YtjmnidcfgkdhcaaTy
import Derived.Test.YtjmnidcfgkdhcaaFn
namespace Go.Proofs.Ytjmnidcfgkdhcaa
open Go.Eng
set_option linter.unusedVariables false
set_option linter.unusedSimpArgs false
set_option maxRecDepth 20000
attribute [local irreducible] WL WT
theorem take_get_step {xs : List Int} {j : Nat} (h : j < xs.length) : xs.take j ++ [xs.getD j 0] = xs.take (j + 1) := by
  rw [List.take_add_one]; simp [h]
theorem getD_memL {bs : List (List Int)} {i : Nat} (h : i < bs.length) : bs.getD i [] ∈ bs := by
  rw [List.getD_eq_getElem?_getD, List.getElem?_eq_getElem h]; exact List.getElem_mem h
theorem in16_pad {bs : List (List Int)} (z : Nat) (h : ∀ b ∈ bs, in16 b) : in16 (bs.flatten.reverse ++ List.replicate z 0) := by
  intro a ha
  rcases List.mem_append.1 ha with h1 | h1
  · obtain ⟨b, hb1, hb2⟩ := List.mem_flatten.1 (List.mem_reverse.1 h1)
    exact h b hb1 a hb2
  · rw [List.eq_of_mem_replicate h1]; omega

theorem ref_Split {v : Value} {Ho Hi : Hp} {bs : List (List Int)} {ws : List Value} {m : Nat} (hm : m = 4 ∨ m = 8) (hR : Rd Ho v 1 bs.length ws) (hI : ∀ i, i < bs.length → ∃ w, ws[i]? = some w ∧ Ints Hi w .i16 (bs.getD i [])) (hb : ∀ b ∈ bs, b.length = m) (hn : bs.length ≤ 1000) (hbi : ∀ b ∈ bs, in16 b) : Ctr Try.prog 22 [v, .int .i64 m] ([Ho, Hi]) (fun v ho => ∃ H, OwnI H v 21 .i32 (splitL bs.flatten.reverse m) ∧ ho = [H, Ho, Hi]) := by
  refine spec_of Try.func22 rfl rfl fun w0 L => ?_
  refine w_seq ?_
  refine w_region rfl ?_
  refine o_asg rfl ?_
  refine w_nil ?_
  refine w_seq ?_
  refine w_region rfl ?_
  refine o_asg rfl ?_
  refine w_nil ?_
  refine w_seq ?_
  refine w_seq ?_
  refine w_region rfl ?_
  refine o_mov rfl ?_
  refine o_lenR hR slc_41 rfl ?_
  refine o_sub rfl rfl (by first | exact IntWalk.i64_in _ (by omega) | rfl) ?_
  rw [show ((bs.length : Int) - 1) = (bs.length : Int) - 1 - ((0 : Nat) : Int) by omega]
  refine o_asg rfl ?_
  refine w_nil ?_
  refine w_emp ?_
  refine w_block ?_
  refine w_loop (X := Nat × Value × Hp) (fun x => [(0, v), (1, .int .i64 m), (5, x.2.1), (6, .int .i64 ((bs.length : Int) - 1 - x.1))]) (fun x => [x.2.2, Ho, Hi]) (fun x => x.1 ≤ bs.length ∧ OwnI x.2.2 x.2.1 2 .i64 (readX bs x.1)) (fun x => bs.length - x.1) (0, .slice none 0 0, []) ⟨by simp, by rw [readX_0]; exact OwnI.nil _ _⟩ (by repeat (first | exact Sub.nil _ | refine Sub.cons rfl ?_)) (Take.sub (by repeat (first | exact Take.nil | exact Take.all _ | (apply Take.cons; focus (repeat (first | exact Pick.here | apply Pick.next)))))) ?_
  rintro ⟨c, u, H⟩ ⟨hc, hO⟩
  refine w_seq ?_
  refine w_seq ?_
  refine w_region rfl ?_
  refine o_mov rfl ?_
  refine o_ge rfl rfl ?_
  refine w_nil ?_
  refine w_if_d rfl (fun hl => ?_) (fun hl => ?_)
  · simp only at hc hO hl ⊢
    have hlt : c < bs.length := by omega
    obtain ⟨w, hw, hI1⟩ := hI (bs.length - 1 - c) (by omega)
    have hmem := getD_memL (bs := bs) (i := bs.length - 1 - c) (by omega)
    have hBl := hb _ hmem
    have hBi := hbi _ hmem
    have hrl := readX_len (c := c) hb hc
    have hcm : c * m ≤ 1000 * 8 := Nat.mul_le_mul (by omega) (by omega)
    refine w_skip ?_
    refine w_seq ?_
    refine w_block ?_
    refine w_seq ?_
    refine w_region rfl ?_
    refine o_mov rfl ?_
    refine o_sub rfl rfl (by first | exact IntWalk.i64_in _ (by omega) | rfl) ?_
    rw [show ((m : Int) - 1) = (m : Int) - 1 - ((0 : Nat) : Int) by omega]
    refine o_asg rfl ?_
    refine w_nil ?_
    refine w_block ?_
    refine w_loop (X := Nat × Value × Hp) (fun y => [(0, v), (1, .int .i64 m), (5, y.2.1), (6, .int .i64 ((bs.length : Int) - 1 - c)), (7, .int .i64 ((m : Int) - 1 - y.1))]) (fun y => [y.2.2, Ho, Hi]) (fun y => y.1 ≤ m ∧ OwnI y.2.2 y.2.1 2 .i64 (readX bs c ++ (bs.getD (bs.length - 1 - c) []).reverse.take y.1)) (fun y => m - y.1) (0, u, H) ⟨by simp, by simpa using hO⟩ (by repeat (first | exact Sub.nil _ | refine Sub.cons rfl ?_)) (Take.sub (by repeat (first | exact Take.nil | exact Take.all _ | (apply Take.cons; focus (repeat (first | exact Pick.here | apply Pick.next)))))) ?_
    rintro ⟨q, u2, H2⟩ ⟨hq, hO2⟩
    refine w_seq ?_
    refine w_seq ?_
    refine w_region rfl ?_
    refine o_mov rfl ?_
    refine o_ge rfl rfl ?_
    refine w_nil ?_
    refine w_if_d rfl (fun hql => ?_) (fun hql => ?_)
    · simp only at hq hO2 hql ⊢
      have hlen : (readX bs c ++ (bs.getD (bs.length - 1 - c) []).reverse.take q).length = c * m + q := by rw [List.length_append, hrl, List.length_take, List.length_reverse, hBl]; omega
      have hbq := hBi.get (m - 1 - q)
      refine w_skip ?_
      refine w_seq ?_
      refine w_block ?_
      refine w_region rfl ?_
      refine o_mov rfl ?_
      refine o_mov rfl ?_
      refine o_mov rfl ?_
      refine o_idxR hR (by repeat (first | exact Has.here | apply Has.next)) slc_41 rfl rfl ⟨by omega, by omega⟩ (fun bb ff arr TT fr hm1 hg1 => ?_)
      refine o_load lod_26 rfl hm1 (hg1 0 w (by rw [show ((bs.length : Int) - 1 - c).toNat * 1 + 0 = bs.length - 1 - c by omega]; exact hw)) ?_
      refine o_mov rfl ?_
      refine o_idxI hI1 (by repeat (first | exact Has.here | apply Has.next)) slc_26 rfl rfl ⟨by omega, by omega⟩ (fun bb2 ff2 ar2 TT2 fr2 hm2 hg2 => ?_)
      rw [show ((m : Int) - 1 - q).toNat = m - 1 - q by omega] at hg2
      refine o_load lod_35 rfl hm2 hg2 ?_
      refine o_conv int_2 (by rw [Try.underlying35]; rfl) rfl (by first | exact IntWalk.i64_in _ (by omega) | rfl) ?_
      refine o_bslN [_] slc_71 zer_2 (Nat.le_of_ble_eq_true rfl) rfl rfl (fun b1 => ?_)
      refine o_app1 slc_71 zer_2 rfl rfl rfl hO2 (by repeat (first | exact Pick.here | apply Pick.next)) (by repeat (first | exact Has.here | apply Has.next)) (Nat.le_of_ble_eq_true rfl) (by simp only [maxLen]; omega) (by omega) (fun v' H' hO3 => ?_)
      refine o_asg rfl ?_
      refine w_nil ?_
      refine w_inB ?_
      refine w_region rfl ?_
      refine o_mov rfl ?_
      refine o_sub rfl rfl (by first | exact IntWalk.i64_in _ (by omega) | rfl) ?_
      rw [show ((m : Int) - 1 - q - 1) = (m : Int) - 1 - ((q + 1 : Nat) : Int) by omega]
      refine o_asg rfl ?_
      refine w_nil ?_
      exact w_again ⟨(q + 1, v', H'), ⟨by simp only; omega, by rw [rev_take_step hBl (by omega), ← List.append_assoc]; exact hO3⟩, (by simp only; omega), (by repeat (first | exact Sub.nil _ | refine Sub.cons rfl ?_)), (Take.sub (by repeat (first | exact Take.nil | exact Take.all _ | (apply Take.cons; focus (repeat (first | exact Pick.here | apply Pick.next))))))⟩
    · simp only at hq hO2 hql ⊢
      obtain rfl : m = q := by omega
      rw [List.take_of_length_le (by rw [List.length_reverse]; omega), ← readX_step hlt] at hO2
      refine w_exit rfl ?_
      refine w_inB ?_
      refine w_region rfl ?_
      refine o_mov rfl ?_
      refine o_sub rfl rfl (by first | exact IntWalk.i64_in _ (by omega) | rfl) ?_
      rw [show ((bs.length : Int) - 1 - c - 1) = (bs.length : Int) - 1 - ((c + 1 : Nat) : Int) by omega]
      refine o_asg rfl ?_
      refine w_nil ?_
      exact w_again ⟨(c + 1, u2, H2), ⟨by simp only; omega, hO2⟩, (by simp only; omega), (by repeat (first | exact Sub.nil _ | refine Sub.cons rfl ?_)), (Take.sub (by repeat (first | exact Take.nil | exact Take.all _ | (apply Take.cons; focus (repeat (first | exact Pick.here | apply Pick.next))))))⟩
  · simp only at hc hO hl ⊢
    obtain rfl : c = bs.length := by omega
    rw [readX_all] at hO
    have hfl := flat_length hb
    have hcm : bs.length * m ≤ 1000 * 8 := Nat.mul_le_mul (by omega) (by omega)
    refine w_exit rfl ?_
    refine w_seq ?_
    refine w_block ?_
    refine w_loop (X := Nat × Value × Hp) (fun y => [(0, v), (1, .int .i64 m), (5, y.2.1)]) (fun y => [y.2.2, Ho, Hi]) (fun y => y.1 ≤ 10 * m ∧ OwnI y.2.2 y.2.1 2 .i64 (bs.flatten.reverse ++ List.replicate y.1 0)) (fun y => 10 * m - y.1) (0, u, H) ⟨by simp, by simpa using hO⟩ (by repeat (first | exact Sub.nil _ | refine Sub.cons rfl ?_)) (Take.sub (by repeat (first | exact Take.nil | exact Take.all _ | (apply Take.cons; focus (repeat (first | exact Pick.here | apply Pick.next)))))) ?_
    rintro ⟨z, u, H⟩ ⟨hz, hO⟩
    refine w_seq ?_
    refine w_seq ?_
    refine w_region rfl ?_
    refine o_mov rfl ?_
    refine o_lenI hO.ints slc_71 rfl ?_
    refine o_mov rfl ?_
    refine o_mul rfl rfl (by first | exact IntWalk.i64_in _ (by omega) | rfl) ?_
    refine o_lt rfl rfl ?_
    refine w_nil ?_
    refine w_if_d rfl (fun hzl => ?_) (fun hzl => ?_)
    · simp only at hz hO hzl ⊢
      simp only [List.length_append, List.length_reverse, List.length_replicate] at hzl
      refine w_skip ?_
      refine w_block ?_
      refine w_region rfl ?_
      refine o_mov rfl ?_
      refine o_bslN [_] slc_71 zer_2 (Nat.le_of_ble_eq_true rfl) rfl rfl (fun b2 => ?_)
      refine o_app1 slc_71 zer_2 rfl rfl rfl hO (by repeat (first | exact Pick.here | apply Pick.next)) (by repeat (first | exact Has.here | apply Has.next)) (Nat.le_of_ble_eq_true rfl) (by simp only [maxLen, List.length_append, List.length_reverse, List.length_replicate]; omega) (by simp only [List.length_append, List.length_reverse, List.length_replicate]; omega) (fun v' H' hO3 => ?_)
      refine o_asg rfl ?_
      refine w_nil ?_
      refine w_inB ?_
      exact w_again ⟨(z + 1, v', H'), ⟨by simp only; omega, by rw [List.replicate_succ', ← List.append_assoc]; exact hO3⟩, (by simp only; omega), (by repeat (first | exact Sub.nil _ | refine Sub.cons rfl ?_)), (Take.sub (by repeat (first | exact Take.nil | exact Take.all _ | (apply Take.cons; focus (repeat (first | exact Pick.here | apply Pick.next))))))⟩
    · simp only at hz hO hzl ⊢
      simp only [List.length_append, List.length_reverse, List.length_replicate] at hzl
      have hsp := splitL_pad bs.flatten.reverse hm z
      have hXl : 10 * m ≤ (bs.flatten.reverse ++ List.replicate z 0).length := by simp only [List.length_append, List.length_reverse, List.length_replicate]; omega
      have hXi := in16_pad z hbi
      rw [← hsp]
      generalize bs.flatten.reverse ++ List.replicate z 0 = X at hO hXl hXi ⊢
      have hyl := yL_len X m
      have hsl := splitL_len X m
      have hfl := filterL_len m
      refine w_emp ?_
      refine w_exit rfl ?_
      refine w_seq ?_
      refine w_region rfl ?_
      refine o_mov rfl ?_
      refine o_call (ref_Filter hm) fn_45 rfl (by repeat (first | exact Take.nil | exact Take.all _ | (apply Take.cons; focus (repeat (first | exact Pick.here | apply Pick.next))))) ?_
      rintro vf ho ⟨Hf, hOf, rfl⟩
      refine o_asg rfl ?_
      refine w_nil ?_
      refine w_seq ?_
      refine w_region rfl ?_
      refine o_asg rfl ?_
      refine w_nil ?_
      refine w_seq ?_
      refine w_seq ?_
      refine w_region rfl ?_
      refine o_asg rfl ?_
      refine w_nil ?_
      refine w_block ?_
      refine w_loop (X := Nat × Value × Hp) (fun x => [(0, v), (1, .int .i64 m), (5, u), (8, vf), (9, x.2.1), (10, .int .i64 x.1)]) (fun x => [x.2.2, Hf, H, Ho, Hi]) (fun x => x.1 ≤ 2 * m ∧ OwnI x.2.2 x.2.1 2 .i64 ((yL X m).take x.1)) (fun x => 2 * m - x.1) (0, .slice none 0 0, []) ⟨by simp, OwnI.nil _ _⟩ (by repeat (first | exact Sub.nil _ | refine Sub.cons rfl ?_)) (Take.sub (by repeat (first | exact Take.nil | exact Take.all _ | (apply Take.cons; focus (repeat (first | exact Pick.here | apply Pick.next)))))) ?_
      rintro ⟨j, uy, Hy⟩ ⟨hj, hY⟩
      refine w_seq ?_
      refine w_seq ?_
      refine w_region rfl ?_
      refine o_mov rfl ?_
      refine o_mov rfl ?_
      refine o_mul rfl rfl (by first | exact IntWalk.i64_in _ (by omega) | rfl) ?_
      refine o_lt rfl rfl ?_
      refine w_nil ?_
      refine w_if_d rfl (fun hjl => ?_) (fun hjl => ?_)
      · simp only at hj hY hjl ⊢
        have hylj : ((yL X m).take j).length = j := by rw [List.length_take]; omega
        refine w_skip ?_
        refine w_seq ?_
        refine w_block ?_
        refine w_seq ?_
        refine w_region rfl ?_
        refine o_asg rfl ?_
        refine w_nil ?_
        refine w_seq ?_
        refine w_seq ?_
        refine w_region rfl ?_
        refine o_asg rfl ?_
        refine w_nil ?_
        refine w_block ?_
        refine w_loop (X := Nat) (fun k => [(0, v), (1, .int .i64 m), (5, u), (8, vf), (9, uy), (10, .int .i64 j), (11, .int .i64 (sumN (polyR X m j) k)), (12, .int .i64 k)]) (fun k => [Hy, Hf, H, Ho, Hi]) (fun k => k ≤ 5) (fun k => 5 - k) 0 (by omega) (by repeat (first | exact Sub.nil _ | refine Sub.cons rfl ?_)) (Take.sub (by repeat (first | exact Take.nil | exact Take.all _ | (apply Take.cons; focus (repeat (first | exact Pick.here | apply Pick.next)))))) ?_
        intro k hk
        refine w_seq ?_
        refine w_seq ?_
        refine w_region rfl ?_
        refine o_mov rfl ?_
        refine o_lt rfl rfl ?_
        refine w_nil ?_
        refine w_if_d rfl (fun hkl => ?_) (fun hkl => ?_)
        · refine w_skip ?_
          refine w_seq ?_
          refine w_block ?_
          refine w_seq ?_
          refine w_any [0, 1, 2, 3, 4, 5, 6, 7, 8, 9, 10, 11, 12, 13, 14, 15, 16, 17, 18, 19, 20] mixed (by kernel_rfl) ?_
          have hmk := at_in (k := k) hm (show j < 2 * m by omega) (by omega)
          have hpp := polyP_in hXi hm j k
          have hff := filterL_in hm (j + 2 * m * k)
          have hpr := polyR_in hXi hm j k
          have hsu := sumN_in (f := polyR X m j) (B := 1073741824) (by omega) k (fun q _ => polyR_in hXi hm j q)
          refine o_mov rfl ?_
          refine o_mov rfl ?_
          refine o_mov rfl ?_
          refine o_mul rfl rfl (by first | exact IntWalk.i64_in _ (by omega) | rfl) ?_
          refine o_mov rfl ?_
          refine o_mul (c := ((2 * m * k : Nat) : Int)) rfl rfl (by rw [show (2 * (m : Int)) * k = ((2 * m * k : Nat) : Int) by simp]; exact IntWalk.i64_in _ (by omega)) ?_
          refine o_add rfl rfl (by first | exact IntWalk.i64_in _ (by omega) | rfl) ?_
          refine o_idxI hO.ints (by repeat (first | exact Has.here | apply Has.next)) slc_71 rfl rfl ⟨by omega, by omega⟩ (fun bb1 ff1 ar1 TT1 fr1 hm1 hg1 => ?_)
          rw [show ((j : Int) + ((2 * m * k : Nat) : Int)).toNat = j + 2 * m * k by omega] at hg1
          refine o_load lod_2 rfl hm1 hg1 ?_
          refine o_mov rfl ?_
          refine o_mov rfl ?_
          refine o_mov rfl ?_
          refine o_mul rfl rfl (by first | exact IntWalk.i64_in _ (by omega) | rfl) ?_
          refine o_mov rfl ?_
          refine o_mul (c := ((2 * m * k : Nat) : Int)) rfl rfl (by rw [show (2 * (m : Int)) * k = ((2 * m * k : Nat) : Int) by simp]; exact IntWalk.i64_in _ (by omega)) ?_
          refine o_add rfl rfl (by first | exact IntWalk.i64_in _ (by omega) | rfl) ?_
          refine o_idxI hOf.ints (by repeat (first | exact Has.here | apply Has.next)) slc_26 rfl rfl ⟨by omega, by omega⟩ (fun bb2 ff2 ar2 TT2 fr2 hm2 hg2 => ?_)
          rw [show ((j : Int) + ((2 * m * k : Nat) : Int)).toNat = j + 2 * m * k by omega] at hg2
          refine o_load lod_35 rfl hm2 hg2 ?_
          refine o_conv int_2 (by rw [Try.underlying35]; rfl) rfl (by first | exact IntWalk.i64_in _ (by omega) | rfl) ?_
          refine o_mul (c := polyP X m j k) rfl rfl (IntWalk.i64_in (polyP X m j k) (by omega)) ?_
          refine o_asg rfl ?_
          refine w_nil ?_
          refine w_seq ?_
          refine w_seq ?_
          refine w_region rfl ?_
          refine o_mov rfl ?_
          have htm : (k : Int).tmod 2 = (k : Int) % 2 := Int.tmod_eq_emod_of_nonneg (by omega)
          refine o_rem rfl rfl (by first | decide | omega) (by first | exact IntWalk.rem_in _ _ (by omega) | rfl) ?_
          refine o_eq rfl rfl ?_
          refine w_nil ?_
          refine w_cut_x (X := Int) (fun y => [(0, v), (1, .int .i64 m), (5, u), (8, vf), (9, uy), (10, .int .i64 j), (11, .int .i64 (sumN (polyR X m j) k)), (12, .int .i64 k), (13, .int .i64 y)]) (fun _ => [Hy, Hf, H, Ho, Hi]) (fun y => y = polyR X m j k) ?_ ?_
          · refine w_if_d rfl (fun he => ?_) (fun he => ?_)
            · refine w_region rfl ?_
              refine o_mov rfl ?_
              refine o_neg rfl (by first | exact IntWalk.i64_in _ (by omega) | rfl) ?_
              refine o_asg rfl ?_
              refine w_nil ?_
              exact w_again ⟨(0 - polyP X m j k), (by unfold polyR; rw [if_pos (by omega)]; omega), (by repeat (first | exact Sub.nil _ | refine Sub.cons rfl ?_)), (Take.sub (by repeat (first | exact Take.nil | exact Take.all _ | (apply Take.cons; focus (repeat (first | exact Pick.here | apply Pick.next))))))⟩
            · refine w_skip ?_
              exact w_again ⟨(polyP X m j k), (by unfold polyR; rw [if_neg (by omega)]), (by repeat (first | exact Sub.nil _ | refine Sub.cons rfl ?_)), (Take.sub (by repeat (first | exact Take.nil | exact Take.all _ | (apply Take.cons; focus (repeat (first | exact Pick.here | apply Pick.next))))))⟩
          · intro y hy
            subst hy
            refine w_region rfl ?_
            refine o_mov rfl ?_
            refine o_mov rfl ?_
            refine o_add rfl rfl (by first | exact IntWalk.i64_in _ (by omega) | rfl) ?_
            refine o_asg rfl ?_
            refine w_nil ?_
            refine w_inB ?_
            refine w_region rfl ?_
            refine o_mov rfl ?_
            refine o_add rfl rfl (by first | exact IntWalk.i64_in _ (by omega) | rfl) ?_
            refine o_asg rfl ?_
            refine w_nil ?_
            exact w_again ⟨(k + 1), (by omega), (by omega), (by repeat (first | exact Sub.nil _ | refine Sub.cons rfl ?_)), (Take.sub (by repeat (first | exact Take.nil | exact Take.all _ | (apply Take.cons; focus (repeat (first | exact Pick.here | apply Pick.next))))))⟩
        · obtain rfl : k = 5 := by omega
          have hsu := sumN_in (f := polyR X m j) (B := 1073741824) (by omega) 5 (fun q _ => polyR_in hXi hm j q)
          refine w_exit rfl ?_
          refine w_region rfl ?_
          refine o_mov rfl ?_
          refine o_mov rfl ?_
          refine o_call (ref8_round _ _ (by omega)) fn_50 rfl (by repeat (first | exact Take.nil | exact Take.all _ | (apply Take.cons; focus (repeat (first | exact Pick.here | apply Pick.next))))) ?_
          rintro v ho ⟨rfl, rfl⟩
          rw [show rsat (sumN (polyR X m j) 5) 14 = (yL X m).getD j 0 by rw [yL_get (by omega), polyR_sum]; rfl]
          refine o_bslN [_] slc_71 zer_2 (Nat.le_of_ble_eq_true rfl) rfl rfl (fun b5 => ?_)
          refine o_app1 slc_71 zer_2 rfl rfl rfl hY (by repeat (first | exact Pick.here | apply Pick.next)) (by repeat (first | exact Has.here | apply Has.next)) (Nat.le_of_ble_eq_true rfl) (by simp only [maxLen]; omega) (by omega) (fun v' H' hO3 => ?_)
          refine o_asg rfl ?_
          refine w_nil ?_
          refine w_inB ?_
          refine w_region rfl ?_
          refine o_mov rfl ?_
          refine o_add rfl rfl (by first | exact IntWalk.i64_in _ (by omega) | rfl) ?_
          refine o_asg rfl ?_
          refine w_nil ?_
          exact w_again ⟨(j + 1, v', H'), ⟨by simp only; omega, by rw [← take_get_step (by omega)]; exact hO3⟩, (by simp only; omega), (by repeat (first | exact Sub.nil _ | refine Sub.cons rfl ?_)), (Take.sub (by repeat (first | exact Take.nil | exact Take.all _ | (apply Take.cons; focus (repeat (first | exact Pick.here | apply Pick.next))))))⟩
      · simp only at hj hY hjl ⊢
        obtain rfl : j = 2 * m := by omega
        rw [List.take_of_length_le (Nat.le_of_eq hyl)] at hY
        refine w_exit rfl ?_
        refine w_seq ?_
        refine w_region rfl ?_
        refine o_asg rfl ?_
        refine w_nil ?_
        refine w_seq ?_
        refine w_seq ?_
        refine w_region rfl ?_
        refine o_mov rfl ?_
        refine o_eq rfl rfl ?_
        refine w_nil ?_
        refine w_cut_x (X := Int) (fun y => [(0, v), (1, .int .i64 m), (5, u), (8, vf), (9, uy), (14, .int .i64 y)]) (fun _ => [Hy, Hf, H, Ho, Hi]) (fun y => y = polyS m) ?_ ?_
        · refine w_if_d rfl (fun h8 => ?_) (fun h8 => ?_)
          · refine w_region rfl ?_
            refine o_asg rfl ?_
            refine w_nil ?_
            exact w_again ⟨18, (by unfold polyS; rw [if_pos (by omega)]), (by repeat (first | exact Sub.nil _ | refine Sub.cons rfl ?_)), (Take.sub (by repeat (first | exact Take.nil | exact Take.all _ | (apply Take.cons; focus (repeat (first | exact Pick.here | apply Pick.next))))))⟩
          · refine w_skip ?_
            exact w_again ⟨17, (by unfold polyS; rw [if_neg (by omega)]), (by repeat (first | exact Sub.nil _ | refine Sub.cons rfl ?_)), (Take.sub (by repeat (first | exact Take.nil | exact Take.all _ | (apply Take.cons; focus (repeat (first | exact Pick.here | apply Pick.next))))))⟩
        · intro y hy
          subst hy
          refine w_emp ?_
          refine w_seq ?_
          refine w_region rfl ?_
          refine o_asg rfl ?_
          refine w_nil ?_
          refine w_seq ?_
          refine w_seq ?_
          refine w_region rfl ?_
          refine o_asg rfl ?_
          refine w_nil ?_
          refine w_block ?_
          refine w_loop (X := Nat × Value × Hp) (fun x => [(0, v), (1, .int .i64 m), (5, u), (8, vf), (9, uy), (14, .int .i64 (polyS m)), (15, x.2.1), (16, .int .i64 x.1)]) (fun x => [x.2.2, Hy, Hf, H, Ho, Hi]) (fun x => x.1 ≤ m ∧ OwnI x.2.2 x.2.1 21 .i32 ((splitL X m).take x.1)) (fun x => m - x.1) (0, .slice none 0 0, []) ⟨by simp, OwnI.nil _ _⟩ (by repeat (first | exact Sub.nil _ | refine Sub.cons rfl ?_)) (Take.sub (by repeat (first | exact Take.nil | exact Take.all _ | (apply Take.cons; focus (repeat (first | exact Pick.here | apply Pick.next)))))) ?_
          rintro ⟨i, uo, Hq⟩ ⟨hi, hQ⟩
          refine w_seq ?_
          refine w_seq ?_
          refine w_region rfl ?_
          refine o_mov rfl ?_
          refine o_mov rfl ?_
          refine o_lt rfl rfl ?_
          refine w_nil ?_
          refine w_if_d rfl (fun hil => ?_) (fun hil => ?_)
          · simp only at hi hQ hil ⊢
            have hsli : ((splitL X m).take i).length = i := by rw [List.length_take]; omega
            refine w_skip ?_
            refine w_seq ?_
            refine w_block ?_
            refine w_seq ?_
            refine w_region rfl ?_
            refine o_asg rfl ?_
            refine w_nil ?_
            refine w_seq ?_
            refine w_seq ?_
            refine w_region rfl ?_
            refine o_asg rfl ?_
            refine w_nil ?_
            refine w_block ?_
            refine w_loop (X := Nat) (fun j => [(0, v), (1, .int .i64 m), (5, u), (8, vf), (9, uy), (14, .int .i64 (polyS m)), (15, uo), (16, .int .i64 i), (17, .int .i64 (sumN (polyQ X m i) j)), (18, .int .i64 j)]) (fun j => [Hq, Hy, Hf, H, Ho, Hi]) (fun j => j ≤ 2 * m) (fun j => 2 * m - j) 0 (by omega) (by repeat (first | exact Sub.nil _ | refine Sub.cons rfl ?_)) (Take.sub (by repeat (first | exact Take.nil | exact Take.all _ | (apply Take.cons; focus (repeat (first | exact Pick.here | apply Pick.next)))))) ?_
            intro j hj2
            refine w_seq ?_
            refine w_seq ?_
            refine w_region rfl ?_
            refine o_mov rfl ?_
            refine o_mov rfl ?_
            refine o_mul rfl rfl (by first | exact IntWalk.i64_in _ (by omega) | rfl) ?_
            refine o_lt rfl rfl ?_
            refine w_nil ?_
            refine w_if_d rfl (fun hjl2 => ?_) (fun hjl2 => ?_)
            · have hq := polyQ_in X hm i j
              have hsm := sumN_in (f := polyQ X m i) (B := 70368744177664) (by omega) j (fun q _ => polyQ_in X hm i q)
              have harg := arg_in hm (show i < m by omega) (show j < 2 * m by omega)
              refine w_skip ?_
              refine w_seq ?_
              refine w_block ?_
              refine w_cut_x (X := Unit) (fun _ => [(0, v), (1, .int .i64 m), (5, u), (8, vf), (9, uy), (14, .int .i64 (polyS m)), (15, uo), (16, .int .i64 i), (17, .int .i64 (sumN (polyQ X m i) (j + 1))), (18, .int .i64 j)]) (fun _ => [Hq, Hy, Hf, H, Ho, Hi]) (fun _ => True) ?_ ?_
              · refine w_plan (takes [0, 1, 2, 3, 5, 6, 7, 8, 9, 10, 11, 12] (.alt 4 (.alt 13 (takes [14, 15, 16] .done) .stop) (.alt 13 (takes [4, 14, 15, 16] .done) .stop))) mixed (by kernel_rfl) ?_
                refine wp_take _ _ ?_
                refine o_mov rfl ?_
                refine o_mov rfl ?_
                refine o_mov rfl ?_
                refine o_idxI hY.ints (by repeat (first | exact Has.here | apply Has.next)) slc_71 rfl rfl ⟨by omega, by omega⟩ (fun bb1 ff1 ar1 TT1 fr1 hm1 hg1 => ?_)
                refine o_mov rfl ?_
                refine o_mul rfl rfl (by first | exact IntWalk.i64_in _ (by omega) | rfl) ?_
                refine o_add rfl rfl (by first | exact IntWalk.i64_in _ (by omega) | rfl) ?_
                refine o_mov rfl ?_
                refine o_mul rfl rfl (by first | exact IntWalk.i64_in _ (by omega) | rfl) ?_
                refine o_mov rfl ?_
                refine o_sub rfl rfl (by first | exact IntWalk.i64_in _ (by omega) | rfl) ?_
                refine o_mov rfl ?_
                refine wl_nil ?_
                refine wp_alt ?_ ?_
                · refine o_load (v := .int .i64 ((yL X m).getD j 0)) lod_2 rfl hm1 hg1 ?_
                  refine wl_nil ?_
                  refine wp_alt ?_ ?_
                  · refine o_call (ref8_wave (2 * (i : Int) + 1) (2 * (j : Int) - m) m (by omega) (by omega)) fn_51 rfl (by repeat (first | exact Take.nil | exact Take.all _ | (apply Take.cons; focus (repeat (first | exact Pick.here | apply Pick.next))))) ?_
                    rintro v ho ⟨rfl, rfl⟩
                    refine wl_nil ?_
                    refine wp_take _ _ ?_
                    refine o_mul (c := polyQ X m i j) rfl rfl (by rw [yL_get (by omega)]; exact IntWalk.i64_in (polyQ X m i j) (by omega)) ?_
                    refine o_add rfl rfl (by first | exact IntWalk.i64_in _ (by omega) | rfl) ?_
                    refine o_asg rfl ?_
                    refine wl_nil ?_
                    refine wp_done ?_
                    exact w_again ⟨(), trivial, (by repeat (first | exact Sub.nil _ | refine Sub.cons rfl ?_)), (Take.sub (by repeat (first | exact Take.nil | exact Take.all _ | (apply Take.cons; focus (repeat (first | exact Pick.here | apply Pick.next))))))⟩
                  exact wp_stop
                refine wp_alt ?_ ?_
                · refine o_call (ref8_wave (2 * (i : Int) + 1) (2 * (j : Int) - m) m (by omega) (by omega)) fn_51 rfl (by repeat (first | exact Take.nil | exact Take.all _ | (apply Take.cons; focus (repeat (first | exact Pick.here | apply Pick.next))))) ?_
                  rintro v ho ⟨rfl, rfl⟩
                  refine wl_nil ?_
                  refine wp_take _ _ ?_
                  refine o_load (v := .int .i64 ((yL X m).getD j 0)) lod_2 rfl hm1 hg1 ?_
                  refine o_mul (c := polyQ X m i j) rfl rfl (by rw [yL_get (by omega)]; exact IntWalk.i64_in (polyQ X m i j) (by omega)) ?_
                  refine o_add rfl rfl (by first | exact IntWalk.i64_in _ (by omega) | rfl) ?_
                  refine o_asg rfl ?_
                  refine wl_nil ?_
                  refine wp_done ?_
                  exact w_again ⟨(), trivial, (by repeat (first | exact Sub.nil _ | refine Sub.cons rfl ?_)), (Take.sub (by repeat (first | exact Take.nil | exact Take.all _ | (apply Take.cons; focus (repeat (first | exact Pick.here | apply Pick.next))))))⟩
                exact wp_stop
              intro _ _
              refine w_inB ?_
              refine w_region rfl ?_
              refine o_mov rfl ?_
              refine o_add rfl rfl (by first | exact IntWalk.i64_in _ (by omega) | rfl) ?_
              refine o_asg rfl ?_
              refine w_nil ?_
              exact w_again ⟨(j + 1), (by omega), (by omega), (by repeat (first | exact Sub.nil _ | refine Sub.cons rfl ?_)), (Take.sub (by repeat (first | exact Take.nil | exact Take.all _ | (apply Take.cons; focus (repeat (first | exact Pick.here | apply Pick.next))))))⟩
            · obtain rfl : j = 2 * m := by omega
              have hsm := sumN_in (f := polyQ X m i) (B := 70368744177664) (by omega) (2 * m) (fun q _ => polyQ_in X hm i q)
              have hrs := rsat_in (sumN (polyQ X m i) (2 * m)) (polyS m)
              refine w_exit rfl ?_
              refine w_region rfl ?_
              refine o_mov rfl ?_
              refine o_mov rfl ?_
              refine o_mov rfl ?_
              refine o_call (ref8_round _ _ (by omega)) fn_50 rfl (by repeat (first | exact Take.nil | exact Take.all _ | (apply Take.cons; focus (repeat (first | exact Pick.here | apply Pick.next))))) ?_
              rintro v ho ⟨rfl, rfl⟩
              refine o_conv int_21 (by rw [Try.underlying2]; rfl) rfl (by first | exact IntWalk.i32_in _ (by omega) | rfl) ?_
              rw [← split_sum, ← splitL_get (show i < m by omega)]
              refine o_bslN [_] slc_43 zer_21 (Nat.le_of_ble_eq_true rfl) rfl rfl (fun b9 => ?_)
              refine o_app1 slc_43 zer_21 rfl rfl rfl hQ (by repeat (first | exact Pick.here | apply Pick.next)) (by repeat (first | exact Has.here | apply Has.next)) (Nat.le_of_ble_eq_true rfl) (by simp only [maxLen]; omega) (by omega) (fun v' H' hO3 => ?_)
              refine o_asg rfl ?_
              refine w_nil ?_
              refine w_inB ?_
              refine w_region rfl ?_
              refine o_mov rfl ?_
              refine o_add rfl rfl (by first | exact IntWalk.i64_in _ (by omega) | rfl) ?_
              refine o_asg rfl ?_
              refine w_nil ?_
              exact w_again ⟨(i + 1, v', H'), ⟨by simp only; omega, by rw [← take_get_step (by omega)]; exact hO3⟩, (by simp only; omega), (by repeat (first | exact Sub.nil _ | refine Sub.cons rfl ?_)), (Take.sub (by repeat (first | exact Take.nil | exact Take.all _ | (apply Take.cons; focus (repeat (first | exact Pick.here | apply Pick.next))))))⟩
          · simp only at hi hQ hil ⊢
            obtain rfl : m = i := by omega
            rw [List.take_of_length_le (Nat.le_of_eq hsl)] at hQ
            refine w_exit rfl ?_
            refine w_seq ?_
            refine w_region rfl ?_
            refine o_mov rfl ?_
            refine o_asg rfl ?_
            refine w_nil ?_
            exact w_ret (ret1 rfl rfl) ⟨Hq, hQ, rfl⟩ (Take.sub (by repeat (first | exact Take.nil | exact Take.all _ | (apply Take.cons; focus (repeat (first | exact Pick.here | apply Pick.next))))))

theorem same_i32 {v1 v2 : Value} {xs ys : List Int} {A1 A2 : Hp} (h1 : Ints A1 v1 .i32 xs) (h2 : Ints A2 v2 .i32 ys) : Ctr Try.prog 21 [v1, v2] ([A1, A2]) (fun v ho => v = .bool (decide (xs = ys)) ∧ ho = [A1, A2]) := by
  refine spec_of Try.func21 rfl rfl fun w0 L => ?_
  refine w_seq ?_
  refine w_region rfl ?_
  refine o_asg rfl ?_
  refine w_nil ?_
  refine w_seq ?_
  refine w_seq ?_
  refine w_region rfl ?_
  refine o_mov rfl ?_
  refine o_lenI h1 slc_43 rfl ?_
  refine o_mov rfl ?_
  refine o_lenI h2 slc_43 rfl ?_
  refine o_ne rfl rfl ?_
  refine w_nil ?_
  refine w_if_d rfl (fun hl => ?_) (fun hl => ?_)
  · refine w_seq ?_
    refine w_region rfl ?_
    refine o_asg rfl ?_
    refine w_nil ?_
    exact w_ret (ret1 rfl rfl) ⟨by rw [decide_eq_false (fun he => hl (by rw [he]))], rfl⟩ (HSub.refl _)
  · have hl : xs.length = ys.length := by omega
    have hmax := h1.2.1
    refine w_skip ?_
    refine w_seq ?_
    refine w_seq ?_
    refine w_region rfl ?_
    refine o_asg rfl ?_
    refine w_nil ?_
    refine w_block ?_
    refine w_loop (X := Nat) (fun i => [(0, v1), (1, v2), (5, .int .i64 i)]) (fun _ => [A1, A2]) (fun i => i ≤ xs.length ∧ ∀ k, k < i → xs.getD k 0 = ys.getD k 0) (fun i => xs.length - i) 0 ⟨by omega, fun k hk => by omega⟩ (by repeat (first | exact Sub.nil _ | refine Sub.cons rfl ?_)) (Take.sub (by repeat (first | exact Take.nil | exact Take.all _ | (apply Take.cons; focus (repeat (first | exact Pick.here | apply Pick.next)))))) ?_
    rintro i ⟨hi, heq⟩
    refine w_seq ?_
    refine w_seq ?_
    refine w_region rfl ?_
    refine o_mov rfl ?_
    refine o_mov rfl ?_
    refine o_lenI h1 slc_43 rfl ?_
    refine o_lt rfl rfl ?_
    refine w_nil ?_
    refine w_if_d rfl (fun hlt => ?_) (fun hlt => ?_)
    · refine w_skip ?_
      refine w_seq ?_
      refine w_block ?_
      refine w_seq ?_
      refine w_any [0, 1, 2, 3, 4, 5, 6, 7, 8] mixed (by kernel_rfl) ?_
      refine o_mov rfl ?_
      refine o_mov rfl ?_
      refine o_idxI h1 (by repeat (first | exact Has.here | apply Has.next)) slc_43 rfl rfl ⟨by omega, by omega⟩ (fun bb1 ff1 ar1 TT1 fr1 hm1 hg1 => ?_)
      refine o_load lod_21 rfl hm1 hg1 ?_
      refine o_mov rfl ?_
      refine o_mov rfl ?_
      refine o_idxI h2 (by repeat (first | exact Has.here | apply Has.next)) slc_43 rfl rfl ⟨by omega, by omega⟩ (fun bb2 ff2 ar2 TT2 fr2 hm2 hg2 => ?_)
      refine o_load lod_21 rfl hm2 hg2 ?_
      refine o_ne rfl rfl ?_
      refine w_nil ?_
      refine w_if_d rfl (fun hne => ?_) (fun hne => ?_)
      · refine w_seq ?_
        refine w_region rfl ?_
        refine o_asg rfl ?_
        refine w_nil ?_
        exact w_ret (ret1 rfl rfl) ⟨by rw [decide_eq_false (fun he => hne (by rw [he]))], rfl⟩ (HSub.refl _)
      · refine w_skip ?_
        refine w_inB ?_
        refine w_region rfl ?_
        refine o_mov rfl ?_
        refine o_add rfl rfl (by first | exact IntWalk.i64_in _ (by omega) | rfl) ?_
        refine o_asg rfl ?_
        refine w_nil ?_
        exact w_again ⟨(i + 1), ⟨by omega, fun k hk => by rcases Nat.lt_succ_iff_lt_or_eq.1 hk with h | h; exact heq k h; subst h; simpa using hne⟩, (by omega), (by repeat (first | exact Sub.nil _ | refine Sub.cons rfl ?_)), (Take.sub (by repeat (first | exact Take.nil | exact Take.all _ | (apply Take.cons; focus (repeat (first | exact Pick.here | apply Pick.next))))))⟩
    · refine w_exit rfl ?_
      refine w_seq ?_
      refine w_region rfl ?_
      have he : xs = ys := List.ext_getElem hl fun k a b => by have := heq k (by omega); simpa [a, b] using this
      refine o_asg rfl ?_
      refine w_nil ?_
      exact w_ret (ret1 rfl rfl) ⟨by rw [decide_eq_true he], rfl⟩ (HSub.refl _)

end Go.Proofs.Ytjmnidcfgkdhcaa
