/- Contracts: numbers cut in blocks. No condition but on the counts. -/
import Derived.Test.YtjmnidcfgkdhcaaTy
import Derived.Test.YtjmnidcfgkdhcaaFm
import Derived.Test.YtjmnidcfgkdhcaaFl
import Derived.Test.YtjmnidcfgkdhcaaEj
namespace Go.Proofs.Ytjmnidcfgkdhcaa
open Go.Eng
set_option linter.unusedVariables false
set_option linter.unusedSimpArgs false
set_option maxRecDepth 20000
attribute [local irreducible] WL WT
theorem cut_i16 {lv : Value} {xs : List Int} {A : Hp} {m : Nat} (hx : Ints A lv .i16 xs) (hl : xs.length ≤ 100000) (hm : 1 ≤ m ∧ m ≤ 1000) : Ctr Try.prog 19 [lv, .int .i64 m] ([A]) (fun v ho => ∃ Ho Hi, Rows2 Ho Hi v 26 .i16 (cutL xs m) ∧ ho = [Ho, Hi, A]) := by
  obtain ⟨pl, cl, rfl, hlc⟩ := Rd.slice hx
  refine spec_of Try.func19 rfl rfl fun w0 L => ?_
  refine w_emp ?_
  refine w_emp ?_
  refine w_seq ?_
  refine w_region rfl ?_
  refine o_asg rfl ?_
  refine w_nil ?_
  refine w_seq ?_
  refine w_region rfl ?_
  refine o_asg rfl ?_
  refine w_nil ?_
  refine w_seq ?_
  refine w_seq ?_
  refine w_region rfl ?_
  refine o_asg (v := .int .i64 ((0 * m : Nat) : Int)) (by simp [ev, compX]) ?_
  refine w_nil ?_
  refine w_block ?_
  refine w_loop (X := Nat × Value × Hp × Hp) (fun x => [(0, .slice pl xs.length cl), (1, .int .i64 m), (5, x.2.1), (6, .int .i64 (x.1 * m : Nat))]) (fun x => [x.2.2.1, x.2.2.2, A]) (fun x => x.1 * m ≤ xs.length ∧ Rows2 x.2.2.1 x.2.2.2 x.2.1 26 .i16 ((List.range x.1).map (blkL xs m))) (fun x => xs.length - x.1) (0, .slice none 0 0, [], []) ⟨by simp, Rows2.nil _ _⟩ (by repeat (first | exact Sub.nil _ | refine Sub.cons rfl ?_)) (Take.sub (by repeat (first | exact Take.nil | exact Take.all _ | (apply Take.cons; focus (repeat (first | exact Pick.here | apply Pick.next)))))) ?_
  rintro ⟨j, vo, Ho, Hi⟩ ⟨hj, hR⟩
  refine w_seq ?_
  refine w_seq ?_
  refine w_region rfl ?_
  refine o_mov rfl ?_
  refine o_mov rfl ?_
  refine o_add rfl rfl (by first | exact IntWalk.i64_in _ (by omega) | rfl) ?_
  refine o_mov rfl ?_
  refine o_len slc_26 rfl ?_
  refine o_le rfl rfl ?_
  refine w_nil ?_
  refine w_if_d rfl (fun hjl => ?_) (fun hjl => ?_)
  · simp only at hj hR hjl ⊢
    have hjm : j ≤ j * m := Nat.le_mul_of_pos_right j (by omega)
    obtain ⟨ws, hOw, hws⟩ := hR
    simp only [List.length_map, List.length_range] at hOw
    refine w_skip ?_
    refine w_seq ?_
    refine w_block ?_
    refine w_region rfl ?_
    refine o_mov rfl ?_
    refine o_bsl slc_26 zer_35 (Nat.le_of_ble_eq_true rfl) rfl rfl (fun b1 => ?_)
    refine o_mov rfl ?_
    refine o_mov rfl ?_
    refine o_mov rfl ?_
    refine o_mov rfl ?_
    refine o_add rfl rfl (by first | exact IntWalk.i64_in _ (by omega) | rfl) ?_
    refine o_slS (i := ((j * m : Nat) : Int)) (j := ((j * m : Nat) : Int) + m) slc_26 rfl ⟨_, rfl⟩ ⟨_, rfl⟩ ⟨by omega, by omega, by omega⟩ ?_
    rw [show ((j * m : Nat) : Int).toNat = j * m by omega, show (((j * m : Nat) : Int) + m).toNat - j * m = j * m + m - j * m by omega]
    have hpart := Rd.part hx (show j * m ≤ j * m + m by omega) (show j * m + m ≤ xs.length by omega)
    refine o_app (cs := []) (m0 := 0) slc_26 zer_35 rfl rfl rfl (Own.empty _ _ _ _) (by repeat (first | exact Pick.here | apply Pick.next)) hpart (by repeat (first | exact Has.here | apply Has.next)) (fun u hu => one_ints _ _ u (List.mem_of_mem_drop (List.mem_of_mem_take hu))) (by simp only [maxLen]; omega) (by omega) (fun v' H' hO hn => ?_)
    have hI : Ints H' v' .i16 (blkL xs m j) := by have h9 := hO.rd; unfold Ints; rw [blkL_len (by omega)]; simpa [blkL, List.map_take, List.map_drop] using h9
    obtain ⟨pv, cv, rfl, -⟩ := Rd.slice hI
    refine o_bslN [_] slc_41 zer_26 (Nat.le_of_ble_eq_true rfl) rfl rfl (fun b2 => ?_)
    refine o_appS [.slice pv _ cv] slc_41 zer_26 rfl rfl rfl hOw (by repeat (first | exact Pick.here | apply Pick.next)) rfl (by repeat (first | exact Has.here | apply Has.next)) rfl (Nat.le_of_ble_eq_true rfl) (by simp only [maxLen]; omega) (by omega) (fun v2 H2 hO2 => ?_)
    refine o_asg rfl ?_
    refine w_nil ?_
    refine w_inB ?_
    refine w_region rfl ?_
    have hlw : ws.length = j := by simpa using hOw.1
    have hR2 := Rows2.push (el := 26) (bs := (List.range j).map (blkL xs m)) (fun i hi => hws i hi) (by simpa using hlw) (by simpa using hO2) hI
    refine o_mov rfl ?_
    refine o_mov rfl ?_
    refine o_add rfl rfl (by first | exact IntWalk.i64_in _ (by omega) | rfl) ?_
    rw [show ((j * m : Nat) : Int) + m = (((j + 1) * m : Nat) : Int) by rw [Nat.add_mul, Nat.one_mul]; omega]
    refine o_asg rfl ?_
    refine w_nil ?_
    refine WT.sub (h' := H' :: Hi :: H2 :: A :: []) ?_ (Sub.refl _) (Take.sub (by repeat (first | exact Take.nil | exact Take.all _ | (apply Take.cons; focus (repeat (first | exact Pick.here | apply Pick.next))))))
    refine w_merge ?_
    exact w_again ⟨(j + 1, v2, H2, H' ++ Hi), ⟨by simp only; rw [Nat.add_mul, Nat.one_mul]; omega, by rw [List.range_succ, List.map_append]; exact hR2⟩, (by simp only; omega), (by repeat (first | exact Sub.nil _ | refine Sub.cons rfl ?_)), (Take.sub (by repeat (first | exact Take.nil | exact Take.all _ | (apply Take.cons; focus (repeat (first | exact Pick.here | apply Pick.next))))))⟩
  · simp only at hj hR hjl
    obtain rfl := cut_end (by omega) hj (by omega)
    refine w_exit rfl ?_
    refine w_seq ?_
    refine w_region rfl ?_
    refine o_mov rfl ?_
    refine o_asg rfl ?_
    refine w_nil ?_
    exact w_ret (ret1 rfl rfl) ⟨Ho, Hi, hR, rfl⟩ (Take.sub (by repeat (first | exact Take.nil | exact Take.all _ | (apply Take.cons; focus (repeat (first | exact Pick.here | apply Pick.next))))))

end Go.Proofs.Ytjmnidcfgkdhcaa
