/- The laws of chapter 4: alive; nothing asked of no bank. No condition but that numbers are of their kinds. -/
import Derived.Test.YtjmnidcfgkdhcaaTy
import Derived.Test.YtjmnidcfgkdhcaaFf
namespace Go.Proofs.Ytjmnidcfgkdhcaa
open Go.Eng
set_option linter.unusedVariables false
set_option linter.unusedSimpArgs false
set_option maxRecDepth 20000
attribute [local irreducible] WL WT
theorem alive04  : Ctr Try.prog 11 [] ([]) (fun v ho => v = .bool true ∧ ho = []) := by
  refine spec_of Try.func11 rfl rfl fun w0 L => ?_
  refine w_seq ?_
  refine w_region rfl ?_
  refine o_asg rfl ?_
  refine w_nil ?_
  refine w_seq ?_
  refine w_region rfl ?_
  refine o_call (bank_New) fn_12 rfl (by repeat (first | exact Take.nil | exact Take.all _ | (apply Take.cons; focus (repeat (first | exact Pick.here | apply Pick.next))))) ?_
  rintro v ho ⟨b, rfl, rfl⟩
  refine o_asg rfl ?_
  refine w_nil ?_
  refine w_emp ?_
  refine w_seq ?_
  refine w_region rfl ?_
  refine o_mov rfl ?_
  refine o_call (bank_Turn (T := 98) (n := 4) BankRep.new (by omega) (by omega) (by omega) (by omega) (by omega)) fn_40 rfl (by repeat (first | exact Take.nil | exact Take.all _ | (apply Take.cons; focus (repeat (first | exact Pick.here | apply Pick.next))))) ?_
  rintro v ho ⟨l, ar1, Tb1, H1, rfl, hn1, hO1, hB1, rfl⟩
  have hB1 : BankRep ar1 Tb1 (fun j => j == 4 / 4 || false) 1 1 := hB1
  refine o_mov rfl ?_
  refine o_ext rfl rfl ?_
  refine o_ext rfl rfl ?_
  refine o_asg rfl ?_
  refine o_asg rfl ?_
  refine w_nil ?_
  refine w_seq ?_
  refine w_region rfl ?_
  refine o_mov rfl ?_
  refine o_call (bank_Turn (T := 98) (n := 4) hB1 (by omega) (by omega) (by omega) (by omega) (by omega)) fn_40 rfl (by repeat (first | exact Take.nil | exact Take.all _ | (apply Take.cons; focus (repeat (first | exact Pick.here | apply Pick.next))))) ?_
  rintro v ho ⟨l2, ar2, Tb2, H2, rfl, hn2, hO2, hB2, rfl⟩
  have hB2 : BankRep ar2 Tb2 (fun j => j == 4 / 4 || (j == 4 / 4 || false)) 1 2 := hB2
  refine w_nil ?_
  refine w_seq ?_
  refine w_region rfl ?_
  refine o_mov rfl ?_
  refine o_call (bank_Slope (T := 98) (n := 1) hB2 (by omega) (by omega) (by omega) (by omega)) fn_41 rfl (by repeat (first | exact Take.nil | exact Take.all _ | (apply Take.cons; focus (repeat (first | exact Pick.here | apply Pick.next))))) ?_
  rintro v ho ⟨l3, ar3, Tb3, H3, rfl, hn3, hO3, hB3, rfl⟩
  have hB3 : BankRep ar3 Tb3 (fun j => j == 257 + 1 || (j == 4 / 4 || (j == 4 / 4 || false))) 2 3 := hB3
  refine w_nil ?_
  refine w_seq ?_
  refine w_region rfl ?_
  refine o_mov rfl ?_
  refine o_call (bank_Filter_bad (T := 98) hB3 (by omega) (by omega) 5 (by omega) (by omega)) fn_42 rfl (by repeat (first | exact Take.nil | exact Take.all _ | (apply Take.cons; focus (repeat (first | exact Pick.here | apply Pick.next))))) ?_
  rintro v ho ⟨rfl, rfl⟩
  refine o_mov rfl ?_
  refine o_ext rfl rfl ?_
  refine o_ext rfl rfl ?_
  refine o_asg rfl ?_
  refine o_asg rfl ?_
  refine w_nil ?_
  refine w_seq ?_
  refine w_region rfl ?_
  refine o_mov rfl ?_
  refine o_eq_t rfl rfl (by omega) ?_
  refine o_mov rfl ?_
  refine o_yes rfl rfl ?_
  refine o_mov rfl ?_
  refine o_yes rfl rfl ?_
  refine o_bslN [_, _, _, _] slc_26 zer_35 (Nat.le_of_ble_eq_true rfl) rfl rfl (fun b6 => ?_)
  refine o_yes rfl rfl ?_
  refine o_call (same_i16 hO1.ints (OwnI.mk_ (b := b6) (el := 35) (k := .i16) (xs := [32767, 0, -32767, 0]) (by decide)).ints) fn_14 rfl (by repeat (first | exact Take.nil | exact Take.all _ | (apply Take.cons; focus (repeat (first | exact Pick.here | apply Pick.next))))) ?_
  rintro v ho ⟨rfl, rfl⟩
  rw [decide_eq_true turn4]
  refine o_pick_t rfl rfl ?_
  refine o_mov rfl ?_
  refine o_yes rfl rfl ?_
  refine o_mov rfl ?_
  refine o_yes rfl rfl ?_
  refine o_call (bank_Made (T := 98) hB3.made) fn_15 rfl (by repeat (first | exact Take.nil | exact Take.all _ | (apply Take.cons; focus (repeat (first | exact Pick.here | apply Pick.next))))) ?_
  rintro v ho ⟨rfl, rfl⟩
  refine o_yes rfl rfl ?_
  refine o_eq_t rfl rfl (by omega) ?_
  refine o_pick_t rfl rfl ?_
  refine o_mov rfl ?_
  refine o_yes rfl rfl ?_
  refine o_mov rfl ?_
  refine o_yes rfl rfl ?_
  refine o_call (bank_Told (T := 98) hB3.told) fn_16 rfl (by repeat (first | exact Take.nil | exact Take.all _ | (apply Take.cons; focus (repeat (first | exact Pick.here | apply Pick.next))))) ?_
  rintro v ho ⟨rfl, rfl⟩
  refine o_yes rfl rfl ?_
  refine o_eq_t rfl rfl (by omega) ?_
  refine o_pick_t rfl rfl ?_
  refine o_mov rfl ?_
  refine o_yes rfl rfl ?_
  refine o_mov rfl ?_
  refine o_yes rfl rfl ?_
  refine o_eq_t rfl rfl (by omega) ?_
  refine o_pick_t rfl rfl ?_
  refine o_asg rfl ?_
  refine w_nil ?_
  exact w_ret (ret1 rfl rfl) ⟨rfl, rfl⟩ (Take.sub (by repeat (first | exact Take.nil | exact Take.all _ | (apply Take.cons; focus (repeat (first | exact Pick.here | apply Pick.next))))))

theorem BankNil_ctr (q n : Int) (hw : -9223372036854775808 ≤ n ∧ n ≤ 9223372036854775807) : Ctr Try.prog 5 [.agg #[.int .i64 q, .int .i64 n]] ([]) (fun v ho => v = .bool true ∧ ho = []) := by
  refine spec_of Try.func5 rfl rfl fun w0 L => ?_
  refine w_seq ?_
  refine w_region rfl ?_
  refine o_box rfl (fun b1 => ?_)
  refine o_asg rfl ?_
  refine w_nil ?_
  refine w_seq ?_
  refine w_seq ?_
  refine w_region rfl ?_
  refine o_call (alive04) fn_11 rfl (by repeat (first | exact Take.nil | exact Take.all _ | (apply Take.cons; focus (repeat (first | exact Pick.here | apply Pick.next))))) ?_
  rintro v ho ⟨rfl, rfl⟩
  refine o_not rfl ?_
  refine w_nil ?_
  refine w_if_f rfl ?_
  refine w_skip ?_
  refine w_seq ?_
  refine w_region rfl ?_
  refine o_loadN lod_31 rfl (by repeat (first | exact At.here | (refine At.inA ?_; assumption) | apply At.next)) (by first | exact Nat.le_of_ble_eq_true rfl | decide | (simp; done) | omega) rfl ?_
  refine o_call (ask_nil _ _ hw) fn_13 rfl (by repeat (first | exact Take.nil | exact Take.all _ | (apply Take.cons; focus (repeat (first | exact Pick.here | apply Pick.next))))) ?_
  rintro v ho ⟨w, H, rfl, rfl⟩
  refine o_mov rfl ?_
  refine o_ext rfl rfl ?_
  refine o_ext rfl rfl ?_
  refine o_ext rfl rfl ?_
  refine o_asg rfl ?_
  refine o_asg rfl ?_
  refine o_asg rfl ?_
  refine w_nil ?_
  refine w_seq ?_
  refine w_region rfl ?_
  refine o_asg rfl ?_
  refine w_nil ?_
  refine w_seq ?_
  refine w_region rfl ?_
  refine o_mov rfl ?_
  refine o_len slc_26 rfl ?_
  refine o_eq_t rfl rfl (by omega) ?_
  refine o_mov rfl ?_
  refine o_yes rfl rfl ?_
  refine o_mov rfl ?_
  refine o_yes rfl rfl ?_
  refine o_eq_t rfl rfl (by omega) ?_
  refine o_pick_t rfl rfl ?_
  refine o_mov rfl ?_
  refine o_yes rfl rfl ?_
  refine o_mov rfl ?_
  refine o_yes rfl rfl ?_
  refine o_call (bank_Made_nil) fn_15 rfl (by repeat (first | exact Take.nil | exact Take.all _ | (apply Take.cons; focus (repeat (first | exact Pick.here | apply Pick.next))))) ?_
  rintro v ho ⟨rfl, rfl⟩
  refine o_yes rfl rfl ?_
  refine o_mov rfl ?_
  refine o_yes rfl rfl ?_
  refine o_call (bank_Told_nil) fn_16 rfl (by repeat (first | exact Take.nil | exact Take.all _ | (apply Take.cons; focus (repeat (first | exact Pick.here | apply Pick.next))))) ?_
  rintro v ho ⟨rfl, rfl⟩
  refine o_yes rfl rfl ?_
  refine o_add rfl rfl (by first | exact IntWalk.i64_in _ (by omega) | rfl) ?_
  refine o_yes rfl rfl ?_
  refine o_eq_t rfl rfl (by omega) ?_
  refine o_pick_t rfl rfl ?_
  refine o_asg rfl ?_
  refine w_nil ?_
  exact w_ret (ret1 rfl rfl) ⟨rfl, rfl⟩ (Take.sub (by repeat (first | exact Take.nil | exact Take.all _ | (apply Take.cons; focus (repeat (first | exact Pick.here | apply Pick.next))))))

end Go.Proofs.Ytjmnidcfgkdhcaa
