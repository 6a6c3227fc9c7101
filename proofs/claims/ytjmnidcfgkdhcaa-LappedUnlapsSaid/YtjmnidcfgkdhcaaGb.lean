/- Contracts of the layer lapped: windows, tables, a new lapper, a new unlapper. No condition but on the sizes. -/
import Derived.Test.YtjmnidcfgkdhcaaTy
import Derived.Test.YtjmnidcfgkdhcaaGa
namespace Go.Proofs.Ytjmnidcfgkdhcaa
open Go.Eng
set_option linter.unusedVariables false
set_option linter.unusedSimpArgs false
set_option maxRecDepth 20000
attribute [local irreducible] WL WT
theorem lapped_Window {b : Nat} {ar : Array Value} {T : TypeId} {Tb : Hp} {s : Nat → Bool} {made told : Int} (hr : BankRep ar Tb s made told) (hmade : 0 ≤ made ∧ made ≤ 900000000) (htold : 0 ≤ told ∧ told ≤ 900000000){n : Nat} (hn : n = 40 ∨ n = 60 ∨ n = 80 ∨ n = 120) : Ctr Try.prog 33 [.pointer (some ⟨b, 0, none⟩), .int .i64 n] ([[(b, .cells (ar) T (0, 0))], Tb]) (fun v ho => ∃ v1 ar' Tb' H' s' made' told', v = .tuple #[v1, .int .i64 0] ∧ OwnI H' v1 35 .i16 (winL n) ∧ BankRep ar' Tb' s' made' told' ∧ made ≤ made' ∧ made' ≤ made + 1 ∧ told ≤ told' ∧ told' ≤ told + 1 ∧ ho = [H', [(b, .cells (ar') T (0, 0))], Tb']) := by
  refine spec_of Try.func33 rfl rfl fun w0 L => ?_
  refine w_seq ?_
  refine w_region rfl ?_
  refine o_asg rfl ?_
  refine o_asg rfl ?_
  refine w_nil ?_
  refine w_seq ?_
  refine w_region rfl ?_
  refine o_call (lengths_arr) fn_64 rfl (by repeat (first | exact Take.nil | exact Take.all _ | (apply Take.cons; focus (repeat (first | exact Pick.here | apply Pick.next))))) ?_
  rintro v ho ⟨rfl, rfl⟩
  refine o_alloc zer_124 (fun b2 => ?_)
  refine o_storeN siz_124 rfl rfl rfl (by repeat (first | exact Upd.here | apply Upd.next)) (by first | exact Nat.le_of_ble_eq_true rfl | decide | (simp; done) | omega) (by first | rfl | simp) ?_
  refine w_nil ?_
  refine w_seq ?_
  refine w_seq ?_
  refine w_region rfl ?_
  refine o_slA arr_124 rfl ?_
  refine o_mov rfl ?_
  refine o_call (slices_Contains (Ints.arr (k := .i64) (xs := [40, 60, 80, 120]) (by decide)) _) fn_65 rfl (by repeat (first | exact Take.nil | exact Take.all _ | (apply Take.cons; focus (repeat (first | exact Pick.here | apply Pick.next))))) ?_
  rintro v ho ⟨rfl, rfl⟩
  rw [decide_eq_true (show (n : Int) ∈ [40, 60, 80, 120] by simp only [List.mem_cons, List.not_mem_nil, or_false]; omega)]
  refine o_not rfl ?_
  refine w_nil ?_
  refine w_if_f rfl ?_
  refine w_skip ?_
  refine w_seq ?_
  refine w_region rfl ?_
  refine o_mov rfl ?_
  refine o_mov rfl ?_
  refine o_quo (c := ((n / 2 : Nat) : Int)) rfl rfl (by decide) (by rcases hn with rfl | rfl | rfl | rfl <;> rfl) ?_
  refine o_call (bank_Slope (T := T) (n := n / 2) hr (by omega) (by omega) (by omega) (by omega)) fn_41 rfl (by repeat (first | exact Take.nil | exact Take.all _ | (apply Take.cons; focus (repeat (first | exact Pick.here | apply Pick.next))))) ?_
  rintro v ho ⟨vs, ar1, Tb1, Hs, rfl, -, hOs, hB1, rfl⟩
  refine o_mov rfl ?_
  refine o_ext rfl rfl ?_
  refine o_ext rfl rfl ?_
  refine o_asg rfl ?_
  refine o_asg rfl ?_
  refine w_nil ?_
  refine w_seq ?_
  refine w_seq ?_
  refine w_region rfl ?_
  refine o_mov rfl ?_
  refine o_ne_f rfl rfl (by omega) ?_
  refine w_nil ?_
  refine w_if_f rfl ?_
  refine w_skip ?_
  refine w_seq ?_
  refine w_region rfl ?_
  refine o_mov rfl ?_
  refine o_quo (c := ((n / 4 : Nat) : Int)) rfl rfl (by decide) (by rcases hn with rfl | rfl | rfl | rfl <;> rfl) ?_
  refine o_mov rfl ?_
  refine o_mul rfl rfl (by first | exact IntWalk.i64_in _ (by omega) | rfl) ?_
  refine o_mks slc_26 zer_35 rfl rfl (by omega) (by omega) (by omega) (by omega) (fun b5 => ?_)
  rw [Int.toNat_natCast, show (2 * (n : Int)).toNat = 2 * n by omega, show madeCells _ (2 * n * 1) = ints .i16 (List.replicate (2 * n) 0) from by rw [Nat.mul_one]; exact ints_made _ _]
  refine o_asg rfl ?_
  refine w_nil ?_
  refine w_seq ?_
  refine w_region rfl ?_
  have hO0 : OwnI [(b5, .cells (ints .i16 (List.replicate (2 * n) 0)) 35 (0, 0))] (.slice (some ⟨b5, 0, none⟩) (n / 4) (2 * n)) 35 .i16 (List.replicate (n / 4) 0) := OwnI.spare (by omega) (by omega)
  refine o_mov rfl ?_
  refine o_mov rfl ?_
  refine o_app slc_26 zer_35 rfl rfl rfl hO0 (by repeat (first | exact Pick.here | apply Pick.next)) hOs.ints (by repeat (first | exact Has.here | apply Has.next)) (one_ints _ _) (by simp only [List.length_append, List.length_replicate, slopeL_len, List.length_reverse, halfL_len hn, maxLen]; omega) (by simp only [List.length_append, List.length_replicate, slopeL_len, List.length_reverse, halfL_len hn, maxLen]; omega) (fun v' H' hO1 _ => ?_)
  have hO1 := OwnI.app hO1
  refine o_asg rfl ?_
  refine w_nil ?_
  refine w_seq ?_
  refine w_region rfl ?_
  refine o_mov rfl ?_
  refine o_bslN [_] slc_26 zer_35 (Nat.le_of_ble_eq_true rfl) rfl rfl (fun b6 => ?_)
  refine o_mov rfl ?_
  refine o_quo (c := ((n / 4 : Nat) : Int)) rfl rfl (by decide) (by rcases hn with rfl | rfl | rfl | rfl <;> rfl) ?_
  refine o_call (repeat_i16 (a := 32767) (c := n / 4) (Ints.arr (k := .i16) (xs := [32767]) (by decide)) (by omega)) fn_66 rfl (by repeat (first | exact Take.nil | exact Take.all _ | (apply Take.cons; focus (repeat (first | exact Pick.here | apply Pick.next))))) ?_
  rintro v ho ⟨Hr, hOr, rfl⟩
  refine o_app slc_26 zer_35 rfl rfl rfl hO1 (by repeat (first | exact Pick.here | apply Pick.next)) hOr.ints (by repeat (first | exact Has.here | apply Has.next)) (one_ints _ _) (by simp only [List.length_append, List.length_replicate, slopeL_len, List.length_reverse, halfL_len hn, maxLen]; omega) (by simp only [List.length_append, List.length_replicate, slopeL_len, List.length_reverse, halfL_len hn, maxLen]; omega) (fun v' H' hO2 _ => ?_)
  have hO2 : OwnI H' v' 35 .i16 (halfL n) := OwnI.app hO2
  refine o_asg rfl ?_
  refine w_nil ?_
  refine w_seq ?_
  refine w_region rfl ?_
  refine o_mov rfl ?_
  refine o_call (clone_i16 hO2.ints (by rw [halfL_len hn]; omega)) fn_67 rfl (by repeat (first | exact Take.nil | exact Take.all _ | (apply Take.cons; focus (repeat (first | exact Pick.here | apply Pick.next))))) ?_
  rintro vb ho ⟨-, Hb, hOb, rfl⟩
  refine o_asg rfl ?_
  refine w_nil ?_
  refine w_seq ?_
  refine w_region rfl ?_
  refine o_mov rfl ?_
  refine o_call (reverse_i16 hOb (by rw [halfL_len hn]; omega)) fn_68 rfl (by repeat (first | exact Take.nil | exact Take.all _ | (apply Take.cons; focus (repeat (first | exact Pick.here | apply Pick.next))))) ?_
  rintro v ho ⟨rfl, Hc, hOc, rfl⟩
  refine w_nil ?_
  refine w_seq ?_
  refine w_region rfl ?_
  refine o_mov rfl ?_
  refine o_mov rfl ?_
  refine o_app slc_26 zer_35 rfl rfl rfl hO2 (by repeat (first | exact Pick.here | apply Pick.next)) hOc.ints (by repeat (first | exact Has.here | apply Has.next)) (one_ints _ _) (by simp only [List.length_append, List.length_replicate, slopeL_len, List.length_reverse, halfL_len hn, maxLen]; omega) (by simp only [List.length_append, List.length_replicate, slopeL_len, List.length_reverse, halfL_len hn, maxLen]; omega) (fun v' H' hO3 _ => ?_)
  have hO3 : OwnI H' v' 35 .i16 (winL n) := OwnI.app hO3
  refine o_asg rfl ?_
  refine o_asg rfl ?_
  refine w_nil ?_
  exact w_ret (ret2 rfl rfl rfl) ⟨_, ar1, Tb1, _, _, _, _, rfl, hO3, hB1, by split <;> omega, by split <;> omega, by omega, by omega, rfl⟩ (Take.sub (by repeat (first | exact Take.nil | exact Take.all _ | (apply Take.cons; focus (repeat (first | exact Pick.here | apply Pick.next))))))

theorem lapped_Window_bad (bv : Value) (n : Int) (hn : ¬ (n = 40 ∨ n = 60 ∨ n = 80 ∨ n = 120)) : Ctr Try.prog 33 [bv, .int .i64 n] ([]) (fun v ho => v = .tuple #[.slice none 0 0, .int .i64 1] ∧ ho = []) := by
  refine spec_of Try.func33 rfl rfl fun w0 L => ?_
  refine w_seq ?_
  refine w_region rfl ?_
  refine o_asg rfl ?_
  refine o_asg rfl ?_
  refine w_nil ?_
  refine w_seq ?_
  refine w_region rfl ?_
  refine o_call (lengths_arr) fn_64 rfl (by repeat (first | exact Take.nil | exact Take.all _ | (apply Take.cons; focus (repeat (first | exact Pick.here | apply Pick.next))))) ?_
  rintro v ho ⟨rfl, rfl⟩
  refine o_alloc zer_124 (fun b2 => ?_)
  refine o_storeN siz_124 rfl rfl rfl (by repeat (first | exact Upd.here | apply Upd.next)) (by first | exact Nat.le_of_ble_eq_true rfl | decide | (simp; done) | omega) (by first | rfl | simp) ?_
  refine w_nil ?_
  refine w_seq ?_
  refine w_seq ?_
  refine w_region rfl ?_
  refine o_slA arr_124 rfl ?_
  refine o_mov rfl ?_
  refine o_call (slices_Contains (Ints.arr (k := .i64) (xs := [40, 60, 80, 120]) (by decide)) _) fn_65 rfl (by repeat (first | exact Take.nil | exact Take.all _ | (apply Take.cons; focus (repeat (first | exact Pick.here | apply Pick.next))))) ?_
  rintro v ho ⟨rfl, rfl⟩
  rw [decide_eq_false (show ¬ n ∈ [40, 60, 80, 120] by simp only [List.mem_cons, List.not_mem_nil, or_false]; exact hn)]
  refine o_not rfl ?_
  refine w_nil ?_
  refine w_if_t rfl ?_
  refine w_seq ?_
  refine w_region rfl ?_
  refine o_asg rfl ?_
  refine o_asg rfl ?_
  refine w_nil ?_
  exact w_ret (ret2 rfl rfl rfl) ⟨rfl, rfl⟩ (Take.sub (by repeat (first | exact Take.nil | exact Take.all _ | (apply Take.cons; focus (repeat (first | exact Pick.here | apply Pick.next))))))

theorem lapped_Window_nil {n : Nat} (hn : n = 40 ∨ n = 60 ∨ n = 80 ∨ n = 120) : Ctr Try.prog 33 [.pointer none, .int .i64 n] ([]) (fun v ho => v = .tuple #[.slice none 0 0, .int .i64 3] ∧ ho = []) := by
  refine spec_of Try.func33 rfl rfl fun w0 L => ?_
  refine w_seq ?_
  refine w_region rfl ?_
  refine o_asg rfl ?_
  refine o_asg rfl ?_
  refine w_nil ?_
  refine w_seq ?_
  refine w_region rfl ?_
  refine o_call (lengths_arr) fn_64 rfl (by repeat (first | exact Take.nil | exact Take.all _ | (apply Take.cons; focus (repeat (first | exact Pick.here | apply Pick.next))))) ?_
  rintro v ho ⟨rfl, rfl⟩
  refine o_alloc zer_124 (fun b2 => ?_)
  refine o_storeN siz_124 rfl rfl rfl (by repeat (first | exact Upd.here | apply Upd.next)) (by first | exact Nat.le_of_ble_eq_true rfl | decide | (simp; done) | omega) (by first | rfl | simp) ?_
  refine w_nil ?_
  refine w_seq ?_
  refine w_seq ?_
  refine w_region rfl ?_
  refine o_slA arr_124 rfl ?_
  refine o_mov rfl ?_
  refine o_call (slices_Contains (Ints.arr (k := .i64) (xs := [40, 60, 80, 120]) (by decide)) _) fn_65 rfl (by repeat (first | exact Take.nil | exact Take.all _ | (apply Take.cons; focus (repeat (first | exact Pick.here | apply Pick.next))))) ?_
  rintro v ho ⟨rfl, rfl⟩
  rw [decide_eq_true (show (n : Int) ∈ [40, 60, 80, 120] by simp only [List.mem_cons, List.not_mem_nil, or_false]; omega)]
  refine o_not rfl ?_
  refine w_nil ?_
  refine w_if_f rfl ?_
  refine w_skip ?_
  refine w_seq ?_
  refine w_region rfl ?_
  refine o_mov rfl ?_
  refine o_mov rfl ?_
  refine o_quo (c := ((n / 2 : Nat) : Int)) rfl rfl (by decide) (by rcases hn with rfl | rfl | rfl | rfl <;> rfl) ?_
  refine o_call (bank_Slope_nil _ (by omega)) fn_41 rfl (by repeat (first | exact Take.nil | exact Take.all _ | (apply Take.cons; focus (repeat (first | exact Pick.here | apply Pick.next))))) ?_
  rintro v ho ⟨rfl, rfl⟩
  refine o_mov rfl ?_
  refine o_ext rfl rfl ?_
  refine o_ext rfl rfl ?_
  refine o_asg rfl ?_
  refine o_asg rfl ?_
  refine w_nil ?_
  refine w_seq ?_
  refine w_seq ?_
  refine w_region rfl ?_
  refine o_mov rfl ?_
  refine o_ne_t rfl rfl (by omega) ?_
  refine w_nil ?_
  refine w_if_t rfl ?_
  refine w_seq ?_
  refine w_region rfl ?_
  refine o_mov rfl ?_
  refine o_asg rfl ?_
  refine o_asg rfl ?_
  refine w_nil ?_
  exact w_ret (ret2 rfl rfl rfl) ⟨rfl, rfl⟩ (Take.sub (by repeat (first | exact Take.nil | exact Take.all _ | (apply Take.cons; focus (repeat (first | exact Pick.here | apply Pick.next))))))

theorem lapped_of {b : Nat} {ar : Array Value} {T : TypeId} {Tb : Hp} {s : Nat → Bool} {made told : Int} (hr : BankRep ar Tb s made told) (hmade : 0 ≤ made ∧ made ≤ 900000000) (htold : 0 ≤ told ∧ told ≤ 900000000){n : Nat} (hn : n = 40 ∨ n = 60 ∨ n = 80 ∨ n = 120) : Ctr Try.prog 57 [.pointer (some ⟨b, 0, none⟩), .int .i64 n] ([[(b, .cells (ar) T (0, 0))], Tb]) (fun v ho => ∃ wv tv H1 H2 ar' Tb' s' made' told', v = .tuple #[.agg #[.int .i64 n, wv, tv], .int .i64 0] ∧ OwnI H1 wv 35 .i16 (winL n) ∧ OwnI H2 tv 35 .i16 (turnL (8 * n)) ∧ BankRep ar' Tb' s' made' told' ∧ made ≤ made' ∧ made' ≤ made + 2 ∧ told ≤ told' ∧ told' ≤ told + 2 ∧ ho = [H1, H2, [(b, .cells ar' T (0, 0))], Tb']) := by
  refine spec_of Try.func57 rfl rfl fun w0 L => ?_
  refine w_seq ?_
  refine w_region rfl ?_
  refine o_alloc zer_115 (fun b1 => ?_)
  refine o_asg rfl ?_
  refine w_nil ?_
  refine w_seq ?_
  refine w_region rfl ?_
  refine o_mov rfl ?_
  refine o_mov rfl ?_
  refine o_call (lapped_Window (T := T) hr hmade htold hn) fn_33 rfl (by repeat (first | exact Take.nil | exact Take.all _ | (apply Take.cons; focus (repeat (first | exact Pick.here | apply Pick.next))))) ?_
  rintro v ho ⟨wv, ar1, Tb1, H1, s1, m1, t1, rfl, hO1, hB1, k1, k2, k3, k4, rfl⟩
  obtain ⟨p1, c1, rfl, -⟩ := Rd.slice hO1.ints
  refine o_mov rfl ?_
  refine o_ext rfl rfl ?_
  refine o_ext rfl rfl ?_
  refine o_asg rfl ?_
  refine o_asg rfl ?_
  refine w_nil ?_
  refine w_seq ?_
  refine w_seq ?_
  refine w_region rfl ?_
  refine o_mov rfl ?_
  refine o_ne_f rfl rfl (by omega) ?_
  refine w_nil ?_
  refine w_if_f rfl ?_
  refine w_skip ?_
  refine w_seq ?_
  refine w_region rfl ?_
  refine o_mov rfl ?_
  refine o_mov rfl ?_
  refine o_mul (c := ((8 * n : Nat) : Int)) rfl rfl (by rw [show (8 : Int) * n = ((8 * n : Nat) : Int) by omega]; exact IntWalk.i64_in _ (by omega)) ?_
  refine o_call (bank_Turn (T := T) (n := 8 * n) hB1 (by omega) (by omega) (by omega) (by omega) (by omega)) fn_40 rfl (by repeat (first | exact Take.nil | exact Take.all _ | (apply Take.cons; focus (repeat (first | exact Pick.here | apply Pick.next))))) ?_
  rintro v ho ⟨tv, ar2, Tb2, H2, rfl, -, hO2, hB2, rfl⟩
  obtain ⟨p2, c2, rfl, -⟩ := Rd.slice hO2.ints
  refine o_mov rfl ?_
  refine o_ext rfl rfl ?_
  refine o_ext rfl rfl ?_
  refine o_asg rfl ?_
  refine o_asg rfl ?_
  refine w_nil ?_
  refine w_seq ?_
  refine w_region rfl ?_
  refine o_mov rfl ?_
  refine o_mov rfl ?_
  refine o_mov rfl ?_
  refine o_bld (c := #[.int .i64 n, .slice p1 _ c1, .slice p2 _ c2]) bld_115 rfl rfl ?_
  refine o_mov rfl ?_
  refine o_storeN siz_115 rfl rfl rfl (by repeat (first | exact Upd.here | apply Upd.next)) (by first | exact Nat.le_of_ble_eq_true rfl | decide | (simp; done) | omega) (by first | rfl | simp) ?_
  refine o_asg rfl ?_
  refine w_nil ?_
  exact w_ret (ret2c rfl lod_115 rfl (by repeat (first | exact At.here | (refine At.inA ?_; assumption) | apply At.next)) (Nat.le_of_ble_eq_true rfl) rfl rfl) ⟨_, _, H1, H2, ar2, Tb2, _, _, _, rfl, hO1, hO2, hB2, by split <;> omega, by split <;> omega, by omega, by omega, rfl⟩ (Take.sub (by repeat (first | exact Take.nil | exact Take.all _ | (apply Take.cons; focus (repeat (first | exact Pick.here | apply Pick.next))))))

theorem lapped_of_bad (bv : Value) (n : Int) (hn : ¬ (n = 40 ∨ n = 60 ∨ n = 80 ∨ n = 120)) : Ctr Try.prog 57 [bv, .int .i64 n] ([]) (fun v ho => v = .tuple #[.agg #[.int .i64 0, .slice none 0 0, .slice none 0 0], .int .i64 1] ∧ ho = []) := by
  refine spec_of Try.func57 rfl rfl fun w0 L => ?_
  refine w_seq ?_
  refine w_region rfl ?_
  refine o_alloc zer_115 (fun b1 => ?_)
  refine o_asg rfl ?_
  refine w_nil ?_
  refine w_seq ?_
  refine w_region rfl ?_
  refine o_mov rfl ?_
  refine o_mov rfl ?_
  refine o_call (lapped_Window_bad _ n hn) fn_33 rfl (by repeat (first | exact Take.nil | exact Take.all _ | (apply Take.cons; focus (repeat (first | exact Pick.here | apply Pick.next))))) ?_
  rintro v ho ⟨rfl, rfl⟩
  refine o_mov rfl ?_
  refine o_ext rfl rfl ?_
  refine o_ext rfl rfl ?_
  refine o_asg rfl ?_
  refine o_asg rfl ?_
  refine w_nil ?_
  refine w_seq ?_
  refine w_seq ?_
  refine w_region rfl ?_
  refine o_mov rfl ?_
  refine o_ne_t rfl rfl (by omega) ?_
  refine w_nil ?_
  refine w_if_t rfl ?_
  refine w_seq ?_
  refine w_region rfl ?_
  refine o_bld bld_115 rfl rfl ?_
  refine o_mov rfl ?_
  refine o_storeN siz_115 rfl rfl rfl (by repeat (first | exact Upd.here | apply Upd.next)) (by first | exact Nat.le_of_ble_eq_true rfl | decide | (simp; done) | omega) (by first | rfl | simp) ?_
  refine o_asg rfl ?_
  refine w_nil ?_
  exact w_ret (ret2c rfl lod_115 rfl (by repeat (first | exact At.here | (refine At.inA ?_; assumption) | apply At.next)) (Nat.le_of_ble_eq_true rfl) rfl rfl) ⟨rfl, rfl⟩ (Take.sub (by repeat (first | exact Take.nil | exact Take.all _ | (apply Take.cons; focus (repeat (first | exact Pick.here | apply Pick.next))))))

theorem lapped_NewLapper {b : Nat} {ar : Array Value} {T : TypeId} {Tb : Hp} {s : Nat → Bool} {made told : Int} (hr : BankRep ar Tb s made told) (hmade : 0 ≤ made ∧ made ≤ 900000000) (htold : 0 ≤ told ∧ told ≤ 900000000){n : Nat} (hn : n = 40 ∨ n = 60 ∨ n = 80 ∨ n = 120) : Ctr Try.prog 29 [.pointer (some ⟨b, 0, none⟩), .int .i64 n] ([[(b, .cells (ar) T (0, 0))], Tb]) (fun v ho => ∃ p bx wv tv H1 H2 ar' Tb' s' made' told', v = .tuple #[.pointer (some ⟨p, 0, none⟩), .int .i64 0] ∧ OwnI H1 wv 35 .i16 (winL n) ∧ OwnI H2 tv 35 .i16 (turnL (8 * n)) ∧ BankRep ar' Tb' s' made' told' ∧ made ≤ made' ∧ made' ≤ made + 2 ∧ told ≤ told' ∧ told' ≤ told + 2 ∧ ho = [[(p, .cells #[.int .i64 n, wv, tv, .slice (some ⟨bx, 0, none⟩) n n] 119 (0, 0))], [(bx, .cells (ints .i16 (List.replicate n 0)) 35 (0, 0))], H1, H2, [(b, .cells ar' T (0, 0))], Tb']) := by
  refine spec_of Try.func29 rfl rfl fun w0 L => ?_
  refine w_seq ?_
  refine w_region rfl ?_
  refine o_asg rfl ?_
  refine o_asg rfl ?_
  refine w_nil ?_
  refine w_seq ?_
  refine w_region rfl ?_
  refine o_mov rfl ?_
  refine o_mov rfl ?_
  refine o_call (lapped_of (T := T) hr hmade htold hn) fn_57 rfl (by repeat (first | exact Take.nil | exact Take.all _ | (apply Take.cons; focus (repeat (first | exact Pick.here | apply Pick.next))))) ?_
  rintro v ho ⟨wv, tv, H1, H2, ar1, Tb1, s1, m1, t1, rfl, hO1, hO2, hB1, k1, k2, k3, k4, rfl⟩
  obtain ⟨p1, c1, rfl, -⟩ := Rd.slice hO1.ints
  obtain ⟨p2, c2, rfl, -⟩ := Rd.slice hO2.ints
  refine o_mov rfl ?_
  refine o_ext rfl rfl ?_
  refine o_ext rfl rfl ?_
  refine o_alloc zer_115 (fun b2 => ?_)
  refine o_storeN siz_115 rfl rfl rfl (by repeat (first | exact Upd.here | apply Upd.next)) (by first | exact Nat.le_of_ble_eq_true rfl | decide | (simp; done) | omega) (by first | rfl | simp) ?_
  refine o_asg rfl ?_
  refine w_nil ?_
  refine w_seq ?_
  refine w_seq ?_
  refine w_region rfl ?_
  refine o_mov rfl ?_
  refine o_ne_f rfl rfl (by omega) ?_
  refine w_nil ?_
  refine w_if_f rfl ?_
  refine w_skip ?_
  refine w_seq ?_
  refine w_line [(0, true), (1, true), (2, false), (3, true), (4, false), (5, true), (6, true)] mixed (by kernel_rfl) ?_
  refine o_loadN (vs := #[.int .i64 n, .slice p1 _ c1, .slice p2 _ c2]) lod_115 rfl (by repeat (first | exact At.here | (refine At.inA ?_; assumption) | apply At.next)) (Nat.le_of_ble_eq_true rfl) rfl ?_
  refine o_mov rfl ?_
  refine o_mks slc_26 zer_35 rfl rfl (by omega) (by omega) (by omega) (by omega) (fun b3 => ?_)
  rw [Int.toNat_natCast, show madeCells _ (n * 1) = ints .i16 (List.replicate n 0) from by rw [Nat.mul_one]; exact ints_made _ _]
  refine o_bld (c := #[.int .i64 n, .slice p1 _ c1, .slice p2 _ c2, .slice (some ⟨_, 0, none⟩) _ _]) bld_119 rfl rfl ?_
  refine o_box rfl (fun b4 => ?_)
  refine o_asg rfl ?_
  refine o_asg rfl ?_
  refine w_nil ?_
  exact w_ret (ret2 rfl rfl rfl) ⟨_, _, _, _, H1, H2, ar1, Tb1, s1, m1, t1, rfl, hO1, hO2, hB1, k1, k2, k3, k4, rfl⟩ (Take.sub (by repeat (first | exact Take.nil | exact Take.all _ | (apply Take.cons; focus (repeat (first | exact Pick.here | apply Pick.next))))))

theorem lapped_NewLapper_bad (bv : Value) (n : Int) (hn : ¬ (n = 40 ∨ n = 60 ∨ n = 80 ∨ n = 120)) : Ctr Try.prog 29 [bv, .int .i64 n] ([]) (fun v ho => v = .tuple #[.pointer none, .int .i64 1] ∧ ho = []) := by
  refine spec_of Try.func29 rfl rfl fun w0 L => ?_
  refine w_seq ?_
  refine w_region rfl ?_
  refine o_asg rfl ?_
  refine o_asg rfl ?_
  refine w_nil ?_
  refine w_seq ?_
  refine w_region rfl ?_
  refine o_mov rfl ?_
  refine o_mov rfl ?_
  refine o_call (lapped_of_bad _ n hn) fn_57 rfl (by repeat (first | exact Take.nil | exact Take.all _ | (apply Take.cons; focus (repeat (first | exact Pick.here | apply Pick.next))))) ?_
  rintro v ho ⟨rfl, rfl⟩
  refine o_mov rfl ?_
  refine o_ext rfl rfl ?_
  refine o_ext rfl rfl ?_
  refine o_alloc zer_115 (fun b2 => ?_)
  refine o_storeN siz_115 rfl rfl rfl (by repeat (first | exact Upd.here | apply Upd.next)) (by first | exact Nat.le_of_ble_eq_true rfl | decide | (simp; done) | omega) (by first | rfl | simp) ?_
  refine o_asg rfl ?_
  refine w_nil ?_
  refine w_seq ?_
  refine w_seq ?_
  refine w_region rfl ?_
  refine o_mov rfl ?_
  refine o_ne_t rfl rfl (by omega) ?_
  refine w_nil ?_
  refine w_if_t rfl ?_
  refine w_seq ?_
  refine w_region rfl ?_
  refine o_mov rfl ?_
  refine o_asg rfl ?_
  refine o_asg rfl ?_
  refine w_nil ?_
  exact w_ret (ret2 rfl rfl rfl) ⟨rfl, rfl⟩ (Take.sub (by repeat (first | exact Take.nil | exact Take.all _ | (apply Take.cons; focus (repeat (first | exact Pick.here | apply Pick.next))))))

theorem lapped_NewUnlapper {b : Nat} {ar : Array Value} {T : TypeId} {Tb : Hp} {s : Nat → Bool} {made told : Int} (hr : BankRep ar Tb s made told) (hmade : 0 ≤ made ∧ made ≤ 900000000) (htold : 0 ≤ told ∧ told ≤ 900000000){n : Nat} (hn : n = 40 ∨ n = 60 ∨ n = 80 ∨ n = 120) : Ctr Try.prog 34 [.pointer (some ⟨b, 0, none⟩), .int .i64 n] ([[(b, .cells (ar) T (0, 0))], Tb]) (fun v ho => ∃ p bx wv tv H1 H2 ar' Tb' s' made' told', v = .tuple #[.pointer (some ⟨p, 0, none⟩), .int .i64 0] ∧ OwnI H1 wv 35 .i16 (winL n) ∧ OwnI H2 tv 35 .i16 (turnL (8 * n)) ∧ BankRep ar' Tb' s' made' told' ∧ made ≤ made' ∧ made' ≤ made + 2 ∧ told ≤ told' ∧ told' ≤ told + 2 ∧ ho = [[(p, .cells #[.int .i64 n, wv, tv, .slice (some ⟨bx, 0, none⟩) n n] 131 (0, 0))], [(bx, .cells (ints .i32 (List.replicate n 0)) 21 (0, 0))], H1, H2, [(b, .cells ar' T (0, 0))], Tb']) := by
  refine spec_of Try.func34 rfl rfl fun w0 L => ?_
  refine w_seq ?_
  refine w_region rfl ?_
  refine o_asg rfl ?_
  refine o_asg rfl ?_
  refine w_nil ?_
  refine w_seq ?_
  refine w_region rfl ?_
  refine o_mov rfl ?_
  refine o_mov rfl ?_
  refine o_call (lapped_of (T := T) hr hmade htold hn) fn_57 rfl (by repeat (first | exact Take.nil | exact Take.all _ | (apply Take.cons; focus (repeat (first | exact Pick.here | apply Pick.next))))) ?_
  rintro v ho ⟨wv, tv, H1, H2, ar1, Tb1, s1, m1, t1, rfl, hO1, hO2, hB1, k1, k2, k3, k4, rfl⟩
  obtain ⟨p1, c1, rfl, -⟩ := Rd.slice hO1.ints
  obtain ⟨p2, c2, rfl, -⟩ := Rd.slice hO2.ints
  refine o_mov rfl ?_
  refine o_ext rfl rfl ?_
  refine o_ext rfl rfl ?_
  refine o_alloc zer_115 (fun b2 => ?_)
  refine o_storeN siz_115 rfl rfl rfl (by repeat (first | exact Upd.here | apply Upd.next)) (by first | exact Nat.le_of_ble_eq_true rfl | decide | (simp; done) | omega) (by first | rfl | simp) ?_
  refine o_asg rfl ?_
  refine w_nil ?_
  refine w_seq ?_
  refine w_seq ?_
  refine w_region rfl ?_
  refine o_mov rfl ?_
  refine o_ne_f rfl rfl (by omega) ?_
  refine w_nil ?_
  refine w_if_f rfl ?_
  refine w_skip ?_
  refine w_seq ?_
  refine w_line [(0, true), (1, true), (2, false), (3, true), (4, false), (5, true), (6, true)] mixed (by kernel_rfl) ?_
  refine o_loadN (vs := #[.int .i64 n, .slice p1 _ c1, .slice p2 _ c2]) lod_115 rfl (by repeat (first | exact At.here | (refine At.inA ?_; assumption) | apply At.next)) (Nat.le_of_ble_eq_true rfl) rfl ?_
  refine o_mov rfl ?_
  refine o_mks slc_43 zer_21 rfl rfl (by omega) (by omega) (by omega) (by omega) (fun b3 => ?_)
  rw [Int.toNat_natCast, show madeCells _ (n * 1) = ints .i32 (List.replicate n 0) from by rw [Nat.mul_one]; exact ints_made _ _]
  refine o_bld (c := #[.int .i64 n, .slice p1 _ c1, .slice p2 _ c2, .slice (some ⟨_, 0, none⟩) _ _]) bld_131 rfl rfl ?_
  refine o_box rfl (fun b4 => ?_)
  refine o_asg rfl ?_
  refine o_asg rfl ?_
  refine w_nil ?_
  exact w_ret (ret2 rfl rfl rfl) ⟨_, _, _, _, H1, H2, ar1, Tb1, s1, m1, t1, rfl, hO1, hO2, hB1, k1, k2, k3, k4, rfl⟩ (Take.sub (by repeat (first | exact Take.nil | exact Take.all _ | (apply Take.cons; focus (repeat (first | exact Pick.here | apply Pick.next))))))

theorem lapped_NewUnlapper_bad (bv : Value) (n : Int) (hn : ¬ (n = 40 ∨ n = 60 ∨ n = 80 ∨ n = 120)) : Ctr Try.prog 34 [bv, .int .i64 n] ([]) (fun v ho => v = .tuple #[.pointer none, .int .i64 1] ∧ ho = []) := by
  refine spec_of Try.func34 rfl rfl fun w0 L => ?_
  refine w_seq ?_
  refine w_region rfl ?_
  refine o_asg rfl ?_
  refine o_asg rfl ?_
  refine w_nil ?_
  refine w_seq ?_
  refine w_region rfl ?_
  refine o_mov rfl ?_
  refine o_mov rfl ?_
  refine o_call (lapped_of_bad _ n hn) fn_57 rfl (by repeat (first | exact Take.nil | exact Take.all _ | (apply Take.cons; focus (repeat (first | exact Pick.here | apply Pick.next))))) ?_
  rintro v ho ⟨rfl, rfl⟩
  refine o_mov rfl ?_
  refine o_ext rfl rfl ?_
  refine o_ext rfl rfl ?_
  refine o_alloc zer_115 (fun b2 => ?_)
  refine o_storeN siz_115 rfl rfl rfl (by repeat (first | exact Upd.here | apply Upd.next)) (by first | exact Nat.le_of_ble_eq_true rfl | decide | (simp; done) | omega) (by first | rfl | simp) ?_
  refine o_asg rfl ?_
  refine w_nil ?_
  refine w_seq ?_
  refine w_seq ?_
  refine w_region rfl ?_
  refine o_mov rfl ?_
  refine o_ne_t rfl rfl (by omega) ?_
  refine w_nil ?_
  refine w_if_t rfl ?_
  refine w_seq ?_
  refine w_region rfl ?_
  refine o_mov rfl ?_
  refine o_asg rfl ?_
  refine o_asg rfl ?_
  refine w_nil ?_
  exact w_ret (ret2 rfl rfl rfl) ⟨rfl, rfl⟩ (Take.sub (by repeat (first | exact Take.nil | exact Take.all _ | (apply Take.cons; focus (repeat (first | exact Pick.here | apply Pick.next))))))

theorem lapped_wave {p off : Nat} {ar : Array Value} {T : TypeId} {A : Hp} {n : Nat} (hn : n = 40 ∨ n = 60 ∨ n = 80 ∨ n = 120) {tv : Value} (h0 : ar[off]? = some (.int .i64 n)) (h2 : ar[off + 2]? = some tv) (ht : Ints A tv .i16 (turnL (8 * n))) {j k : Nat} (hj : j < 2 * n) (hk : k < n) : Ctr Try.prog 60 [.pointer (some ⟨p, off, none⟩), .int .i64 j, .int .i64 k] ([[(p, .cells ar T (0, 0))], A]) (fun v ho => v = .int .i64 (lapC n j k) ∧ ho = [[(p, .cells ar T (0, 0))], A]) := by
  refine spec_of Try.func60 rfl rfl fun w0 L => ?_
  refine w_seq ?_
  refine w_region rfl ?_
  refine o_asg rfl ?_
  refine w_nil ?_
  refine w_seq ?_
  refine w_any [0, 1, 2, 3, 4, 5, 6, 7, 8, 9, 10, 11, 12, 13, 14, 15, 16, 17, 18, 19, 20, 21, 22, 23, 24, 25] mixed (by kernel_rfl) ?_
  refine o_mov rfl ?_
  refine o_nilc rfl ?_
  refine o_fld fld_115_2 rfl rfl ?_
  refine o_load lod_26 rfl (by repeat (first | exact At.here | (refine At.inA ?_; assumption) | apply At.next)) h2 ?_
  refine o_mov rfl ?_
  refine o_mul rfl rfl (by first | exact IntWalk.i64_in _ (by omega) | rfl) ?_
  refine o_add rfl rfl (by first | exact IntWalk.i64_in _ (by omega) | rfl) ?_
  refine o_mov rfl ?_
  refine o_nilc rfl ?_
  refine o_fld fld_115_0 rfl rfl ?_
  refine o_load lod_3 rfl (by repeat (first | exact At.here | (refine At.inA ?_; assumption) | apply At.next)) h0 ?_
  refine o_add rfl rfl (by first | exact IntWalk.i64_in _ (by omega) | rfl) ?_
  refine o_mov rfl ?_
  refine o_mul rfl rfl (by first | exact IntWalk.i64_in _ (by omega) | rfl) ?_
  refine o_add rfl rfl (by first | exact IntWalk.i64_in _ (by omega) | rfl) ?_
  have hla := lap_arg hn hj hk
  refine o_mul rfl rfl (by first | exact IntWalk.i64_in _ (by omega) | rfl) ?_
  refine o_mov rfl ?_
  refine o_nilc rfl ?_
  refine o_fld fld_115_0 rfl rfl ?_
  refine o_load lod_3 rfl (by repeat (first | exact At.here | (refine At.inA ?_; assumption) | apply At.next)) h0 ?_
  refine o_mul rfl rfl (by first | exact IntWalk.i64_in _ (by omega) | rfl) ?_
  refine o_rem rfl rfl (by omega) (IntWalk.rem_in _ _ (by omega)) ?_
  have hix := lap_ix hn hj hk
  refine o_idxI ht (by repeat (first | exact Has.here | apply Has.next)) slc_26 rfl rfl hix.2 (fun bb ff arr TT fr hm2 hg => ?_)
  rw [hix.1] at hg
  refine o_load lod_35 rfl hm2 hg ?_
  have hc := lapC_in hn j k
  refine o_conv int_2 (by rw [Try.underlying35]; rfl) rfl (by first | exact IntWalk.i64_in _ (by omega) | rfl) ?_
  refine o_asg rfl ?_
  refine w_nil ?_
  exact w_ret (ret1 rfl rfl) ⟨rfl, rfl⟩ (HSub.refl _)

theorem lapped_windowed {p off : Nat} {ar : Array Value} {T : TypeId} {A : Hp} {n : Nat} (hn : n = 40 ∨ n = 60 ∨ n = 80 ∨ n = 120) {wv : Value} (h1 : ar[off + 1]? = some wv) (hw : Ints A wv .i16 (winL n)) {x : Int} {j : Nat} (hx : -2147483648 ≤ x ∧ x ≤ 2147483647) (hj : j < 2 * n) : Ctr Try.prog 59 [.pointer (some ⟨p, off, none⟩), .int .i64 x, .int .i64 j] ([[(p, .cells ar T (0, 0))], A]) (fun v ho => v = .int .i64 (roundI (x * (winL n).getD j 0) 15) ∧ ho = [[(p, .cells ar T (0, 0))], A]) := by
  refine spec_of Try.func59 rfl rfl fun w0 L => ?_
  refine w_seq ?_
  refine w_region rfl ?_
  refine o_asg rfl ?_
  refine w_nil ?_
  refine w_seq ?_
  refine w_region rfl ?_
  refine o_mov rfl ?_
  refine o_mov rfl ?_
  refine o_nilc rfl ?_
  refine o_fld fld_115_1 rfl rfl ?_
  refine o_load lod_26 rfl (by repeat (first | exact At.here | (refine At.inA ?_; assumption) | apply At.next)) h1 ?_
  refine o_mov rfl ?_
  have hwl := winL_len hn
  refine o_idxI hw (by repeat (first | exact Has.here | apply Has.next)) slc_26 rfl rfl ⟨by omega, by omega⟩ (fun bb ff arr TT fr hm2 hg => ?_)
  rw [Int.toNat_natCast] at hg
  refine o_load lod_35 rfl hm2 hg ?_
  have hwi := (winL_in n).get j
  refine o_conv int_2 (by rw [Try.underlying35]; rfl) rfl (by first | exact IntWalk.i64_in _ (by omega) | rfl) ?_
  have hpr := prod_in (x := x) (y := (winL n).getD j 0) (X := 2147483648) (Y := 32768) (by omega) (by omega)
  refine o_mul rfl rfl (by first | exact IntWalk.i64_in _ (by omega) | rfl) ?_
  refine o_call (fix_Round _ _ (by omega)) fn_53 rfl (by repeat (first | exact Take.nil | exact Take.all _ | (apply Take.cons; focus (repeat (first | exact Pick.here | apply Pick.next))))) ?_
  rintro v ho ⟨rfl, rfl⟩
  refine o_asg rfl ?_
  refine w_nil ?_
  exact w_ret (ret1 rfl rfl) ⟨rfl, rfl⟩ (HSub.refl _)

end Go.Proofs.Ytjmnidcfgkdhcaa
