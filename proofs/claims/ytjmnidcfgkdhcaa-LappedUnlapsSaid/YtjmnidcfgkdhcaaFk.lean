/- Contracts of the layer poly: tables, a new splitter, a new joiner. No condition. -/
import Derived.Test.YtjmnidcfgkdhcaaTy
import Derived.Test.YtjmnidcfgkdhcaaFj
import Derived.Test.YtjmnidcfgkdhcaaFf
import Derived.Test.YtjmnidcfgkdhcaaEi
namespace Go.Proofs.Ytjmnidcfgkdhcaa
open Go.Eng
set_option linter.unusedVariables false
set_option linter.unusedSimpArgs false
set_option maxRecDepth 20000
attribute [local irreducible] WL WT
theorem poly_tables4 {b : Nat} {ar : Array Value} {T : TypeId} {Tb : Hp} {s : Nat → Bool} {made told : Int} (hr : BankRep ar Tb s made told) (hmade : 0 ≤ made ∧ made ≤ 900000000) (htold : 0 ≤ told ∧ told ≤ 900000000) : Ctr Try.prog 47 [.pointer (some ⟨b, 0, none⟩), .int .i64 4] ([[(b, .cells (ar) T (0, 0))], Tb]) (fun v ho => ∃ hv tv H1 H2 ar' Tb' s' made' told', v = .tuple #[.agg #[.int .i64 4, hv, tv], .int .i64 0] ∧ OwnI H1 hv 35 .i16 (filterL 4) ∧ OwnI H2 tv 35 .i16 (turnL (8 * 4)) ∧ BankRep ar' Tb' s' made' told' ∧ made ≤ made' ∧ made' ≤ made + 2 ∧ told ≤ told' ∧ told' ≤ told + 2 ∧ ho = [H1, H2, [(b, .cells ar' T (0, 0))], Tb']) := by
  refine spec_of Try.func47 rfl rfl fun w0 L => ?_
  refine w_seq ?_
  refine w_region rfl ?_
  refine o_alloc zer_101 (fun b1 => ?_)
  refine o_asg rfl ?_
  refine w_nil ?_
  refine w_seq ?_
  refine w_region rfl ?_
  refine o_mov rfl ?_
  refine o_mov rfl ?_
  refine o_call (bank_Filter (T := T) (n := 4) hr (by omega) (by omega) (by omega)) fn_42 rfl (by repeat (first | exact Take.nil | exact Take.all _ | (apply Take.cons; focus (repeat (first | exact Pick.here | apply Pick.next))))) ?_
  rintro v ho ⟨hv, ar1, Tb1, H1, rfl, hn1, hO1, hB1, rfl⟩
  obtain ⟨p1, c1, rfl, -⟩ := Rd.slice hO1.ints
  refine o_mov rfl ?_
  refine o_ext rfl rfl ?_
  refine o_ext rfl rfl ?_
  refine o_asg rfl ?_
  refine o_asg rfl ?_
  refine w_nil ?_
  refine w_seq ?_
  refine w_seq ?_
  refine w_region rfl ?_
  refine o_mov rfl ?_
  refine o_ne_f rfl rfl (by omega) ?_
  refine w_nil ?_
  refine w_if_f rfl ?_
  refine w_skip ?_
  refine w_seq ?_
  refine w_region rfl ?_
  refine o_mov rfl ?_
  refine o_mov rfl ?_
  refine o_mul rfl rfl (by first | exact IntWalk.i64_in _ (by omega) | rfl) ?_
  refine o_call (bank_Turn (T := T) (n := 8 * 4) hB1 (by split <;> omega) (by omega) (by omega) (by omega) (by omega)) fn_40 rfl (by repeat (first | exact Take.nil | exact Take.all _ | (apply Take.cons; focus (repeat (first | exact Pick.here | apply Pick.next))))) ?_
  rintro v ho ⟨tv, ar2, Tb2, H2, rfl, hn2, hO2, hB2, rfl⟩
  obtain ⟨p2, c2, rfl, -⟩ := Rd.slice hO2.ints
  refine o_mov rfl ?_
  refine o_ext rfl rfl ?_
  refine o_ext rfl rfl ?_
  refine o_asg rfl ?_
  refine o_asg rfl ?_
  refine w_nil ?_
  refine w_seq ?_
  refine w_region rfl ?_
  refine o_mov rfl ?_
  refine o_mov rfl ?_
  refine o_mov rfl ?_
  refine o_bld bld_101 rfl rfl ?_
  refine o_mov rfl ?_
  refine o_storeN siz_101 rfl rfl rfl (by repeat (first | exact Upd.here | apply Upd.next)) (by first | exact Nat.le_of_ble_eq_true rfl | decide | (simp; done) | omega) (by first | rfl | simp) ?_
  refine o_asg rfl ?_
  refine w_nil ?_
  exact w_ret (ret2c rfl lod_101 rfl (by repeat (first | exact At.here | (refine At.inA ?_; assumption) | apply At.next)) (Nat.le_of_ble_eq_true rfl) rfl rfl) ⟨_, _, H1, H2, ar2, Tb2, _, _, _, rfl, hO1, hO2, hB2, by split <;> split <;> omega, by split <;> split <;> omega, by omega, by omega, rfl⟩ (Take.sub (by repeat (first | exact Take.nil | exact Take.all _ | (apply Take.cons; focus (repeat (first | exact Pick.here | apply Pick.next))))))

theorem poly_tables8 {b : Nat} {ar : Array Value} {T : TypeId} {Tb : Hp} {s : Nat → Bool} {made told : Int} (hr : BankRep ar Tb s made told) (hmade : 0 ≤ made ∧ made ≤ 900000000) (htold : 0 ≤ told ∧ told ≤ 900000000) : Ctr Try.prog 47 [.pointer (some ⟨b, 0, none⟩), .int .i64 8] ([[(b, .cells (ar) T (0, 0))], Tb]) (fun v ho => ∃ hv tv H1 H2 ar' Tb' s' made' told', v = .tuple #[.agg #[.int .i64 8, hv, tv], .int .i64 0] ∧ OwnI H1 hv 35 .i16 (filterL 8) ∧ OwnI H2 tv 35 .i16 (turnL (8 * 8)) ∧ BankRep ar' Tb' s' made' told' ∧ made ≤ made' ∧ made' ≤ made + 2 ∧ told ≤ told' ∧ told' ≤ told + 2 ∧ ho = [H1, H2, [(b, .cells ar' T (0, 0))], Tb']) := by
  refine spec_of Try.func47 rfl rfl fun w0 L => ?_
  refine w_seq ?_
  refine w_region rfl ?_
  refine o_alloc zer_101 (fun b1 => ?_)
  refine o_asg rfl ?_
  refine w_nil ?_
  refine w_seq ?_
  refine w_region rfl ?_
  refine o_mov rfl ?_
  refine o_mov rfl ?_
  refine o_call (bank_Filter (T := T) (n := 8) hr (by omega) (by omega) (by omega)) fn_42 rfl (by repeat (first | exact Take.nil | exact Take.all _ | (apply Take.cons; focus (repeat (first | exact Pick.here | apply Pick.next))))) ?_
  rintro v ho ⟨hv, ar1, Tb1, H1, rfl, hn1, hO1, hB1, rfl⟩
  obtain ⟨p1, c1, rfl, -⟩ := Rd.slice hO1.ints
  refine o_mov rfl ?_
  refine o_ext rfl rfl ?_
  refine o_ext rfl rfl ?_
  refine o_asg rfl ?_
  refine o_asg rfl ?_
  refine w_nil ?_
  refine w_seq ?_
  refine w_seq ?_
  refine w_region rfl ?_
  refine o_mov rfl ?_
  refine o_ne_f rfl rfl (by omega) ?_
  refine w_nil ?_
  refine w_if_f rfl ?_
  refine w_skip ?_
  refine w_seq ?_
  refine w_region rfl ?_
  refine o_mov rfl ?_
  refine o_mov rfl ?_
  refine o_mul rfl rfl (by first | exact IntWalk.i64_in _ (by omega) | rfl) ?_
  refine o_call (bank_Turn (T := T) (n := 8 * 8) hB1 (by split <;> omega) (by omega) (by omega) (by omega) (by omega)) fn_40 rfl (by repeat (first | exact Take.nil | exact Take.all _ | (apply Take.cons; focus (repeat (first | exact Pick.here | apply Pick.next))))) ?_
  rintro v ho ⟨tv, ar2, Tb2, H2, rfl, hn2, hO2, hB2, rfl⟩
  obtain ⟨p2, c2, rfl, -⟩ := Rd.slice hO2.ints
  refine o_mov rfl ?_
  refine o_ext rfl rfl ?_
  refine o_ext rfl rfl ?_
  refine o_asg rfl ?_
  refine o_asg rfl ?_
  refine w_nil ?_
  refine w_seq ?_
  refine w_region rfl ?_
  refine o_mov rfl ?_
  refine o_mov rfl ?_
  refine o_mov rfl ?_
  refine o_bld bld_101 rfl rfl ?_
  refine o_mov rfl ?_
  refine o_storeN siz_101 rfl rfl rfl (by repeat (first | exact Upd.here | apply Upd.next)) (by first | exact Nat.le_of_ble_eq_true rfl | decide | (simp; done) | omega) (by first | rfl | simp) ?_
  refine o_asg rfl ?_
  refine w_nil ?_
  exact w_ret (ret2c rfl lod_101 rfl (by repeat (first | exact At.here | (refine At.inA ?_; assumption) | apply At.next)) (Nat.le_of_ble_eq_true rfl) rfl rfl) ⟨_, _, H1, H2, ar2, Tb2, _, _, _, rfl, hO1, hO2, hB2, by split <;> split <;> omega, by split <;> split <;> omega, by omega, by omega, rfl⟩ (Take.sub (by repeat (first | exact Take.nil | exact Take.all _ | (apply Take.cons; focus (repeat (first | exact Pick.here | apply Pick.next))))))

end Go.Proofs.Ytjmnidcfgkdhcaa
