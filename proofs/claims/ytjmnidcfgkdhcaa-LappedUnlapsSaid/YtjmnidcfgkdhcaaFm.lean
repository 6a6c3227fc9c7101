/- Contracts of the layer poly: a new splitter, a new joiner. No condition. -/
import Derived.Test.YtjmnidcfgkdhcaaTy
import Derived.Test.YtjmnidcfgkdhcaaFk
namespace Go.Proofs.Ytjmnidcfgkdhcaa
open Go.Eng
set_option linter.unusedVariables false
set_option linter.unusedSimpArgs false
set_option maxRecDepth 20000
attribute [local irreducible] WL WT
theorem poly_NewSplitter4 {b : Nat} {ar : Array Value} {T : TypeId} {Tb : Hp} {s : Nat → Bool} {made told : Int} (hr : BankRep ar Tb s made told) (hmade : 0 ≤ made ∧ made ≤ 900000000) (htold : 0 ≤ told ∧ told ≤ 900000000) : Ctr Try.prog 18 [.pointer (some ⟨b, 0, none⟩), .int .i64 4] ([[(b, .cells (ar) T (0, 0))], Tb]) (fun v ho => ∃ p bx hv tv H1 H2 ar' Tb' s' made' told', v = .tuple #[.pointer (some ⟨p, 0, none⟩), .int .i64 0] ∧ OwnI H1 hv 35 .i16 (filterL 4) ∧ OwnI H2 tv 35 .i16 (turnL (8 * 4)) ∧ BankRep ar' Tb' s' made' told' ∧ ho = [[(p, .cells #[.int .i64 4, hv, tv, .slice (some ⟨bx, 0, none⟩) 40 40] 105 (0, 0))], [(bx, .cells (ints .i64 (List.replicate 40 0)) 2 (0, 0))], H1, H2, [(b, .cells ar' T (0, 0))], Tb']) := by
  refine spec_of Try.func18 rfl rfl fun w0 L => ?_
  refine w_seq ?_
  refine w_region rfl ?_
  refine o_asg rfl ?_
  refine o_asg rfl ?_
  refine w_nil ?_
  refine w_seq ?_
  refine w_region rfl ?_
  refine o_mov rfl ?_
  refine o_mov rfl ?_
  refine o_call (poly_tables4 (T := T) hr hmade htold) fn_47 rfl (by repeat (first | exact Take.nil | exact Take.all _ | (apply Take.cons; focus (repeat (first | exact Pick.here | apply Pick.next))))) ?_
  rintro v ho ⟨hv, tv, H1, H2, ar1, Tb1, s1, m1, o1, rfl, hO1, hO2, hB1, -, -, -, -, rfl⟩
  obtain ⟨p1, c1, rfl, -⟩ := Rd.slice hO1.ints
  obtain ⟨p2, c2, rfl, -⟩ := Rd.slice hO2.ints
  refine o_mov rfl ?_
  refine o_ext rfl rfl ?_
  refine o_ext rfl rfl ?_
  refine o_alloc zer_101 (fun b2 => ?_)
  refine o_storeN siz_101 rfl rfl rfl (by repeat (first | exact Upd.here | apply Upd.next)) (by first | exact Nat.le_of_ble_eq_true rfl | decide | (simp; done) | omega) (by first | rfl | simp) ?_
  refine o_asg rfl ?_
  refine w_nil ?_
  refine w_seq ?_
  refine w_seq ?_
  refine w_region rfl ?_
  refine o_mov rfl ?_
  refine o_ne_f rfl rfl (by omega) ?_
  refine w_nil ?_
  refine w_if_f rfl ?_
  refine w_skip ?_
  refine w_seq ?_
  refine w_line [(0, true), (1, true), (2, true), (3, false), (4, true), (5, false), (6, true), (7, true)] mixed (by kernel_rfl) ?_
  refine o_loadN (vs := #[.int .i64 4, .slice p1 _ c1, .slice p2 _ c2]) lod_101 rfl (by repeat (first | exact At.here | (refine At.inA ?_; assumption) | apply At.next)) (Nat.le_of_ble_eq_true rfl) rfl ?_
  refine o_mov rfl ?_
  refine o_mul rfl rfl (by first | exact IntWalk.i64_in _ (by omega) | rfl) ?_
  refine o_mks slc_71 zer_2 rfl rfl (by omega) (by omega) (by omega) (by omega) (fun b3 => ?_)
  rw [show madeCells (Value.cells (.int .i64 0)) ((10 * 4 : Int).toNat * 1) = ints .i64 (List.replicate 40 0) from (by rw [show ((10 * 4 : Int).toNat * 1) = 40 from rfl]; exact ints_made _ 40)]
  refine o_bld (c := #[.int .i64 4, .slice p1 _ c1, .slice p2 _ c2, .slice (some ⟨_, 0, none⟩) _ _]) bld_105 rfl rfl ?_
  refine o_box rfl (fun b4 => ?_)
  refine o_asg rfl ?_
  refine o_asg rfl ?_
  refine w_nil ?_
  exact w_ret (ret2 rfl rfl rfl) ⟨_, _, _, _, H1, H2, ar1, Tb1, s1, m1, o1, rfl, hO1, hO2, hB1, rfl⟩ (Take.sub (by repeat (first | exact Take.nil | exact Take.all _ | (apply Take.cons; focus (repeat (first | exact Pick.here | apply Pick.next))))))

theorem poly_NewSplitter8 {b : Nat} {ar : Array Value} {T : TypeId} {Tb : Hp} {s : Nat → Bool} {made told : Int} (hr : BankRep ar Tb s made told) (hmade : 0 ≤ made ∧ made ≤ 900000000) (htold : 0 ≤ told ∧ told ≤ 900000000) : Ctr Try.prog 18 [.pointer (some ⟨b, 0, none⟩), .int .i64 8] ([[(b, .cells (ar) T (0, 0))], Tb]) (fun v ho => ∃ p bx hv tv H1 H2 ar' Tb' s' made' told', v = .tuple #[.pointer (some ⟨p, 0, none⟩), .int .i64 0] ∧ OwnI H1 hv 35 .i16 (filterL 8) ∧ OwnI H2 tv 35 .i16 (turnL (8 * 8)) ∧ BankRep ar' Tb' s' made' told' ∧ ho = [[(p, .cells #[.int .i64 8, hv, tv, .slice (some ⟨bx, 0, none⟩) 80 80] 105 (0, 0))], [(bx, .cells (ints .i64 (List.replicate 80 0)) 2 (0, 0))], H1, H2, [(b, .cells ar' T (0, 0))], Tb']) := by
  refine spec_of Try.func18 rfl rfl fun w0 L => ?_
  refine w_seq ?_
  refine w_region rfl ?_
  refine o_asg rfl ?_
  refine o_asg rfl ?_
  refine w_nil ?_
  refine w_seq ?_
  refine w_region rfl ?_
  refine o_mov rfl ?_
  refine o_mov rfl ?_
  refine o_call (poly_tables8 (T := T) hr hmade htold) fn_47 rfl (by repeat (first | exact Take.nil | exact Take.all _ | (apply Take.cons; focus (repeat (first | exact Pick.here | apply Pick.next))))) ?_
  rintro v ho ⟨hv, tv, H1, H2, ar1, Tb1, s1, m1, o1, rfl, hO1, hO2, hB1, -, -, -, -, rfl⟩
  obtain ⟨p1, c1, rfl, -⟩ := Rd.slice hO1.ints
  obtain ⟨p2, c2, rfl, -⟩ := Rd.slice hO2.ints
  refine o_mov rfl ?_
  refine o_ext rfl rfl ?_
  refine o_ext rfl rfl ?_
  refine o_alloc zer_101 (fun b2 => ?_)
  refine o_storeN siz_101 rfl rfl rfl (by repeat (first | exact Upd.here | apply Upd.next)) (by first | exact Nat.le_of_ble_eq_true rfl | decide | (simp; done) | omega) (by first | rfl | simp) ?_
  refine o_asg rfl ?_
  refine w_nil ?_
  refine w_seq ?_
  refine w_seq ?_
  refine w_region rfl ?_
  refine o_mov rfl ?_
  refine o_ne_f rfl rfl (by omega) ?_
  refine w_nil ?_
  refine w_if_f rfl ?_
  refine w_skip ?_
  refine w_seq ?_
  refine w_line [(0, true), (1, true), (2, true), (3, false), (4, true), (5, false), (6, true), (7, true)] mixed (by kernel_rfl) ?_
  refine o_loadN (vs := #[.int .i64 8, .slice p1 _ c1, .slice p2 _ c2]) lod_101 rfl (by repeat (first | exact At.here | (refine At.inA ?_; assumption) | apply At.next)) (Nat.le_of_ble_eq_true rfl) rfl ?_
  refine o_mov rfl ?_
  refine o_mul rfl rfl (by first | exact IntWalk.i64_in _ (by omega) | rfl) ?_
  refine o_mks slc_71 zer_2 rfl rfl (by omega) (by omega) (by omega) (by omega) (fun b3 => ?_)
  rw [show madeCells (Value.cells (.int .i64 0)) ((10 * 8 : Int).toNat * 1) = ints .i64 (List.replicate 80 0) from (by rw [show ((10 * 8 : Int).toNat * 1) = 80 from rfl]; exact ints_made _ 80)]
  refine o_bld (c := #[.int .i64 8, .slice p1 _ c1, .slice p2 _ c2, .slice (some ⟨_, 0, none⟩) _ _]) bld_105 rfl rfl ?_
  refine o_box rfl (fun b4 => ?_)
  refine o_asg rfl ?_
  refine o_asg rfl ?_
  refine w_nil ?_
  exact w_ret (ret2 rfl rfl rfl) ⟨_, _, _, _, H1, H2, ar1, Tb1, s1, m1, o1, rfl, hO1, hO2, hB1, rfl⟩ (Take.sub (by repeat (first | exact Take.nil | exact Take.all _ | (apply Take.cons; focus (repeat (first | exact Pick.here | apply Pick.next))))))

theorem poly_NewJoiner4 {b : Nat} {ar : Array Value} {T : TypeId} {Tb : Hp} {s : Nat → Bool} {made told : Int} (hr : BankRep ar Tb s made told) (hmade : 0 ≤ made ∧ made ≤ 900000000) (htold : 0 ≤ told ∧ told ≤ 900000000) : Ctr Try.prog 23 [.pointer (some ⟨b, 0, none⟩), .int .i64 4] ([[(b, .cells (ar) T (0, 0))], Tb]) (fun v ho => ∃ p bx hv tv H1 H2 ar' Tb' s' made' told', v = .tuple #[.pointer (some ⟨p, 0, none⟩), .int .i64 0] ∧ OwnI H1 hv 35 .i16 (filterL 4) ∧ OwnI H2 tv 35 .i16 (turnL (8 * 4)) ∧ BankRep ar' Tb' s' made' told' ∧ ho = [[(p, .cells #[.int .i64 4, hv, tv, .slice (some ⟨bx, 0, none⟩) 80 80] 110 (0, 0))], [(bx, .cells (ints .i64 (List.replicate 80 0)) 2 (0, 0))], H1, H2, [(b, .cells ar' T (0, 0))], Tb']) := by
  refine spec_of Try.func23 rfl rfl fun w0 L => ?_
  refine w_seq ?_
  refine w_region rfl ?_
  refine o_asg rfl ?_
  refine o_asg rfl ?_
  refine w_nil ?_
  refine w_seq ?_
  refine w_region rfl ?_
  refine o_mov rfl ?_
  refine o_mov rfl ?_
  refine o_call (poly_tables4 (T := T) hr hmade htold) fn_47 rfl (by repeat (first | exact Take.nil | exact Take.all _ | (apply Take.cons; focus (repeat (first | exact Pick.here | apply Pick.next))))) ?_
  rintro v ho ⟨hv, tv, H1, H2, ar1, Tb1, s1, m1, o1, rfl, hO1, hO2, hB1, -, -, -, -, rfl⟩
  obtain ⟨p1, c1, rfl, -⟩ := Rd.slice hO1.ints
  obtain ⟨p2, c2, rfl, -⟩ := Rd.slice hO2.ints
  refine o_mov rfl ?_
  refine o_ext rfl rfl ?_
  refine o_ext rfl rfl ?_
  refine o_alloc zer_101 (fun b2 => ?_)
  refine o_storeN siz_101 rfl rfl rfl (by repeat (first | exact Upd.here | apply Upd.next)) (by first | exact Nat.le_of_ble_eq_true rfl | decide | (simp; done) | omega) (by first | rfl | simp) ?_
  refine o_asg rfl ?_
  refine w_nil ?_
  refine w_seq ?_
  refine w_seq ?_
  refine w_region rfl ?_
  refine o_mov rfl ?_
  refine o_ne_f rfl rfl (by omega) ?_
  refine w_nil ?_
  refine w_if_f rfl ?_
  refine w_skip ?_
  refine w_seq ?_
  refine w_line [(0, true), (1, true), (2, true), (3, false), (4, true), (5, false), (6, true), (7, true)] mixed (by kernel_rfl) ?_
  refine o_loadN (vs := #[.int .i64 4, .slice p1 _ c1, .slice p2 _ c2]) lod_101 rfl (by repeat (first | exact At.here | (refine At.inA ?_; assumption) | apply At.next)) (Nat.le_of_ble_eq_true rfl) rfl ?_
  refine o_mov rfl ?_
  refine o_mul rfl rfl (by first | exact IntWalk.i64_in _ (by omega) | rfl) ?_
  refine o_mks slc_71 zer_2 rfl rfl (by omega) (by omega) (by omega) (by omega) (fun b3 => ?_)
  rw [show madeCells (Value.cells (.int .i64 0)) ((20 * 4 : Int).toNat * 1) = ints .i64 (List.replicate 80 0) from (by rw [show ((20 * 4 : Int).toNat * 1) = 80 from rfl]; exact ints_made _ 80)]
  refine o_bld (c := #[.int .i64 4, .slice p1 _ c1, .slice p2 _ c2, .slice (some ⟨_, 0, none⟩) _ _]) bld_110 rfl rfl ?_
  refine o_box rfl (fun b4 => ?_)
  refine o_asg rfl ?_
  refine o_asg rfl ?_
  refine w_nil ?_
  exact w_ret (ret2 rfl rfl rfl) ⟨_, _, _, _, H1, H2, ar1, Tb1, s1, m1, o1, rfl, hO1, hO2, hB1, rfl⟩ (Take.sub (by repeat (first | exact Take.nil | exact Take.all _ | (apply Take.cons; focus (repeat (first | exact Pick.here | apply Pick.next))))))

theorem poly_NewJoiner8 {b : Nat} {ar : Array Value} {T : TypeId} {Tb : Hp} {s : Nat → Bool} {made told : Int} (hr : BankRep ar Tb s made told) (hmade : 0 ≤ made ∧ made ≤ 900000000) (htold : 0 ≤ told ∧ told ≤ 900000000) : Ctr Try.prog 23 [.pointer (some ⟨b, 0, none⟩), .int .i64 8] ([[(b, .cells (ar) T (0, 0))], Tb]) (fun v ho => ∃ p bx hv tv H1 H2 ar' Tb' s' made' told', v = .tuple #[.pointer (some ⟨p, 0, none⟩), .int .i64 0] ∧ OwnI H1 hv 35 .i16 (filterL 8) ∧ OwnI H2 tv 35 .i16 (turnL (8 * 8)) ∧ BankRep ar' Tb' s' made' told' ∧ ho = [[(p, .cells #[.int .i64 8, hv, tv, .slice (some ⟨bx, 0, none⟩) 160 160] 110 (0, 0))], [(bx, .cells (ints .i64 (List.replicate 160 0)) 2 (0, 0))], H1, H2, [(b, .cells ar' T (0, 0))], Tb']) := by
  refine spec_of Try.func23 rfl rfl fun w0 L => ?_
  refine w_seq ?_
  refine w_region rfl ?_
  refine o_asg rfl ?_
  refine o_asg rfl ?_
  refine w_nil ?_
  refine w_seq ?_
  refine w_region rfl ?_
  refine o_mov rfl ?_
  refine o_mov rfl ?_
  refine o_call (poly_tables8 (T := T) hr hmade htold) fn_47 rfl (by repeat (first | exact Take.nil | exact Take.all _ | (apply Take.cons; focus (repeat (first | exact Pick.here | apply Pick.next))))) ?_
  rintro v ho ⟨hv, tv, H1, H2, ar1, Tb1, s1, m1, o1, rfl, hO1, hO2, hB1, -, -, -, -, rfl⟩
  obtain ⟨p1, c1, rfl, -⟩ := Rd.slice hO1.ints
  obtain ⟨p2, c2, rfl, -⟩ := Rd.slice hO2.ints
  refine o_mov rfl ?_
  refine o_ext rfl rfl ?_
  refine o_ext rfl rfl ?_
  refine o_alloc zer_101 (fun b2 => ?_)
  refine o_storeN siz_101 rfl rfl rfl (by repeat (first | exact Upd.here | apply Upd.next)) (by first | exact Nat.le_of_ble_eq_true rfl | decide | (simp; done) | omega) (by first | rfl | simp) ?_
  refine o_asg rfl ?_
  refine w_nil ?_
  refine w_seq ?_
  refine w_seq ?_
  refine w_region rfl ?_
  refine o_mov rfl ?_
  refine o_ne_f rfl rfl (by omega) ?_
  refine w_nil ?_
  refine w_if_f rfl ?_
  refine w_skip ?_
  refine w_seq ?_
  refine w_line [(0, true), (1, true), (2, true), (3, false), (4, true), (5, false), (6, true), (7, true)] mixed (by kernel_rfl) ?_
  refine o_loadN (vs := #[.int .i64 8, .slice p1 _ c1, .slice p2 _ c2]) lod_101 rfl (by repeat (first | exact At.here | (refine At.inA ?_; assumption) | apply At.next)) (Nat.le_of_ble_eq_true rfl) rfl ?_
  refine o_mov rfl ?_
  refine o_mul rfl rfl (by first | exact IntWalk.i64_in _ (by omega) | rfl) ?_
  refine o_mks slc_71 zer_2 rfl rfl (by omega) (by omega) (by omega) (by omega) (fun b3 => ?_)
  rw [show madeCells (Value.cells (.int .i64 0)) ((20 * 8 : Int).toNat * 1) = ints .i64 (List.replicate 160 0) from (by rw [show ((20 * 8 : Int).toNat * 1) = 160 from rfl]; exact ints_made _ 160)]
  refine o_bld (c := #[.int .i64 8, .slice p1 _ c1, .slice p2 _ c2, .slice (some ⟨_, 0, none⟩) _ _]) bld_110 rfl rfl ?_
  refine o_box rfl (fun b4 => ?_)
  refine o_asg rfl ?_
  refine o_asg rfl ?_
  refine w_nil ?_
  exact w_ret (ret2 rfl rfl rfl) ⟨_, _, _, _, H1, H2, ar1, Tb1, s1, m1, o1, rfl, hO1, hO2, hB1, rfl⟩ (Take.sub (by repeat (first | exact Take.nil | exact Take.all _ | (apply Take.cons; focus (repeat (first | exact Pick.here | apply Pick.next))))))

end Go.Proofs.Ytjmnidcfgkdhcaa
