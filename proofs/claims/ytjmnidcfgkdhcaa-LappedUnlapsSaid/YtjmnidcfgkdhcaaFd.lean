/- Contracts of the layer bank: Turn, Slope, Filter, of any bank, of no bank. No condition but on the counts. -/
import Derived.Test.YtjmnidcfgkdhcaaTy
import Derived.Test.YtjmnidcfgkdhcaaFc
namespace Go.Proofs.Ytjmnidcfgkdhcaa
open Go.Eng
set_option linter.unusedVariables false
set_option linter.unusedSimpArgs false
set_option maxRecDepth 20000
attribute [local irreducible] WL WT
theorem bank_Turn {b : Nat} {ar : Array Value} {T : TypeId} {Tb : Hp} {s : Nat → Bool} {made told : Int} (hr : BankRep ar Tb s made told) (hmade : 0 ≤ made ∧ made ≤ 1000000000) (htold : 0 ≤ told ∧ told ≤ 1000000000) {n : Nat} (h4 : 4 ≤ n) (hn : n ≤ 1024) (hd : n % 4 = 0) : Ctr Try.prog 40 [.pointer (some ⟨b, 0, none⟩), .int .i64 n] ([[(b, .cells (ar) T (0, 0))], Tb]) (fun v ho => ∃ v1 ar' Tb' H', v = .tuple #[v1, .int .i64 0] ∧ isNilS v1 = false ∧ OwnI H' v1 35 .i16 (turnL n) ∧ BankRep ar' Tb' (fun j => j == n / 4 || s j) (made + (if s (n / 4) then 0 else 1)) (told + 1) ∧ ho = [H', [(b, .cells (ar') T (0, 0))], Tb']) := by
  have htab : tabOf (n / 4) = turnL n := by unfold tabOf; rw [if_pos (by omega)]; congr 1; omega
  refine spec_of Try.func40 rfl rfl fun w0 L => ?_
  refine w_seq ?_
  refine w_region rfl ?_
  refine o_box rfl (fun b1 => ?_)
  refine o_asg rfl ?_
  refine o_asg rfl ?_
  refine w_nil ?_
  refine w_seq ?_
  refine w_seq ?_
  refine w_region rfl ?_
  refine o_mov rfl ?_
  refine o_load lod_3 rfl (by repeat (first | exact At.here | (refine At.inA ?_; assumption) | apply At.next)) rfl ?_
  refine o_ge_t rfl rfl (by omega) ?_
  refine o_mov rfl ?_
  refine o_yes rfl rfl ?_
  refine o_load lod_3 rfl (by repeat (first | exact At.here | (refine At.inA ?_; assumption) | apply At.next)) rfl ?_
  refine o_yes rfl rfl ?_
  refine o_le_t rfl rfl (by omega) ?_
  refine o_pick_t rfl rfl ?_
  refine o_mov rfl ?_
  refine o_yes rfl rfl ?_
  refine o_load lod_3 rfl (by repeat (first | exact At.here | (refine At.inA ?_; assumption) | apply At.next)) rfl ?_
  refine o_yes rfl rfl ?_
  refine o_rem rfl rfl (by first | decide | omega) (by first | exact IntWalk.rem_in _ _ (by omega) | rfl) ?_
  refine o_yes rfl rfl ?_
  refine o_eq_t rfl rfl (by omega) ?_
  refine o_pick_t rfl rfl ?_
  refine o_call (bank_may _ _) fn_71 rfl (by repeat (first | exact Take.nil | exact Take.all _ | (apply Take.cons; focus (repeat (first | exact Pick.here | apply Pick.next))))) ?_
  rintro v ho ⟨rfl, rfl⟩
  refine o_asg rfl ?_
  refine w_nil ?_
  refine w_seq ?_
  refine w_region rfl ?_
  refine o_mov rfl ?_
  refine o_ne_f rfl rfl (by simp) ?_
  refine w_nil ?_
  refine w_if_f rfl ?_
  refine w_skip ?_
  refine w_seq ?_
  refine w_line [(0, true), (1, true), (2, true), (3, true), (4, true), (5, true), (6, true), (7, true), (8, true), (9, false), (10, true), (11, true), (12, true), (13, true)] mixed (by kernel_rfl) ?_
  refine o_mov rfl ?_
  refine o_mov rfl ?_
  refine o_load lod_3 rfl (by repeat (first | exact At.here | (refine At.inA ?_; assumption) | apply At.next)) rfl ?_
  refine o_quo rfl rfl (by first | decide | omega) (by first | exact IntWalk.i64_quo _ _ (by omega) | exact IntWalk.i64_quo' _ _ (by omega) | rfl) ?_
  refine o_nilc rfl ?_
  refine o_fld fld_98_0 rfl rfl ?_
  refine o_idxA arr_91 (off := 4 * (n / 4)) rfl rfl ⟨by omega, by omega⟩ (by omega) ?_
  refine o_load lod_3 rfl (by repeat (first | exact At.here | (refine At.inA ?_; assumption) | apply At.next)) rfl ?_
  refine o_mkf rfl rfl ?_
  refine o_call (tell_any (T := T) (b := b) (k := n / 4) (N := n) (g := 73) (cap := #[.pointer (some ⟨b1, 0, none⟩)]) (Hc := [(b1, .cells #[.int .i64 n] 3 (0, 0))]) hr (by omega) hmade htold (by rw [htab, turnL_len]) fn_73 (fun i hi => (turn1 i n (by omega) (by omega) (by omega)).mono (by rintro v ho ⟨rfl, rfl⟩; exact ⟨by rw [htab, turnL_get hi], rfl⟩))) fn_72 rfl (by repeat (first | exact Take.nil | exact Take.all _ | (apply Take.cons; focus (repeat (first | exact Pick.here | apply Pick.next))))) ?_
  rintro v ho ⟨v1, ar', Tb', H', rfl, hnil, hO, hB, rfl⟩
  refine o_ext rfl rfl ?_
  refine o_ext rfl rfl ?_
  refine o_asg rfl ?_
  refine o_asg rfl ?_
  refine w_nil ?_
  rw [htab] at hO
  exact w_ret (ret2 rfl rfl rfl) ⟨_, _, _, H', rfl, hnil, hO, hB, rfl⟩ (Take.sub (by repeat (first | exact Take.nil | exact Take.all _ | (apply Take.cons; focus (repeat (first | exact Pick.here | apply Pick.next))))))

theorem bank_Slope {b : Nat} {ar : Array Value} {T : TypeId} {Tb : Hp} {s : Nat → Bool} {made told : Int} (hr : BankRep ar Tb s made told) (hmade : 0 ≤ made ∧ made ≤ 1000000000) (htold : 0 ≤ told ∧ told ≤ 1000000000) {n : Nat} (h1 : 1 ≤ n) (hn : n ≤ 128) : Ctr Try.prog 41 [.pointer (some ⟨b, 0, none⟩), .int .i64 n] ([[(b, .cells (ar) T (0, 0))], Tb]) (fun v ho => ∃ v1 ar' Tb' H', v = .tuple #[v1, .int .i64 0] ∧ isNilS v1 = false ∧ OwnI H' v1 35 .i16 (slopeL n) ∧ BankRep ar' Tb' (fun j => j == 257 + n || s j) (made + (if s (257 + n) then 0 else 1)) (told + 1) ∧ ho = [H', [(b, .cells (ar') T (0, 0))], Tb']) := by
  have htab : tabOf (257 + n) = slopeL n := by unfold tabOf; rw [if_neg (by omega), if_pos (by omega)]; congr 1; omega
  refine spec_of Try.func41 rfl rfl fun w0 L => ?_
  refine w_seq ?_
  refine w_region rfl ?_
  refine o_box rfl (fun b1 => ?_)
  refine o_asg rfl ?_
  refine o_asg rfl ?_
  refine w_nil ?_
  refine w_seq ?_
  refine w_seq ?_
  refine w_region rfl ?_
  refine o_mov rfl ?_
  refine o_load lod_3 rfl (by repeat (first | exact At.here | (refine At.inA ?_; assumption) | apply At.next)) rfl ?_
  refine o_ge_t rfl rfl (by omega) ?_
  refine o_mov rfl ?_
  refine o_yes rfl rfl ?_
  refine o_load lod_3 rfl (by repeat (first | exact At.here | (refine At.inA ?_; assumption) | apply At.next)) rfl ?_
  refine o_yes rfl rfl ?_
  refine o_le_t rfl rfl (by omega) ?_
  refine o_pick_t rfl rfl ?_
  refine o_call (bank_may _ _) fn_71 rfl (by repeat (first | exact Take.nil | exact Take.all _ | (apply Take.cons; focus (repeat (first | exact Pick.here | apply Pick.next))))) ?_
  rintro v ho ⟨rfl, rfl⟩
  refine o_asg rfl ?_
  refine w_nil ?_
  refine w_seq ?_
  refine w_region rfl ?_
  refine o_mov rfl ?_
  refine o_ne_f rfl rfl (by simp) ?_
  refine w_nil ?_
  refine w_if_f rfl ?_
  refine w_skip ?_
  refine w_seq ?_
  refine w_line [(0, true), (1, true), (2, true), (3, true), (4, true), (5, true), (6, true), (7, true), (8, false), (9, true), (10, true), (11, true), (12, true)] mixed (by kernel_rfl) ?_
  refine o_mov rfl ?_
  refine o_mov rfl ?_
  refine o_load lod_3 rfl (by repeat (first | exact At.here | (refine At.inA ?_; assumption) | apply At.next)) rfl ?_
  refine o_nilc rfl ?_
  refine o_fld fld_98_1 rfl rfl ?_
  refine o_idxA arr_92 (off := 4 * (257 + n)) rfl rfl ⟨by omega, by omega⟩ (by omega) ?_
  refine o_load lod_3 rfl (by repeat (first | exact At.here | (refine At.inA ?_; assumption) | apply At.next)) rfl ?_
  refine o_mkf rfl rfl ?_
  refine o_call (tell_any (T := T) (b := b) (k := 257 + n) (N := n) (g := 75) (cap := #[.pointer (some ⟨b1, 0, none⟩)]) (Hc := [(b1, .cells #[.int .i64 n] 3 (0, 0))]) hr (by omega) hmade htold (by rw [htab, slopeL_len]) fn_75 (fun i hi => (slope1 i n (by omega) (by omega) (by omega)).mono (by rintro v ho ⟨rfl, rfl⟩; exact ⟨by rw [htab, slopeL_get hi], rfl⟩))) fn_72 rfl (by repeat (first | exact Take.nil | exact Take.all _ | (apply Take.cons; focus (repeat (first | exact Pick.here | apply Pick.next))))) ?_
  rintro v ho ⟨v1, ar', Tb', H', rfl, hnil, hO, hB, rfl⟩
  refine o_ext rfl rfl ?_
  refine o_ext rfl rfl ?_
  refine o_asg rfl ?_
  refine o_asg rfl ?_
  refine w_nil ?_
  rw [htab] at hO
  exact w_ret (ret2 rfl rfl rfl) ⟨_, _, _, H', rfl, hnil, hO, hB, rfl⟩ (Take.sub (by repeat (first | exact Take.nil | exact Take.all _ | (apply Take.cons; focus (repeat (first | exact Pick.here | apply Pick.next))))))

theorem bank_Filter4 {b : Nat} {ar : Array Value} {T : TypeId} {Tb : Hp} {s : Nat → Bool} {made told : Int} (hr : BankRep ar Tb s made told) (hmade : 0 ≤ made ∧ made ≤ 1000000000) (htold : 0 ≤ told ∧ told ≤ 1000000000) {n : Nat} (hm : n = 4) : Ctr Try.prog 42 [.pointer (some ⟨b, 0, none⟩), .int .i64 n] ([[(b, .cells (ar) T (0, 0))], Tb]) (fun v ho => ∃ v1 ar' Tb' H', v = .tuple #[v1, .int .i64 0] ∧ isNilS v1 = false ∧ OwnI H' v1 35 .i16 (filterL n) ∧ BankRep ar' Tb' (fun j => j == 386 + n / 8 || s j) (made + (if s (386 + n / 8) then 0 else 1)) (told + 1) ∧ ho = [H', [(b, .cells (ar') T (0, 0))], Tb']) := by
  have htab : tabOf (386 + n / 8) = filterL n := by subst hm; rfl
  refine spec_of Try.func42 rfl rfl fun w0 L => ?_
  refine w_seq ?_
  refine w_region rfl ?_
  refine o_box rfl (fun b1 => ?_)
  refine o_asg rfl ?_
  refine o_asg rfl ?_
  refine w_nil ?_
  refine w_seq ?_
  refine w_seq ?_
  refine w_region rfl ?_
  refine o_mov rfl ?_
  refine o_load lod_3 rfl (by repeat (first | exact At.here | (refine At.inA ?_; assumption) | apply At.next)) rfl ?_
  refine o_eq_t rfl rfl (by omega) ?_
  refine o_mov rfl ?_
  refine o_no rfl rfl rfl ?_
  refine o_no rfl rfl rfl ?_
  refine o_pick_t rfl rfl ?_
  refine o_call (bank_may _ _) fn_71 rfl (by repeat (first | exact Take.nil | exact Take.all _ | (apply Take.cons; focus (repeat (first | exact Pick.here | apply Pick.next))))) ?_
  rintro v ho ⟨rfl, rfl⟩
  refine o_asg rfl ?_
  refine w_nil ?_
  refine w_seq ?_
  refine w_region rfl ?_
  refine o_mov rfl ?_
  refine o_ne_f rfl rfl (by simp) ?_
  refine w_nil ?_
  refine w_if_f rfl ?_
  refine w_skip ?_
  refine w_seq ?_
  refine w_line [(0, true), (1, true), (2, true), (3, true), (4, true), (5, true), (6, true), (7, true), (8, true), (9, true), (10, false), (11, true), (12, true), (13, true), (14, true)] mixed (by kernel_rfl) ?_
  refine o_mov rfl ?_
  refine o_mov rfl ?_
  refine o_load lod_3 rfl (by repeat (first | exact At.here | (refine At.inA ?_; assumption) | apply At.next)) rfl ?_
  refine o_quo rfl rfl (by first | decide | omega) (by first | exact IntWalk.i64_quo _ _ (by omega) | exact IntWalk.i64_quo' _ _ (by omega) | rfl) ?_
  refine o_nilc rfl ?_
  refine o_fld fld_98_2 rfl rfl ?_
  refine o_idxA arr_93 (off := 4 * (386 + n / 8)) rfl rfl ⟨by omega, by omega⟩ (by omega) ?_
  refine o_load lod_3 rfl (by repeat (first | exact At.here | (refine At.inA ?_; assumption) | apply At.next)) rfl ?_
  refine o_mul rfl rfl (by first | exact IntWalk.i64_in _ (by omega) | rfl) ?_
  refine o_mkf rfl rfl ?_
  refine o_call (tell_any (T := T) (b := b) (k := 386 + n / 8) (N := 10 * n) (g := 77) (cap := #[.pointer (some ⟨b1, 0, none⟩)]) (Hc := [(b1, .cells #[.int .i64 n] 3 (0, 0))]) hr (by omega) hmade htold (by rw [htab, filterL_len]) fn_77 (fun i hi => (filter1 i n (by omega) (by omega) (by omega)).mono (by rintro v ho ⟨rfl, rfl⟩; exact ⟨by rw [htab, filterL_get hi], rfl⟩))) fn_72 rfl (by repeat (first | exact Take.nil | exact Take.all _ | (apply Take.cons; focus (repeat (first | exact Pick.here | apply Pick.next))))) ?_
  rintro v ho ⟨v1, ar', Tb', H', rfl, hnil, hO, hB, rfl⟩
  refine o_ext rfl rfl ?_
  refine o_ext rfl rfl ?_
  refine o_asg rfl ?_
  refine o_asg rfl ?_
  refine w_nil ?_
  rw [htab] at hO
  exact w_ret (ret2 rfl rfl rfl) ⟨_, _, _, H', rfl, hnil, hO, hB, rfl⟩ (Take.sub (by repeat (first | exact Take.nil | exact Take.all _ | (apply Take.cons; focus (repeat (first | exact Pick.here | apply Pick.next))))))

theorem bank_Filter8 {b : Nat} {ar : Array Value} {T : TypeId} {Tb : Hp} {s : Nat → Bool} {made told : Int} (hr : BankRep ar Tb s made told) (hmade : 0 ≤ made ∧ made ≤ 1000000000) (htold : 0 ≤ told ∧ told ≤ 1000000000) {n : Nat} (hm : n = 8) : Ctr Try.prog 42 [.pointer (some ⟨b, 0, none⟩), .int .i64 n] ([[(b, .cells (ar) T (0, 0))], Tb]) (fun v ho => ∃ v1 ar' Tb' H', v = .tuple #[v1, .int .i64 0] ∧ isNilS v1 = false ∧ OwnI H' v1 35 .i16 (filterL n) ∧ BankRep ar' Tb' (fun j => j == 386 + n / 8 || s j) (made + (if s (386 + n / 8) then 0 else 1)) (told + 1) ∧ ho = [H', [(b, .cells (ar') T (0, 0))], Tb']) := by
  have htab : tabOf (386 + n / 8) = filterL n := by subst hm; rfl
  refine spec_of Try.func42 rfl rfl fun w0 L => ?_
  refine w_seq ?_
  refine w_region rfl ?_
  refine o_box rfl (fun b1 => ?_)
  refine o_asg rfl ?_
  refine o_asg rfl ?_
  refine w_nil ?_
  refine w_seq ?_
  refine w_seq ?_
  refine w_region rfl ?_
  refine o_mov rfl ?_
  refine o_load lod_3 rfl (by repeat (first | exact At.here | (refine At.inA ?_; assumption) | apply At.next)) rfl ?_
  refine o_eq_f rfl rfl (by omega) ?_
  refine o_mov rfl ?_
  refine o_yes rfl rfl ?_
  refine o_load lod_3 rfl (by repeat (first | exact At.here | (refine At.inA ?_; assumption) | apply At.next)) rfl ?_
  refine o_yes rfl rfl ?_
  refine o_eq_t rfl rfl (by omega) ?_
  refine o_pick_f rfl rfl ?_
  refine o_call (bank_may _ _) fn_71 rfl (by repeat (first | exact Take.nil | exact Take.all _ | (apply Take.cons; focus (repeat (first | exact Pick.here | apply Pick.next))))) ?_
  rintro v ho ⟨rfl, rfl⟩
  refine o_asg rfl ?_
  refine w_nil ?_
  refine w_seq ?_
  refine w_region rfl ?_
  refine o_mov rfl ?_
  refine o_ne_f rfl rfl (by simp) ?_
  refine w_nil ?_
  refine w_if_f rfl ?_
  refine w_skip ?_
  refine w_seq ?_
  refine w_line [(0, true), (1, true), (2, true), (3, true), (4, true), (5, true), (6, true), (7, true), (8, true), (9, true), (10, false), (11, true), (12, true), (13, true), (14, true)] mixed (by kernel_rfl) ?_
  refine o_mov rfl ?_
  refine o_mov rfl ?_
  refine o_load lod_3 rfl (by repeat (first | exact At.here | (refine At.inA ?_; assumption) | apply At.next)) rfl ?_
  refine o_quo rfl rfl (by first | decide | omega) (by first | exact IntWalk.i64_quo _ _ (by omega) | exact IntWalk.i64_quo' _ _ (by omega) | rfl) ?_
  refine o_nilc rfl ?_
  refine o_fld fld_98_2 rfl rfl ?_
  refine o_idxA arr_93 (off := 4 * (386 + n / 8)) rfl rfl ⟨by omega, by omega⟩ (by omega) ?_
  refine o_load lod_3 rfl (by repeat (first | exact At.here | (refine At.inA ?_; assumption) | apply At.next)) rfl ?_
  refine o_mul rfl rfl (by first | exact IntWalk.i64_in _ (by omega) | rfl) ?_
  refine o_mkf rfl rfl ?_
  refine o_call (tell_any (T := T) (b := b) (k := 386 + n / 8) (N := 10 * n) (g := 77) (cap := #[.pointer (some ⟨b1, 0, none⟩)]) (Hc := [(b1, .cells #[.int .i64 n] 3 (0, 0))]) hr (by omega) hmade htold (by rw [htab, filterL_len]) fn_77 (fun i hi => (filter1 i n (by omega) (by omega) (by omega)).mono (by rintro v ho ⟨rfl, rfl⟩; exact ⟨by rw [htab, filterL_get hi], rfl⟩))) fn_72 rfl (by repeat (first | exact Take.nil | exact Take.all _ | (apply Take.cons; focus (repeat (first | exact Pick.here | apply Pick.next))))) ?_
  rintro v ho ⟨v1, ar', Tb', H', rfl, hnil, hO, hB, rfl⟩
  refine o_ext rfl rfl ?_
  refine o_ext rfl rfl ?_
  refine o_asg rfl ?_
  refine o_asg rfl ?_
  refine w_nil ?_
  rw [htab] at hO
  exact w_ret (ret2 rfl rfl rfl) ⟨_, _, _, H', rfl, hnil, hO, hB, rfl⟩ (Take.sub (by repeat (first | exact Take.nil | exact Take.all _ | (apply Take.cons; focus (repeat (first | exact Pick.here | apply Pick.next))))))

theorem bank_Filter {b : Nat} {ar : Array Value} {T : TypeId} {Tb : Hp} {s : Nat → Bool} {made told : Int} (hr : BankRep ar Tb s made told) (hmade : 0 ≤ made ∧ made ≤ 1000000000) (htold : 0 ≤ told ∧ told ≤ 1000000000) {n : Nat} (hm : n = 4 ∨ n = 8) : Ctr Try.prog 42 [.pointer (some ⟨b, 0, none⟩), .int .i64 n] ([[(b, .cells (ar) T (0, 0))], Tb]) (fun v ho => ∃ v1 ar' Tb' H', v = .tuple #[v1, .int .i64 0] ∧ isNilS v1 = false ∧ OwnI H' v1 35 .i16 (filterL n) ∧ BankRep ar' Tb' (fun j => j == 386 + n / 8 || s j) (made + (if s (386 + n / 8) then 0 else 1)) (told + 1) ∧ ho = [H', [(b, .cells (ar') T (0, 0))], Tb']) := hm.elim (bank_Filter4 hr hmade htold) (bank_Filter8 hr hmade htold)

theorem bank_Turn_bad {b : Nat} {ar : Array Value} {T : TypeId} {Tb : Hp} {s : Nat → Bool} {made told : Int} (hr : BankRep ar Tb s made told) (hmade : 0 ≤ made ∧ made ≤ 1000000000) (htold : 0 ≤ told ∧ told ≤ 1000000000) (n : Int) (hn : n < 4 ∨ 1024 < n ∨ n % 4 ≠ 0) (hw : -9223372036854775808 ≤ n ∧ n ≤ 9223372036854775807) : Ctr Try.prog 40 [.pointer (some ⟨b, 0, none⟩), .int .i64 n] ([[(b, .cells (ar) T (0, 0))], Tb]) (fun v ho => v = .tuple #[.slice none 0 0, .int .i64 1] ∧ ho = [[(b, .cells (ar) T (0, 0))], Tb]) := by
  refine spec_of Try.func40 rfl rfl fun w0 L => ?_
  refine w_seq ?_
  refine w_region rfl ?_
  refine o_box rfl (fun b1 => ?_)
  refine o_asg rfl ?_
  refine o_asg rfl ?_
  refine w_nil ?_
  refine w_seq ?_
  refine w_seq ?_
  refine w_region rfl ?_
  refine o_mov rfl ?_
  refine o_load lod_3 rfl (by repeat (first | exact At.here | (refine At.inA ?_; assumption) | apply At.next)) rfl ?_
  refine o_ge_s rfl rfl (fun h1 => ?_) (fun h1 => ?_)
  · refine o_mov rfl ?_
    refine o_yes rfl rfl ?_
    refine o_load lod_3 rfl (by repeat (first | exact At.here | (refine At.inA ?_; assumption) | apply At.next)) rfl ?_
    refine o_yes rfl rfl ?_
    refine o_le_s rfl rfl (fun h2 => ?_) (fun h2 => ?_)
    · refine o_pick_t rfl rfl ?_
      refine o_mov rfl ?_
      refine o_yes rfl rfl ?_
      refine o_load lod_3 rfl (by repeat (first | exact At.here | (refine At.inA ?_; assumption) | apply At.next)) rfl ?_
      refine o_yes rfl rfl ?_
      refine o_rem rfl rfl (by first | decide | omega) (by first | exact IntWalk.rem_in _ _ (by omega) | rfl) ?_
      refine o_yes rfl rfl ?_
      refine o_eq_s rfl rfl (fun h3 => ?_) (fun h3 => ?_)
      · omega
      · refine o_pick_t rfl rfl ?_
        refine o_call (bank_may _ _) fn_71 rfl (by repeat (first | exact Take.nil | exact Take.all _ | (apply Take.cons; focus (repeat (first | exact Pick.here | apply Pick.next))))) ?_
        rintro v ho ⟨rfl, rfl⟩
        refine o_asg rfl ?_
        refine w_nil ?_
        refine w_seq ?_
        refine w_region rfl ?_
        refine o_mov rfl ?_
        refine o_ne_t rfl rfl (by simp) ?_
        refine w_nil ?_
        refine w_if_t rfl ?_
        refine w_seq ?_
        refine w_region rfl ?_
        refine o_mov rfl ?_
        refine o_asg rfl ?_
        refine o_asg rfl ?_
        refine w_nil ?_
        exact w_ret (ret2 rfl rfl rfl) ⟨rfl, rfl⟩ (Take.sub (by repeat (first | exact Take.nil | exact Take.all _ | (apply Take.cons; focus (repeat (first | exact Pick.here | apply Pick.next))))))
    · refine o_pick_t rfl rfl ?_
      refine o_mov rfl ?_
      refine o_no rfl rfl rfl ?_
      refine o_no rfl rfl rfl ?_
      refine o_no rfl rfl rfl ?_
      refine o_pick_f rfl rfl ?_
      refine o_call (bank_may _ _) fn_71 rfl (by repeat (first | exact Take.nil | exact Take.all _ | (apply Take.cons; focus (repeat (first | exact Pick.here | apply Pick.next))))) ?_
      rintro v ho ⟨rfl, rfl⟩
      refine o_asg rfl ?_
      refine w_nil ?_
      refine w_seq ?_
      refine w_region rfl ?_
      refine o_mov rfl ?_
      refine o_ne_t rfl rfl (by simp) ?_
      refine w_nil ?_
      refine w_if_t rfl ?_
      refine w_seq ?_
      refine w_region rfl ?_
      refine o_mov rfl ?_
      refine o_asg rfl ?_
      refine o_asg rfl ?_
      refine w_nil ?_
      exact w_ret (ret2 rfl rfl rfl) ⟨rfl, rfl⟩ (Take.sub (by repeat (first | exact Take.nil | exact Take.all _ | (apply Take.cons; focus (repeat (first | exact Pick.here | apply Pick.next))))))
  · refine o_mov rfl ?_
    refine o_no rfl rfl rfl ?_
    refine o_no rfl rfl rfl ?_
    refine o_pick_f rfl rfl ?_
    refine o_mov rfl ?_
    refine o_no rfl rfl rfl ?_
    refine o_no rfl rfl rfl ?_
    refine o_no rfl rfl rfl ?_
    refine o_pick_f rfl rfl ?_
    refine o_call (bank_may _ _) fn_71 rfl (by repeat (first | exact Take.nil | exact Take.all _ | (apply Take.cons; focus (repeat (first | exact Pick.here | apply Pick.next))))) ?_
    rintro v ho ⟨rfl, rfl⟩
    refine o_asg rfl ?_
    refine w_nil ?_
    refine w_seq ?_
    refine w_region rfl ?_
    refine o_mov rfl ?_
    refine o_ne_t rfl rfl (by simp) ?_
    refine w_nil ?_
    refine w_if_t rfl ?_
    refine w_seq ?_
    refine w_region rfl ?_
    refine o_mov rfl ?_
    refine o_asg rfl ?_
    refine o_asg rfl ?_
    refine w_nil ?_
    exact w_ret (ret2 rfl rfl rfl) ⟨rfl, rfl⟩ (Take.sub (by repeat (first | exact Take.nil | exact Take.all _ | (apply Take.cons; focus (repeat (first | exact Pick.here | apply Pick.next))))))

theorem bank_Turn_nil (n : Int) (hw : -9223372036854775808 ≤ n ∧ n ≤ 9223372036854775807) : Ctr Try.prog 40 [.pointer none, .int .i64 n] ([]) (fun v ho => v = .tuple #[.slice none 0 0, .int .i64 3] ∧ ho = []) := by
  refine spec_of Try.func40 rfl rfl fun w0 L => ?_
  refine w_seq ?_
  refine w_region rfl ?_
  refine o_box rfl (fun b1 => ?_)
  refine o_asg rfl ?_
  refine o_asg rfl ?_
  refine w_nil ?_
  refine w_seq ?_
  refine w_seq ?_
  refine w_region rfl ?_
  refine o_mov rfl ?_
  refine o_load lod_3 rfl (by repeat (first | exact At.here | (refine At.inA ?_; assumption) | apply At.next)) rfl ?_
  refine o_ge_s rfl rfl (fun h1 => ?_) (fun h1 => ?_)
  · refine o_mov rfl ?_
    refine o_yes rfl rfl ?_
    refine o_load lod_3 rfl (by repeat (first | exact At.here | (refine At.inA ?_; assumption) | apply At.next)) rfl ?_
    refine o_yes rfl rfl ?_
    refine o_le_s rfl rfl (fun h2 => ?_) (fun h2 => ?_)
    · refine o_pick_t rfl rfl ?_
      refine o_mov rfl ?_
      refine o_yes rfl rfl ?_
      refine o_load lod_3 rfl (by repeat (first | exact At.here | (refine At.inA ?_; assumption) | apply At.next)) rfl ?_
      refine o_yes rfl rfl ?_
      refine o_rem rfl rfl (by first | decide | omega) (by first | exact IntWalk.rem_in _ _ (by omega) | rfl) ?_
      refine o_yes rfl rfl ?_
      refine o_eq_s rfl rfl (fun h3 => ?_) (fun h3 => ?_)
      · refine o_pick_t rfl rfl ?_
        refine o_call (bank_may_nil _) fn_71 rfl (by repeat (first | exact Take.nil | exact Take.all _ | (apply Take.cons; focus (repeat (first | exact Pick.here | apply Pick.next))))) ?_
        rintro v ho ⟨rfl, rfl⟩
        refine o_asg rfl ?_
        refine w_nil ?_
        refine w_seq ?_
        refine w_region rfl ?_
        refine o_mov rfl ?_
        refine o_ne_t rfl rfl (by simp) ?_
        refine w_nil ?_
        refine w_if_t rfl ?_
        refine w_seq ?_
        refine w_region rfl ?_
        refine o_mov rfl ?_
        refine o_asg rfl ?_
        refine o_asg rfl ?_
        refine w_nil ?_
        exact w_ret (ret2 rfl rfl rfl) ⟨rfl, rfl⟩ (Take.sub (by repeat (first | exact Take.nil | exact Take.all _ | (apply Take.cons; focus (repeat (first | exact Pick.here | apply Pick.next))))))
      · refine o_pick_t rfl rfl ?_
        refine o_call (bank_may_nil _) fn_71 rfl (by repeat (first | exact Take.nil | exact Take.all _ | (apply Take.cons; focus (repeat (first | exact Pick.here | apply Pick.next))))) ?_
        rintro v ho ⟨rfl, rfl⟩
        refine o_asg rfl ?_
        refine w_nil ?_
        refine w_seq ?_
        refine w_region rfl ?_
        refine o_mov rfl ?_
        refine o_ne_t rfl rfl (by simp) ?_
        refine w_nil ?_
        refine w_if_t rfl ?_
        refine w_seq ?_
        refine w_region rfl ?_
        refine o_mov rfl ?_
        refine o_asg rfl ?_
        refine o_asg rfl ?_
        refine w_nil ?_
        exact w_ret (ret2 rfl rfl rfl) ⟨rfl, rfl⟩ (Take.sub (by repeat (first | exact Take.nil | exact Take.all _ | (apply Take.cons; focus (repeat (first | exact Pick.here | apply Pick.next))))))
    · refine o_pick_t rfl rfl ?_
      refine o_mov rfl ?_
      refine o_no rfl rfl rfl ?_
      refine o_no rfl rfl rfl ?_
      refine o_no rfl rfl rfl ?_
      refine o_pick_f rfl rfl ?_
      refine o_call (bank_may_nil _) fn_71 rfl (by repeat (first | exact Take.nil | exact Take.all _ | (apply Take.cons; focus (repeat (first | exact Pick.here | apply Pick.next))))) ?_
      rintro v ho ⟨rfl, rfl⟩
      refine o_asg rfl ?_
      refine w_nil ?_
      refine w_seq ?_
      refine w_region rfl ?_
      refine o_mov rfl ?_
      refine o_ne_t rfl rfl (by simp) ?_
      refine w_nil ?_
      refine w_if_t rfl ?_
      refine w_seq ?_
      refine w_region rfl ?_
      refine o_mov rfl ?_
      refine o_asg rfl ?_
      refine o_asg rfl ?_
      refine w_nil ?_
      exact w_ret (ret2 rfl rfl rfl) ⟨rfl, rfl⟩ (Take.sub (by repeat (first | exact Take.nil | exact Take.all _ | (apply Take.cons; focus (repeat (first | exact Pick.here | apply Pick.next))))))
  · refine o_mov rfl ?_
    refine o_no rfl rfl rfl ?_
    refine o_no rfl rfl rfl ?_
    refine o_pick_f rfl rfl ?_
    refine o_mov rfl ?_
    refine o_no rfl rfl rfl ?_
    refine o_no rfl rfl rfl ?_
    refine o_no rfl rfl rfl ?_
    refine o_pick_f rfl rfl ?_
    refine o_call (bank_may_nil _) fn_71 rfl (by repeat (first | exact Take.nil | exact Take.all _ | (apply Take.cons; focus (repeat (first | exact Pick.here | apply Pick.next))))) ?_
    rintro v ho ⟨rfl, rfl⟩
    refine o_asg rfl ?_
    refine w_nil ?_
    refine w_seq ?_
    refine w_region rfl ?_
    refine o_mov rfl ?_
    refine o_ne_t rfl rfl (by simp) ?_
    refine w_nil ?_
    refine w_if_t rfl ?_
    refine w_seq ?_
    refine w_region rfl ?_
    refine o_mov rfl ?_
    refine o_asg rfl ?_
    refine o_asg rfl ?_
    refine w_nil ?_
    exact w_ret (ret2 rfl rfl rfl) ⟨rfl, rfl⟩ (Take.sub (by repeat (first | exact Take.nil | exact Take.all _ | (apply Take.cons; focus (repeat (first | exact Pick.here | apply Pick.next))))))

theorem bank_Slope_bad {b : Nat} {ar : Array Value} {T : TypeId} {Tb : Hp} {s : Nat → Bool} {made told : Int} (hr : BankRep ar Tb s made told) (hmade : 0 ≤ made ∧ made ≤ 1000000000) (htold : 0 ≤ told ∧ told ≤ 1000000000) (n : Int) (hn : n < 1 ∨ 128 < n) (hw : -9223372036854775808 ≤ n ∧ n ≤ 9223372036854775807) : Ctr Try.prog 41 [.pointer (some ⟨b, 0, none⟩), .int .i64 n] ([[(b, .cells (ar) T (0, 0))], Tb]) (fun v ho => v = .tuple #[.slice none 0 0, .int .i64 1] ∧ ho = [[(b, .cells (ar) T (0, 0))], Tb]) := by
  refine spec_of Try.func41 rfl rfl fun w0 L => ?_
  refine w_seq ?_
  refine w_region rfl ?_
  refine o_box rfl (fun b1 => ?_)
  refine o_asg rfl ?_
  refine o_asg rfl ?_
  refine w_nil ?_
  refine w_seq ?_
  refine w_seq ?_
  refine w_region rfl ?_
  refine o_mov rfl ?_
  refine o_load lod_3 rfl (by repeat (first | exact At.here | (refine At.inA ?_; assumption) | apply At.next)) rfl ?_
  refine o_ge_s rfl rfl (fun h1 => ?_) (fun h1 => ?_)
  · refine o_mov rfl ?_
    refine o_yes rfl rfl ?_
    refine o_load lod_3 rfl (by repeat (first | exact At.here | (refine At.inA ?_; assumption) | apply At.next)) rfl ?_
    refine o_yes rfl rfl ?_
    refine o_le_s rfl rfl (fun h2 => ?_) (fun h2 => ?_)
    · omega
    · refine o_pick_t rfl rfl ?_
      refine o_call (bank_may _ _) fn_71 rfl (by repeat (first | exact Take.nil | exact Take.all _ | (apply Take.cons; focus (repeat (first | exact Pick.here | apply Pick.next))))) ?_
      rintro v ho ⟨rfl, rfl⟩
      refine o_asg rfl ?_
      refine w_nil ?_
      refine w_seq ?_
      refine w_region rfl ?_
      refine o_mov rfl ?_
      refine o_ne_t rfl rfl (by simp) ?_
      refine w_nil ?_
      refine w_if_t rfl ?_
      refine w_seq ?_
      refine w_region rfl ?_
      refine o_mov rfl ?_
      refine o_asg rfl ?_
      refine o_asg rfl ?_
      refine w_nil ?_
      exact w_ret (ret2 rfl rfl rfl) ⟨rfl, rfl⟩ (Take.sub (by repeat (first | exact Take.nil | exact Take.all _ | (apply Take.cons; focus (repeat (first | exact Pick.here | apply Pick.next))))))
  · refine o_mov rfl ?_
    refine o_no rfl rfl rfl ?_
    refine o_no rfl rfl rfl ?_
    refine o_pick_f rfl rfl ?_
    refine o_call (bank_may _ _) fn_71 rfl (by repeat (first | exact Take.nil | exact Take.all _ | (apply Take.cons; focus (repeat (first | exact Pick.here | apply Pick.next))))) ?_
    rintro v ho ⟨rfl, rfl⟩
    refine o_asg rfl ?_
    refine w_nil ?_
    refine w_seq ?_
    refine w_region rfl ?_
    refine o_mov rfl ?_
    refine o_ne_t rfl rfl (by simp) ?_
    refine w_nil ?_
    refine w_if_t rfl ?_
    refine w_seq ?_
    refine w_region rfl ?_
    refine o_mov rfl ?_
    refine o_asg rfl ?_
    refine o_asg rfl ?_
    refine w_nil ?_
    exact w_ret (ret2 rfl rfl rfl) ⟨rfl, rfl⟩ (Take.sub (by repeat (first | exact Take.nil | exact Take.all _ | (apply Take.cons; focus (repeat (first | exact Pick.here | apply Pick.next))))))

theorem bank_Slope_nil (n : Int) (hw : -9223372036854775808 ≤ n ∧ n ≤ 9223372036854775807) : Ctr Try.prog 41 [.pointer none, .int .i64 n] ([]) (fun v ho => v = .tuple #[.slice none 0 0, .int .i64 3] ∧ ho = []) := by
  refine spec_of Try.func41 rfl rfl fun w0 L => ?_
  refine w_seq ?_
  refine w_region rfl ?_
  refine o_box rfl (fun b1 => ?_)
  refine o_asg rfl ?_
  refine o_asg rfl ?_
  refine w_nil ?_
  refine w_seq ?_
  refine w_seq ?_
  refine w_region rfl ?_
  refine o_mov rfl ?_
  refine o_load lod_3 rfl (by repeat (first | exact At.here | (refine At.inA ?_; assumption) | apply At.next)) rfl ?_
  refine o_ge_s rfl rfl (fun h1 => ?_) (fun h1 => ?_)
  · refine o_mov rfl ?_
    refine o_yes rfl rfl ?_
    refine o_load lod_3 rfl (by repeat (first | exact At.here | (refine At.inA ?_; assumption) | apply At.next)) rfl ?_
    refine o_yes rfl rfl ?_
    refine o_le_s rfl rfl (fun h2 => ?_) (fun h2 => ?_)
    · refine o_pick_t rfl rfl ?_
      refine o_call (bank_may_nil _) fn_71 rfl (by repeat (first | exact Take.nil | exact Take.all _ | (apply Take.cons; focus (repeat (first | exact Pick.here | apply Pick.next))))) ?_
      rintro v ho ⟨rfl, rfl⟩
      refine o_asg rfl ?_
      refine w_nil ?_
      refine w_seq ?_
      refine w_region rfl ?_
      refine o_mov rfl ?_
      refine o_ne_t rfl rfl (by simp) ?_
      refine w_nil ?_
      refine w_if_t rfl ?_
      refine w_seq ?_
      refine w_region rfl ?_
      refine o_mov rfl ?_
      refine o_asg rfl ?_
      refine o_asg rfl ?_
      refine w_nil ?_
      exact w_ret (ret2 rfl rfl rfl) ⟨rfl, rfl⟩ (Take.sub (by repeat (first | exact Take.nil | exact Take.all _ | (apply Take.cons; focus (repeat (first | exact Pick.here | apply Pick.next))))))
    · refine o_pick_t rfl rfl ?_
      refine o_call (bank_may_nil _) fn_71 rfl (by repeat (first | exact Take.nil | exact Take.all _ | (apply Take.cons; focus (repeat (first | exact Pick.here | apply Pick.next))))) ?_
      rintro v ho ⟨rfl, rfl⟩
      refine o_asg rfl ?_
      refine w_nil ?_
      refine w_seq ?_
      refine w_region rfl ?_
      refine o_mov rfl ?_
      refine o_ne_t rfl rfl (by simp) ?_
      refine w_nil ?_
      refine w_if_t rfl ?_
      refine w_seq ?_
      refine w_region rfl ?_
      refine o_mov rfl ?_
      refine o_asg rfl ?_
      refine o_asg rfl ?_
      refine w_nil ?_
      exact w_ret (ret2 rfl rfl rfl) ⟨rfl, rfl⟩ (Take.sub (by repeat (first | exact Take.nil | exact Take.all _ | (apply Take.cons; focus (repeat (first | exact Pick.here | apply Pick.next))))))
  · refine o_mov rfl ?_
    refine o_no rfl rfl rfl ?_
    refine o_no rfl rfl rfl ?_
    refine o_pick_f rfl rfl ?_
    refine o_call (bank_may_nil _) fn_71 rfl (by repeat (first | exact Take.nil | exact Take.all _ | (apply Take.cons; focus (repeat (first | exact Pick.here | apply Pick.next))))) ?_
    rintro v ho ⟨rfl, rfl⟩
    refine o_asg rfl ?_
    refine w_nil ?_
    refine w_seq ?_
    refine w_region rfl ?_
    refine o_mov rfl ?_
    refine o_ne_t rfl rfl (by simp) ?_
    refine w_nil ?_
    refine w_if_t rfl ?_
    refine w_seq ?_
    refine w_region rfl ?_
    refine o_mov rfl ?_
    refine o_asg rfl ?_
    refine o_asg rfl ?_
    refine w_nil ?_
    exact w_ret (ret2 rfl rfl rfl) ⟨rfl, rfl⟩ (Take.sub (by repeat (first | exact Take.nil | exact Take.all _ | (apply Take.cons; focus (repeat (first | exact Pick.here | apply Pick.next))))))

theorem bank_Filter_bad {b : Nat} {ar : Array Value} {T : TypeId} {Tb : Hp} {s : Nat → Bool} {made told : Int} (hr : BankRep ar Tb s made told) (hmade : 0 ≤ made ∧ made ≤ 1000000000) (htold : 0 ≤ told ∧ told ≤ 1000000000) (n : Int) (hn : n ≠ 4 ∧ n ≠ 8) (hw : -9223372036854775808 ≤ n ∧ n ≤ 9223372036854775807) : Ctr Try.prog 42 [.pointer (some ⟨b, 0, none⟩), .int .i64 n] ([[(b, .cells (ar) T (0, 0))], Tb]) (fun v ho => v = .tuple #[.slice none 0 0, .int .i64 1] ∧ ho = [[(b, .cells (ar) T (0, 0))], Tb]) := by
  refine spec_of Try.func42 rfl rfl fun w0 L => ?_
  refine w_seq ?_
  refine w_region rfl ?_
  refine o_box rfl (fun b1 => ?_)
  refine o_asg rfl ?_
  refine o_asg rfl ?_
  refine w_nil ?_
  refine w_seq ?_
  refine w_seq ?_
  refine w_region rfl ?_
  refine o_mov rfl ?_
  refine o_load lod_3 rfl (by repeat (first | exact At.here | (refine At.inA ?_; assumption) | apply At.next)) rfl ?_
  refine o_eq_f rfl rfl (by omega) ?_
  refine o_mov rfl ?_
  refine o_yes rfl rfl ?_
  refine o_load lod_3 rfl (by repeat (first | exact At.here | (refine At.inA ?_; assumption) | apply At.next)) rfl ?_
  refine o_yes rfl rfl ?_
  refine o_eq_f rfl rfl (by omega) ?_
  refine o_pick_f rfl rfl ?_
  refine o_call (bank_may _ _) fn_71 rfl (by repeat (first | exact Take.nil | exact Take.all _ | (apply Take.cons; focus (repeat (first | exact Pick.here | apply Pick.next))))) ?_
  rintro v ho ⟨rfl, rfl⟩
  refine o_asg rfl ?_
  refine w_nil ?_
  refine w_seq ?_
  refine w_region rfl ?_
  refine o_mov rfl ?_
  refine o_ne_t rfl rfl (by simp) ?_
  refine w_nil ?_
  refine w_if_t rfl ?_
  refine w_seq ?_
  refine w_region rfl ?_
  refine o_mov rfl ?_
  refine o_asg rfl ?_
  refine o_asg rfl ?_
  refine w_nil ?_
  exact w_ret (ret2 rfl rfl rfl) ⟨rfl, rfl⟩ (Take.sub (by repeat (first | exact Take.nil | exact Take.all _ | (apply Take.cons; focus (repeat (first | exact Pick.here | apply Pick.next))))))

theorem bank_Filter_nil (n : Int) (hw : -9223372036854775808 ≤ n ∧ n ≤ 9223372036854775807) : Ctr Try.prog 42 [.pointer none, .int .i64 n] ([]) (fun v ho => v = .tuple #[.slice none 0 0, .int .i64 3] ∧ ho = []) := by
  refine spec_of Try.func42 rfl rfl fun w0 L => ?_
  refine w_seq ?_
  refine w_region rfl ?_
  refine o_box rfl (fun b1 => ?_)
  refine o_asg rfl ?_
  refine o_asg rfl ?_
  refine w_nil ?_
  refine w_seq ?_
  refine w_seq ?_
  refine w_region rfl ?_
  refine o_mov rfl ?_
  refine o_load lod_3 rfl (by repeat (first | exact At.here | (refine At.inA ?_; assumption) | apply At.next)) rfl ?_
  refine o_eq_s rfl rfl (fun h1 => ?_) (fun h1 => ?_)
  · refine o_mov rfl ?_
    refine o_no rfl rfl rfl ?_
    refine o_no rfl rfl rfl ?_
    refine o_pick_t rfl rfl ?_
    refine o_call (bank_may_nil _) fn_71 rfl (by repeat (first | exact Take.nil | exact Take.all _ | (apply Take.cons; focus (repeat (first | exact Pick.here | apply Pick.next))))) ?_
    rintro v ho ⟨rfl, rfl⟩
    refine o_asg rfl ?_
    refine w_nil ?_
    refine w_seq ?_
    refine w_region rfl ?_
    refine o_mov rfl ?_
    refine o_ne_t rfl rfl (by simp) ?_
    refine w_nil ?_
    refine w_if_t rfl ?_
    refine w_seq ?_
    refine w_region rfl ?_
    refine o_mov rfl ?_
    refine o_asg rfl ?_
    refine o_asg rfl ?_
    refine w_nil ?_
    exact w_ret (ret2 rfl rfl rfl) ⟨rfl, rfl⟩ (Take.sub (by repeat (first | exact Take.nil | exact Take.all _ | (apply Take.cons; focus (repeat (first | exact Pick.here | apply Pick.next))))))
  · refine o_mov rfl ?_
    refine o_yes rfl rfl ?_
    refine o_load lod_3 rfl (by repeat (first | exact At.here | (refine At.inA ?_; assumption) | apply At.next)) rfl ?_
    refine o_yes rfl rfl ?_
    refine o_eq_s rfl rfl (fun h2 => ?_) (fun h2 => ?_)
    · refine o_pick_f rfl rfl ?_
      refine o_call (bank_may_nil _) fn_71 rfl (by repeat (first | exact Take.nil | exact Take.all _ | (apply Take.cons; focus (repeat (first | exact Pick.here | apply Pick.next))))) ?_
      rintro v ho ⟨rfl, rfl⟩
      refine o_asg rfl ?_
      refine w_nil ?_
      refine w_seq ?_
      refine w_region rfl ?_
      refine o_mov rfl ?_
      refine o_ne_t rfl rfl (by simp) ?_
      refine w_nil ?_
      refine w_if_t rfl ?_
      refine w_seq ?_
      refine w_region rfl ?_
      refine o_mov rfl ?_
      refine o_asg rfl ?_
      refine o_asg rfl ?_
      refine w_nil ?_
      exact w_ret (ret2 rfl rfl rfl) ⟨rfl, rfl⟩ (Take.sub (by repeat (first | exact Take.nil | exact Take.all _ | (apply Take.cons; focus (repeat (first | exact Pick.here | apply Pick.next))))))
    · refine o_pick_f rfl rfl ?_
      refine o_call (bank_may_nil _) fn_71 rfl (by repeat (first | exact Take.nil | exact Take.all _ | (apply Take.cons; focus (repeat (first | exact Pick.here | apply Pick.next))))) ?_
      rintro v ho ⟨rfl, rfl⟩
      refine o_asg rfl ?_
      refine w_nil ?_
      refine w_seq ?_
      refine w_region rfl ?_
      refine o_mov rfl ?_
      refine o_ne_t rfl rfl (by simp) ?_
      refine w_nil ?_
      refine w_if_t rfl ?_
      refine w_seq ?_
      refine w_region rfl ?_
      refine o_mov rfl ?_
      refine o_asg rfl ?_
      refine o_asg rfl ?_
      refine w_nil ?_
      exact w_ret (ret2 rfl rfl rfl) ⟨rfl, rfl⟩ (Take.sub (by repeat (first | exact Take.nil | exact Take.all _ | (apply Take.cons; focus (repeat (first | exact Pick.here | apply Pick.next))))))

end Go.Proofs.Ytjmnidcfgkdhcaa
