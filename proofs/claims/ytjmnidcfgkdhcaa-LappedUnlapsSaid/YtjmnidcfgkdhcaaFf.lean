/- Contracts: what any bank answers to any number, what the document does; ask; no bank asked. No condition but that numbers are of their kinds. -/
import Derived.Test.YtjmnidcfgkdhcaaTy
import Derived.Test.YtjmnidcfgkdhcaaFd
import Derived.Test.YtjmnidcfgkdhcaaFe
namespace Go.Proofs.Ytjmnidcfgkdhcaa
open Go.Eng
set_option linter.unusedVariables false
set_option linter.unusedSimpArgs false
set_option maxRecDepth 20000
attribute [local irreducible] WL WT
theorem bank_Turn_any {b : Nat} {ar : Array Value} {T : TypeId} {Tb : Hp} {s : Nat → Bool} {made told : Int} (hr : BankRep ar Tb s made told) (hmade : 0 ≤ made ∧ made ≤ 1000000000) (htold : 0 ≤ told ∧ told ≤ 1000000000) (q n : Int) (hq : q = 0) (hw : -9223372036854775808 ≤ n ∧ n ≤ 9223372036854775807) : Ctr Try.prog 40 [.pointer (some ⟨b, 0, none⟩), .int .i64 n] [[(b, .cells (ar) T (0, 0))], Tb] (fun v ho => ∃ t e ar' Tb' H, v = .tuple #[t, .int .i64 e] ∧ ho = [H, [(b, .cells (ar') T (0, 0))], Tb'] ∧ BankAns 35 (tabAsk q n) ar Tb s made told t e ar' Tb' H) := by
  have hT : tabAsk q n = if 4 ≤ n ∧ n ≤ 1024 ∧ n % 4 = 0 then some ((n / 4).toNat, turnL n.toNat) else none := by subst hq; unfold tabAsk; rw [if_pos rfl]
  by_cases hg : 4 ≤ n ∧ n ≤ 1024 ∧ n % 4 = 0
  · rw [hT, if_pos hg]
    obtain ⟨N, rfl⟩ : ∃ N : Nat, n = N := ⟨n.toNat, by omega⟩
    refine (bank_Turn (T := T) hr hmade htold (by omega) (by omega) (by omega)).mono ?_
    rintro v ho ⟨v1, ar', Tb', H', rfl, h1, h2, h3, rfl⟩
    have e1 : (((N : Nat) : Int) / 4).toNat = N / 4 := by omega
    exact ⟨_, _, ar', Tb', H', rfl, rfl, rfl, h1, h2, by simpa only [e1] using h3⟩
  · rw [hT, if_neg hg]
    refine (bank_Turn_bad (T := T) hr hmade htold n (by omega) hw).emp.mono ?_
    rintro v ho ⟨ho', rfl, rfl, rfl⟩
    exact ⟨_, _, ar, Tb, [], rfl, rfl, rfl, rfl, rfl, rfl, rfl⟩

theorem ref_Turn_any (q n : Int) (hq : q = 0) : Ctr Try.prog 43 [.int .i64 n] [] (fun v ho => ∃ H, ho = [H] ∧ RefAns 35 (tabAsk q n) v H) := by
  have hT : tabAsk q n = if 4 ≤ n ∧ n ≤ 1024 ∧ n % 4 = 0 then some ((n / 4).toNat, turnL n.toNat) else none := by subst hq; unfold tabAsk; rw [if_pos rfl]
  by_cases hg : 4 ≤ n ∧ n ≤ 1024 ∧ n % 4 = 0
  · rw [hT, if_pos hg]
    obtain ⟨N, rfl⟩ : ∃ N : Nat, n = N := ⟨n.toNat, by omega⟩
    refine (ref_Turn (by omega) (by omega) (by omega)).mono ?_
    rintro v ho ⟨H, h1, rfl⟩
    exact ⟨H, rfl, h1⟩
  · rw [hT, if_neg hg]
    refine (ref_Turn_bad n (by omega)).emp.mono ?_
    rintro v ho ⟨ho', rfl, rfl, rfl⟩
    exact ⟨[], rfl, rfl, rfl⟩

theorem bank_Slope_any {b : Nat} {ar : Array Value} {T : TypeId} {Tb : Hp} {s : Nat → Bool} {made told : Int} (hr : BankRep ar Tb s made told) (hmade : 0 ≤ made ∧ made ≤ 1000000000) (htold : 0 ≤ told ∧ told ≤ 1000000000) (q n : Int) (hq : q = 1) (hw : -9223372036854775808 ≤ n ∧ n ≤ 9223372036854775807) : Ctr Try.prog 41 [.pointer (some ⟨b, 0, none⟩), .int .i64 n] [[(b, .cells (ar) T (0, 0))], Tb] (fun v ho => ∃ t e ar' Tb' H, v = .tuple #[t, .int .i64 e] ∧ ho = [H, [(b, .cells (ar') T (0, 0))], Tb'] ∧ BankAns 35 (tabAsk q n) ar Tb s made told t e ar' Tb' H) := by
  have hT : tabAsk q n = if 1 ≤ n ∧ n ≤ 128 then some (257 + n.toNat, slopeL n.toNat) else none := by subst hq; unfold tabAsk; rw [if_neg (by decide), if_pos rfl]
  by_cases hg : 1 ≤ n ∧ n ≤ 128
  · rw [hT, if_pos hg]
    obtain ⟨N, rfl⟩ : ∃ N : Nat, n = N := ⟨n.toNat, by omega⟩
    refine (bank_Slope (T := T) hr hmade htold (by omega) (by omega)).mono ?_
    rintro v ho ⟨v1, ar', Tb', H', rfl, h1, h2, h3, rfl⟩
    have e1 : 257 + ((N : Nat) : Int).toNat = 257 + N := by omega
    exact ⟨_, _, ar', Tb', H', rfl, rfl, rfl, h1, h2, by simpa only [e1] using h3⟩
  · rw [hT, if_neg hg]
    refine (bank_Slope_bad (T := T) hr hmade htold n (by omega) hw).emp.mono ?_
    rintro v ho ⟨ho', rfl, rfl, rfl⟩
    exact ⟨_, _, ar, Tb, [], rfl, rfl, rfl, rfl, rfl, rfl, rfl⟩

theorem ref_Slope_any (q n : Int) (hq : q = 1) : Ctr Try.prog 44 [.int .i64 n] [] (fun v ho => ∃ H, ho = [H] ∧ RefAns 35 (tabAsk q n) v H) := by
  have hT : tabAsk q n = if 1 ≤ n ∧ n ≤ 128 then some (257 + n.toNat, slopeL n.toNat) else none := by subst hq; unfold tabAsk; rw [if_neg (by decide), if_pos rfl]
  by_cases hg : 1 ≤ n ∧ n ≤ 128
  · rw [hT, if_pos hg]
    obtain ⟨N, rfl⟩ : ∃ N : Nat, n = N := ⟨n.toNat, by omega⟩
    refine (ref_Slope (by omega) (by omega)).mono ?_
    rintro v ho ⟨H, h1, rfl⟩
    exact ⟨H, rfl, h1⟩
  · rw [hT, if_neg hg]
    refine (ref_Slope_bad n (by omega)).emp.mono ?_
    rintro v ho ⟨ho', rfl, rfl, rfl⟩
    exact ⟨[], rfl, rfl, rfl⟩

theorem bank_Filter_any {b : Nat} {ar : Array Value} {T : TypeId} {Tb : Hp} {s : Nat → Bool} {made told : Int} (hr : BankRep ar Tb s made told) (hmade : 0 ≤ made ∧ made ≤ 1000000000) (htold : 0 ≤ told ∧ told ≤ 1000000000) (q n : Int) (hq : q ≠ 0 ∧ q ≠ 1) (hw : -9223372036854775808 ≤ n ∧ n ≤ 9223372036854775807) : Ctr Try.prog 42 [.pointer (some ⟨b, 0, none⟩), .int .i64 n] [[(b, .cells (ar) T (0, 0))], Tb] (fun v ho => ∃ t e ar' Tb' H, v = .tuple #[t, .int .i64 e] ∧ ho = [H, [(b, .cells (ar') T (0, 0))], Tb'] ∧ BankAns 35 (tabAsk q n) ar Tb s made told t e ar' Tb' H) := by
  have hT : tabAsk q n = if n = 4 ∨ n = 8 then some (386 + n.toNat / 8, filterL n.toNat) else none := by unfold tabAsk; rw [if_neg hq.1, if_neg hq.2]
  by_cases hg : n = 4 ∨ n = 8
  · rw [hT, if_pos hg]
    obtain ⟨N, rfl⟩ : ∃ N : Nat, n = N := ⟨n.toNat, by omega⟩
    refine (bank_Filter (T := T) hr hmade htold (by omega)).mono ?_
    rintro v ho ⟨v1, ar', Tb', H', rfl, h1, h2, h3, rfl⟩
    have e1 : 386 + ((N : Nat) : Int).toNat / 8 = 386 + N / 8 := by omega
    exact ⟨_, _, ar', Tb', H', rfl, rfl, rfl, h1, h2, by simpa only [e1] using h3⟩
  · rw [hT, if_neg hg]
    refine (bank_Filter_bad (T := T) hr hmade htold n (by omega) hw).emp.mono ?_
    rintro v ho ⟨ho', rfl, rfl, rfl⟩
    exact ⟨_, _, ar, Tb, [], rfl, rfl, rfl, rfl, rfl, rfl, rfl⟩

theorem ref_Filter_any (q n : Int) (hq : q ≠ 0 ∧ q ≠ 1) : Ctr Try.prog 45 [.int .i64 n] [] (fun v ho => ∃ H, ho = [H] ∧ RefAns 35 (tabAsk q n) v H) := by
  have hT : tabAsk q n = if n = 4 ∨ n = 8 then some (386 + n.toNat / 8, filterL n.toNat) else none := by unfold tabAsk; rw [if_neg hq.1, if_neg hq.2]
  by_cases hg : n = 4 ∨ n = 8
  · rw [hT, if_pos hg]
    obtain ⟨N, rfl⟩ : ∃ N : Nat, n = N := ⟨n.toNat, by omega⟩
    refine (ref_Filter (by omega)).mono ?_
    rintro v ho ⟨H, h1, rfl⟩
    exact ⟨H, rfl, h1⟩
  · rw [hT, if_neg hg]
    refine (ref_Filter_bad n (by omega)).emp.mono ?_
    rintro v ho ⟨ho', rfl, rfl, rfl⟩
    exact ⟨[], rfl, rfl, rfl⟩

theorem ask_any {b : Nat} {ar : Array Value} {T : TypeId} {Tb : Hp} {s : Nat → Bool} {made told : Int} (hr : BankRep ar Tb s made told) (hmade : 0 ≤ made ∧ made ≤ 1000000000) (htold : 0 ≤ told ∧ told ≤ 1000000000) (q n : Int) (hw : -9223372036854775808 ≤ n ∧ n ≤ 9223372036854775807) : Ctr Try.prog 13 [.pointer (some ⟨b, 0, none⟩), .agg #[.int .i64 q, .int .i64 n]] ([[(b, .cells (ar) T (0, 0))], Tb]) (fun v ho => ∃ t e w ar' Tb' H1 H2, v = .tuple #[t, .int .i64 e, w] ∧ ho = [H1, H2, [(b, .cells (ar') T (0, 0))], Tb'] ∧ BankAns 35 (tabAsk q n) ar Tb s made told t e ar' Tb' H1 ∧ RefAns 35 (tabAsk q n) w H2) := by
  refine spec_of Try.func13 rfl rfl fun w0 L => ?_
  refine w_seq ?_
  refine w_region rfl ?_
  refine o_box rfl (fun b1 => ?_)
  refine o_asg rfl ?_
  refine o_asg rfl ?_
  refine o_asg rfl ?_
  refine w_nil ?_
  refine w_seq ?_
  refine w_seq ?_
  refine w_region rfl ?_
  refine o_fld fld_31_0 rfl rfl ?_
  refine o_load lod_3 rfl (by repeat (first | exact At.here | (refine At.inA ?_; assumption) | apply At.next)) rfl ?_
  refine w_nil ?_
  refine w_block ?_
  refine w_seq ?_
  refine w_region rfl ?_
  refine o_eq rfl rfl ?_
  refine o_asg rfl ?_
  refine w_nil ?_
  refine w_if_d rfl (fun h0 => ?_) (fun h0 => ?_)
  · refine w_seq ?_
    refine w_region rfl ?_
    refine o_mov rfl ?_
    refine o_fld fld_31_1 rfl rfl ?_
    refine o_load lod_3 rfl (by repeat (first | exact At.here | (refine At.inA ?_; assumption) | apply At.next)) rfl ?_
    refine o_call (bank_Turn_any (T := T) hr hmade htold _ _ h0 hw) fn_40 rfl (by repeat (first | exact Take.nil | exact Take.all _ | (apply Take.cons; focus (repeat (first | exact Pick.here | apply Pick.next))))) ?_
    rintro v ho ⟨t, e, ar', Tb', H1, rfl, rfl, hB⟩
    refine o_mov rfl ?_
    refine o_ext rfl rfl ?_
    refine o_ext rfl rfl ?_
    refine o_asg rfl ?_
    refine o_asg rfl ?_
    refine w_nil ?_
    refine w_seq ?_
    refine w_region rfl ?_
    refine o_mov rfl ?_
    refine o_mov rfl ?_
    refine o_fld fld_31_1 rfl rfl ?_
    refine o_load lod_3 rfl (by repeat (first | exact At.here | (refine At.inA ?_; assumption) | apply At.next)) rfl ?_
    refine o_call (ref_Turn_any _ _ h0) fn_43 rfl (by repeat (first | exact Take.nil | exact Take.all _ | (apply Take.cons; focus (repeat (first | exact Pick.here | apply Pick.next))))) ?_
    rintro v ho ⟨H2, rfl, hR⟩
    refine o_asg rfl ?_
    refine o_asg rfl ?_
    refine o_asg rfl ?_
    refine w_nil ?_
    exact w_ret (ret3 rfl rfl rfl rfl) ⟨_, _, _, ar', Tb', H1, H2, rfl, rfl, hB, hR⟩ (Take.sub (by repeat (first | exact Take.nil | exact Take.all _ | (apply Take.cons; focus (repeat (first | exact Pick.here | apply Pick.next))))))
  · refine w_seq ?_
    refine w_region rfl ?_
    refine o_eq rfl rfl ?_
    refine o_asg rfl ?_
    refine w_nil ?_
    refine w_if_d rfl (fun h1 => ?_) (fun h1 => ?_)
    · refine w_seq ?_
      refine w_region rfl ?_
      refine o_mov rfl ?_
      refine o_fld fld_31_1 rfl rfl ?_
      refine o_load lod_3 rfl (by repeat (first | exact At.here | (refine At.inA ?_; assumption) | apply At.next)) rfl ?_
      refine o_call (bank_Slope_any (T := T) hr hmade htold _ _ h1 hw) fn_41 rfl (by repeat (first | exact Take.nil | exact Take.all _ | (apply Take.cons; focus (repeat (first | exact Pick.here | apply Pick.next))))) ?_
      rintro v ho ⟨t, e, ar', Tb', H1, rfl, rfl, hB⟩
      refine o_mov rfl ?_
      refine o_ext rfl rfl ?_
      refine o_ext rfl rfl ?_
      refine o_asg rfl ?_
      refine o_asg rfl ?_
      refine w_nil ?_
      refine w_seq ?_
      refine w_region rfl ?_
      refine o_mov rfl ?_
      refine o_mov rfl ?_
      refine o_fld fld_31_1 rfl rfl ?_
      refine o_load lod_3 rfl (by repeat (first | exact At.here | (refine At.inA ?_; assumption) | apply At.next)) rfl ?_
      refine o_call (ref_Slope_any _ _ h1) fn_44 rfl (by repeat (first | exact Take.nil | exact Take.all _ | (apply Take.cons; focus (repeat (first | exact Pick.here | apply Pick.next))))) ?_
      rintro v ho ⟨H2, rfl, hR⟩
      refine o_asg rfl ?_
      refine o_asg rfl ?_
      refine o_asg rfl ?_
      refine w_nil ?_
      exact w_ret (ret3 rfl rfl rfl rfl) ⟨_, _, _, ar', Tb', H1, H2, rfl, rfl, hB, hR⟩ (Take.sub (by repeat (first | exact Take.nil | exact Take.all _ | (apply Take.cons; focus (repeat (first | exact Pick.here | apply Pick.next))))))
    · refine w_skip ?_
      refine w_inB ?_
      refine w_seq ?_
      refine w_region rfl ?_
      refine o_mov rfl ?_
      refine o_fld fld_31_1 rfl rfl ?_
      refine o_load lod_3 rfl (by repeat (first | exact At.here | (refine At.inA ?_; assumption) | apply At.next)) rfl ?_
      refine o_call (bank_Filter_any (T := T) hr hmade htold _ _ ⟨h0, h1⟩ hw) fn_42 rfl (by repeat (first | exact Take.nil | exact Take.all _ | (apply Take.cons; focus (repeat (first | exact Pick.here | apply Pick.next))))) ?_
      rintro v ho ⟨t, e, ar', Tb', H1, rfl, rfl, hB⟩
      refine o_mov rfl ?_
      refine o_ext rfl rfl ?_
      refine o_ext rfl rfl ?_
      refine o_asg rfl ?_
      refine o_asg rfl ?_
      refine w_nil ?_
      refine w_seq ?_
      refine w_region rfl ?_
      refine o_mov rfl ?_
      refine o_mov rfl ?_
      refine o_fld fld_31_1 rfl rfl ?_
      refine o_load lod_3 rfl (by repeat (first | exact At.here | (refine At.inA ?_; assumption) | apply At.next)) rfl ?_
      refine o_call (ref_Filter_any _ _ ⟨h0, h1⟩) fn_45 rfl (by repeat (first | exact Take.nil | exact Take.all _ | (apply Take.cons; focus (repeat (first | exact Pick.here | apply Pick.next))))) ?_
      rintro v ho ⟨H2, rfl, hR⟩
      refine o_asg rfl ?_
      refine o_asg rfl ?_
      refine o_asg rfl ?_
      refine w_nil ?_
      exact w_ret (ret3 rfl rfl rfl rfl) ⟨_, _, _, ar', Tb', H1, H2, rfl, rfl, hB, hR⟩ (Take.sub (by repeat (first | exact Take.nil | exact Take.all _ | (apply Take.cons; focus (repeat (first | exact Pick.here | apply Pick.next))))))

theorem ask_nil (q n : Int) (hw : -9223372036854775808 ≤ n ∧ n ≤ 9223372036854775807) : Ctr Try.prog 13 [.pointer none, .agg #[.int .i64 q, .int .i64 n]] ([]) (fun v ho => ∃ w H, v = .tuple #[.slice none 0 0, .int .i64 3, w] ∧ ho = [H]) := by
  refine spec_of Try.func13 rfl rfl fun w0 L => ?_
  refine w_seq ?_
  refine w_region rfl ?_
  refine o_box rfl (fun b1 => ?_)
  refine o_asg rfl ?_
  refine o_asg rfl ?_
  refine o_asg rfl ?_
  refine w_nil ?_
  refine w_seq ?_
  refine w_seq ?_
  refine w_region rfl ?_
  refine o_fld fld_31_0 rfl rfl ?_
  refine o_load lod_3 rfl (by repeat (first | exact At.here | (refine At.inA ?_; assumption) | apply At.next)) rfl ?_
  refine w_nil ?_
  refine w_block ?_
  refine w_seq ?_
  refine w_region rfl ?_
  refine o_eq rfl rfl ?_
  refine o_asg rfl ?_
  refine w_nil ?_
  refine w_if_d rfl (fun h0 => ?_) (fun h0 => ?_)
  · refine w_seq ?_
    refine w_region rfl ?_
    refine o_mov rfl ?_
    refine o_fld fld_31_1 rfl rfl ?_
    refine o_load lod_3 rfl (by repeat (first | exact At.here | (refine At.inA ?_; assumption) | apply At.next)) rfl ?_
    refine o_call (bank_Turn_nil _ hw) fn_40 rfl (by repeat (first | exact Take.nil | exact Take.all _ | (apply Take.cons; focus (repeat (first | exact Pick.here | apply Pick.next))))) ?_
    rintro v ho ⟨rfl, rfl⟩
    refine o_mov rfl ?_
    refine o_ext rfl rfl ?_
    refine o_ext rfl rfl ?_
    refine o_asg rfl ?_
    refine o_asg rfl ?_
    refine w_nil ?_
    refine w_seq ?_
    refine w_region rfl ?_
    refine o_mov rfl ?_
    refine o_mov rfl ?_
    refine o_fld fld_31_1 rfl rfl ?_
    refine o_load lod_3 rfl (by repeat (first | exact At.here | (refine At.inA ?_; assumption) | apply At.next)) rfl ?_
    refine o_call (ref_Turn_any _ _ h0) fn_43 rfl (by repeat (first | exact Take.nil | exact Take.all _ | (apply Take.cons; focus (repeat (first | exact Pick.here | apply Pick.next))))) ?_
    rintro v ho ⟨H2, rfl, hR⟩
    refine o_asg rfl ?_
    refine o_asg rfl ?_
    refine o_asg rfl ?_
    refine w_nil ?_
    exact w_ret (ret3 rfl rfl rfl rfl) ⟨_, H2, rfl, rfl⟩ (Take.sub (by repeat (first | exact Take.nil | exact Take.all _ | (apply Take.cons; focus (repeat (first | exact Pick.here | apply Pick.next))))))
  · refine w_seq ?_
    refine w_region rfl ?_
    refine o_eq rfl rfl ?_
    refine o_asg rfl ?_
    refine w_nil ?_
    refine w_if_d rfl (fun h1 => ?_) (fun h1 => ?_)
    · refine w_seq ?_
      refine w_region rfl ?_
      refine o_mov rfl ?_
      refine o_fld fld_31_1 rfl rfl ?_
      refine o_load lod_3 rfl (by repeat (first | exact At.here | (refine At.inA ?_; assumption) | apply At.next)) rfl ?_
      refine o_call (bank_Slope_nil _ hw) fn_41 rfl (by repeat (first | exact Take.nil | exact Take.all _ | (apply Take.cons; focus (repeat (first | exact Pick.here | apply Pick.next))))) ?_
      rintro v ho ⟨rfl, rfl⟩
      refine o_mov rfl ?_
      refine o_ext rfl rfl ?_
      refine o_ext rfl rfl ?_
      refine o_asg rfl ?_
      refine o_asg rfl ?_
      refine w_nil ?_
      refine w_seq ?_
      refine w_region rfl ?_
      refine o_mov rfl ?_
      refine o_mov rfl ?_
      refine o_fld fld_31_1 rfl rfl ?_
      refine o_load lod_3 rfl (by repeat (first | exact At.here | (refine At.inA ?_; assumption) | apply At.next)) rfl ?_
      refine o_call (ref_Slope_any _ _ h1) fn_44 rfl (by repeat (first | exact Take.nil | exact Take.all _ | (apply Take.cons; focus (repeat (first | exact Pick.here | apply Pick.next))))) ?_
      rintro v ho ⟨H2, rfl, hR⟩
      refine o_asg rfl ?_
      refine o_asg rfl ?_
      refine o_asg rfl ?_
      refine w_nil ?_
      exact w_ret (ret3 rfl rfl rfl rfl) ⟨_, H2, rfl, rfl⟩ (Take.sub (by repeat (first | exact Take.nil | exact Take.all _ | (apply Take.cons; focus (repeat (first | exact Pick.here | apply Pick.next))))))
    · refine w_skip ?_
      refine w_inB ?_
      refine w_seq ?_
      refine w_region rfl ?_
      refine o_mov rfl ?_
      refine o_fld fld_31_1 rfl rfl ?_
      refine o_load lod_3 rfl (by repeat (first | exact At.here | (refine At.inA ?_; assumption) | apply At.next)) rfl ?_
      refine o_call (bank_Filter_nil _ hw) fn_42 rfl (by repeat (first | exact Take.nil | exact Take.all _ | (apply Take.cons; focus (repeat (first | exact Pick.here | apply Pick.next))))) ?_
      rintro v ho ⟨rfl, rfl⟩
      refine o_mov rfl ?_
      refine o_ext rfl rfl ?_
      refine o_ext rfl rfl ?_
      refine o_asg rfl ?_
      refine o_asg rfl ?_
      refine w_nil ?_
      refine w_seq ?_
      refine w_region rfl ?_
      refine o_mov rfl ?_
      refine o_mov rfl ?_
      refine o_fld fld_31_1 rfl rfl ?_
      refine o_load lod_3 rfl (by repeat (first | exact At.here | (refine At.inA ?_; assumption) | apply At.next)) rfl ?_
      refine o_call (ref_Filter_any _ _ ⟨h0, h1⟩) fn_45 rfl (by repeat (first | exact Take.nil | exact Take.all _ | (apply Take.cons; focus (repeat (first | exact Pick.here | apply Pick.next))))) ?_
      rintro v ho ⟨H2, rfl, hR⟩
      refine o_asg rfl ?_
      refine o_asg rfl ?_
      refine o_asg rfl ?_
      refine w_nil ?_
      exact w_ret (ret3 rfl rfl rfl rfl) ⟨_, H2, rfl, rfl⟩ (Take.sub (by repeat (first | exact Take.nil | exact Take.all _ | (apply Take.cons; focus (repeat (first | exact Pick.here | apply Pick.next))))))

end Go.Proofs.Ytjmnidcfgkdhcaa
