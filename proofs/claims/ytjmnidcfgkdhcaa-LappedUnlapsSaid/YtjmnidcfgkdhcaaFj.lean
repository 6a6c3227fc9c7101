/- Contracts of the layer poly, small ones: roundings, waves. No condition but on the numbers' sizes. -/
import Derived.Test.YtjmnidcfgkdhcaaTy
import Derived.Test.YtjmnidcfgkdhcaaPd
import Derived.Test.YtjmnidcfgkdhcaaFe
namespace Go.Proofs.Ytjmnidcfgkdhcaa
open Go.Eng
set_option linter.unusedVariables false
set_option linter.unusedSimpArgs false
set_option maxRecDepth 20000
attribute [local irreducible] WL WT
theorem fix_Sat32 (n : Int) : Ctr Try.prog 61 [.int .i64 n] ([]) (fun v ho => v = .int .i32 (clampI n (-2147483648) 2147483647) ∧ ho = []) := by
  refine spec_of Try.func61 rfl rfl fun w0 L => ?_
  refine w_seq ?_
  refine w_region rfl ?_
  refine o_asg rfl ?_
  refine w_nil ?_
  refine w_seq ?_
  refine w_region rfl ?_
  refine o_mov rfl ?_
  refine o_call (within_int64 _ _ _) fn_82 rfl (by repeat (first | exact Take.nil | exact Take.all _ | (apply Take.cons; focus (repeat (first | exact Pick.here | apply Pick.next))))) ?_
  rintro v ho ⟨rfl, rfl⟩
  have hc := clamp_in n (-2147483648) 2147483647 (by omega)
  refine o_conv int_21 (by rw [Try.underlying2]; rfl) rfl (by first | exact IntWalk.i32_in _ (by omega) | rfl) ?_
  refine o_asg rfl ?_
  refine w_nil ?_
  exact w_ret (ret1 rfl rfl) ⟨rfl, rfl⟩ (HSub.refl _)

theorem poly_rounded (n s : Int) (hn : -9223372036854775808 ≤ n ∧ n ≤ 9223372036854775807) : Ctr Try.prog 48 [.int .i64 n, .int .i64 s] ([]) (fun v ho => v = .int .i64 (rsat n s) ∧ ho = []) := by
  refine spec_of Try.func48 rfl rfl fun w0 L => ?_
  refine w_seq ?_
  refine w_region rfl ?_
  refine o_asg rfl ?_
  refine w_nil ?_
  refine w_seq ?_
  refine w_region rfl ?_
  refine o_mov rfl ?_
  refine o_mov rfl ?_
  refine o_call (fix_Round _ _ (by omega)) fn_53 rfl (by repeat (first | exact Take.nil | exact Take.all _ | (apply Take.cons; focus (repeat (first | exact Pick.here | apply Pick.next))))) ?_
  rintro v ho ⟨rfl, rfl⟩
  refine o_call (fix_Sat32 _) fn_61 rfl (by repeat (first | exact Take.nil | exact Take.all _ | (apply Take.cons; focus (repeat (first | exact Pick.here | apply Pick.next))))) ?_
  rintro v ho ⟨rfl, rfl⟩
  have hc := rsat_in n s
  change WL _ _ _ _ _ ((8, .int .i32 (rsat n s)) :: _) _
  refine o_conv int_2 (by rw [Try.underlying21]; rfl) rfl (by first | exact IntWalk.i64_in _ (by omega) | rfl) ?_
  refine o_asg rfl ?_
  refine w_nil ?_
  exact w_ret (ret1 rfl rfl) ⟨rfl, rfl⟩ (HSub.refl _)

theorem ref_Sat32 (n : Int) : Ctr Try.prog 54 [.int .i64 n, .int .i64 32] ([]) (fun v ho => v = .int .i64 (clampI n (-2147483648) 2147483647) ∧ ho = []) := by
  refine spec_of Try.func54 rfl rfl fun w0 L => ?_
  refine w_seq ?_
  refine w_region rfl ?_
  refine o_asg rfl ?_
  refine w_nil ?_
  refine w_seq ?_
  refine w_region rfl ?_
  refine o_mov rfl ?_
  refine o_sub (c := 31) rfl rfl rfl ?_
  refine o_conv int_149 (by rw [Try.underlying3]; rfl) rfl (by first | exact IntWalk.u64_in _ (by omega) | rfl) ?_
  refine o_shl (c := 2147483648) rfl rfl (by decide) rfl ?_
  refine o_sub (c := 2147483647) rfl rfl rfl ?_
  refine o_asg rfl ?_
  refine w_nil ?_
  refine w_seq ?_
  refine w_seq ?_
  refine w_region rfl ?_
  refine o_mov rfl ?_
  refine o_mov rfl ?_
  refine o_gt rfl rfl ?_
  refine w_nil ?_
  refine w_if_d rfl (fun h1 => ?_) (fun h1 => ?_)
  · refine w_seq ?_
    refine w_region rfl ?_
    refine o_mov rfl ?_
    refine o_asg rfl ?_
    refine w_nil ?_
    exact w_ret (ret1 rfl rfl) ⟨by unfold clampI; rw [if_neg (by omega), if_pos h1], rfl⟩ (HSub.refl _)
  · refine w_skip ?_
    refine w_seq ?_
    refine w_seq ?_
    refine w_region rfl ?_
    refine o_mov rfl ?_
    refine o_mov rfl ?_
    refine o_neg (c := -2147483647) rfl rfl ?_
    refine o_sub (c := -2147483648) rfl rfl rfl ?_
    refine o_lt rfl rfl ?_
    refine w_nil ?_
    refine w_if_d rfl (fun h2 => ?_) (fun h2 => ?_)
    · refine w_seq ?_
      refine w_region rfl ?_
      refine o_mov rfl ?_
      refine o_neg (c := -2147483647) rfl rfl ?_
      refine o_sub (c := -2147483648) rfl rfl rfl ?_
      refine o_asg rfl ?_
      refine w_nil ?_
      exact w_ret (ret1 rfl rfl) ⟨by unfold clampI; rw [if_pos (by omega)], rfl⟩ (HSub.refl _)
    · refine w_skip ?_
      refine w_seq ?_
      refine w_region rfl ?_
      refine o_mov rfl ?_
      refine o_asg rfl ?_
      refine w_nil ?_
      exact w_ret (ret1 rfl rfl) ⟨by unfold clampI; rw [if_neg (by omega), if_neg h1], rfl⟩ (HSub.refl _)

theorem ref_Sat16 (n : Int) : Ctr Try.prog 54 [.int .i64 n, .int .i64 16] ([]) (fun v ho => v = .int .i64 (clampI n (-32768) 32767) ∧ ho = []) := by
  refine spec_of Try.func54 rfl rfl fun w0 L => ?_
  refine w_seq ?_
  refine w_region rfl ?_
  refine o_asg rfl ?_
  refine w_nil ?_
  refine w_seq ?_
  refine w_region rfl ?_
  refine o_mov rfl ?_
  refine o_sub (c := 15) rfl rfl rfl ?_
  refine o_conv int_149 (by rw [Try.underlying3]; rfl) rfl (by first | exact IntWalk.u64_in _ (by omega) | rfl) ?_
  refine o_shl (c := 32768) rfl rfl (by decide) rfl ?_
  refine o_sub (c := 32767) rfl rfl rfl ?_
  refine o_asg rfl ?_
  refine w_nil ?_
  refine w_seq ?_
  refine w_seq ?_
  refine w_region rfl ?_
  refine o_mov rfl ?_
  refine o_mov rfl ?_
  refine o_gt rfl rfl ?_
  refine w_nil ?_
  refine w_if_d rfl (fun h1 => ?_) (fun h1 => ?_)
  · refine w_seq ?_
    refine w_region rfl ?_
    refine o_mov rfl ?_
    refine o_asg rfl ?_
    refine w_nil ?_
    exact w_ret (ret1 rfl rfl) ⟨by unfold clampI; rw [if_neg (by omega), if_pos h1], rfl⟩ (HSub.refl _)
  · refine w_skip ?_
    refine w_seq ?_
    refine w_seq ?_
    refine w_region rfl ?_
    refine o_mov rfl ?_
    refine o_mov rfl ?_
    refine o_neg (c := -32767) rfl rfl ?_
    refine o_sub (c := -32768) rfl rfl rfl ?_
    refine o_lt rfl rfl ?_
    refine w_nil ?_
    refine w_if_d rfl (fun h2 => ?_) (fun h2 => ?_)
    · refine w_seq ?_
      refine w_region rfl ?_
      refine o_mov rfl ?_
      refine o_neg (c := -32767) rfl rfl ?_
      refine o_sub (c := -32768) rfl rfl rfl ?_
      refine o_asg rfl ?_
      refine w_nil ?_
      exact w_ret (ret1 rfl rfl) ⟨by unfold clampI; rw [if_pos (by omega)], rfl⟩ (HSub.refl _)
    · refine w_skip ?_
      refine w_seq ?_
      refine w_region rfl ?_
      refine o_mov rfl ?_
      refine o_asg rfl ?_
      refine w_nil ?_
      exact w_ret (ret1 rfl rfl) ⟨by unfold clampI; rw [if_neg (by omega), if_neg h1], rfl⟩ (HSub.refl _)

theorem ref8_round (n s : Int) (hn : -9223372036854775808 ≤ n ∧ n ≤ 9223372036854775807) : Ctr Try.prog 50 [.int .i64 n, .int .i64 s] ([]) (fun v ho => v = .int .i64 (rsat n s) ∧ ho = []) := by
  refine spec_of Try.func50 rfl rfl fun w0 L => ?_
  refine w_seq ?_
  refine w_region rfl ?_
  refine o_asg rfl ?_
  refine w_nil ?_
  refine w_seq ?_
  refine w_region rfl ?_
  refine o_mov rfl ?_
  refine o_mov rfl ?_
  refine o_call (ref_Round _ _ (by omega)) fn_55 rfl (by repeat (first | exact Take.nil | exact Take.all _ | (apply Take.cons; focus (repeat (first | exact Pick.here | apply Pick.next))))) ?_
  rintro v ho ⟨rfl, rfl⟩
  refine o_call (ref_Sat32 _) fn_54 rfl (by repeat (first | exact Take.nil | exact Take.all _ | (apply Take.cons; focus (repeat (first | exact Pick.here | apply Pick.next))))) ?_
  rintro v ho ⟨rfl, rfl⟩
  refine o_asg rfl ?_
  refine w_nil ?_
  exact w_ret (ret1 rfl rfl) ⟨rfl, rfl⟩ (HSub.refl _)

theorem ref8_wave (a b m : Int) (hm : 1 ≤ m ∧ m ≤ 1000) (hab : -1000000 ≤ a * b ∧ a * b ≤ 1000000) : Ctr Try.prog 51 [.int .i64 a, .int .i64 b, .int .i64 m] ([]) (fun v ho => v = .int .i64 (cosI (a * b) (8 * m)) ∧ ho = []) := by
  refine spec_of Try.func51 rfl rfl fun w0 L => ?_
  refine w_seq ?_
  refine w_region rfl ?_
  refine o_asg rfl ?_
  refine w_nil ?_
  refine w_seq ?_
  refine w_region rfl ?_
  refine o_mov rfl ?_
  refine o_mov rfl ?_
  refine o_mul rfl rfl (by first | exact IntWalk.i64_in _ (by omega) | rfl) ?_
  refine o_mov rfl ?_
  refine o_mul rfl rfl (by first | exact IntWalk.i64_in _ (by omega) | rfl) ?_
  refine o_call (ref_Cosine _ _ (by omega) (by omega)) fn_79 rfl (by repeat (first | exact Take.nil | exact Take.all _ | (apply Take.cons; focus (repeat (first | exact Pick.here | apply Pick.next))))) ?_
  rintro v ho ⟨rfl, rfl⟩
  refine o_mov rfl ?_
  refine o_ext rfl rfl ?_
  refine o_ext rfl rfl ?_
  refine o_asg rfl ?_
  refine o_asg rfl ?_
  refine w_nil ?_
  refine w_seq ?_
  refine w_region rfl ?_
  refine o_mov rfl ?_
  have hc := cos_in (a * b) (show 0 < 8 * m by omega)
  refine o_conv int_2 (by rw [Try.underlying35]; rfl) rfl (by first | exact IntWalk.i64_in _ (by omega) | rfl) ?_
  refine o_asg rfl ?_
  refine w_nil ?_
  exact w_ret (ret1 rfl rfl) ⟨rfl, rfl⟩ (HSub.refl _)

theorem poly_wave {p off : Nat} {ar : Array Value} {T : TypeId} {A : Hp} {tv : Value} {m : Nat} (a b : Int) (h0 : ar[off]? = some (.int .i64 m)) (h2 : ar[off + 2]? = some tv) (ht : Ints A tv .i16 (turnL (8 * m))) (hm : 1 ≤ m ∧ m ≤ 100) (hab : -1000000 ≤ a * b ∧ a * b ≤ 1000000) : Ctr Try.prog 49 [.pointer (some ⟨p, off, none⟩), .int .i64 a, .int .i64 b] ([[(p, .cells ar T (0, 0))], A]) (fun v ho => v = .int .i64 (cosI (a * b) (8 * m)) ∧ ho = [[(p, .cells ar T (0, 0))], A]) := by
  refine spec_of Try.func49 rfl rfl fun w0 L => ?_
  refine w_seq ?_
  refine w_region rfl ?_
  refine o_asg rfl ?_
  refine w_nil ?_
  refine w_seq ?_
  refine w_region rfl ?_
  refine o_mov rfl ?_
  refine o_nilc rfl ?_
  refine o_fld fld_101_0 rfl rfl ?_
  refine o_load lod_3 rfl (by repeat (first | exact At.here | (refine At.inA ?_; assumption) | apply At.next)) h0 ?_
  refine o_mul rfl rfl (by first | exact IntWalk.i64_in _ (by omega) | rfl) ?_
  refine o_asg rfl ?_
  refine w_nil ?_
  refine w_seq ?_
  refine w_any [0, 1, 2, 3, 4, 5, 6, 7, 8, 9, 10, 11, 12, 13, 14, 15, 16] mixed (by kernel_rfl) ?_
  refine o_mov rfl ?_
  refine o_nilc rfl ?_
  refine o_fld fld_101_2 rfl rfl ?_
  refine o_load lod_26 rfl (by repeat (first | exact At.here | (refine At.inA ?_; assumption) | apply At.next)) h2 ?_
  refine o_mov rfl ?_
  refine o_mov rfl ?_
  refine o_mul rfl rfl (by first | exact IntWalk.i64_in _ (by omega) | rfl) ?_
  refine o_mov rfl ?_
  refine o_rem rfl rfl (by omega) rfl ?_
  refine o_mov rfl ?_
  have hd := tmod_in (a * b) (show (0 : Int) < 8 * m by omega)
  refine o_add rfl rfl (by first | exact IntWalk.i64_in _ (by omega) | rfl) ?_
  refine o_mov rfl ?_
  refine o_rem rfl rfl (by omega) (IntWalk.rem_in _ _ (by omega)) ?_
  have hix := wave_ix (a * b) m (by omega)
  have hl := turnL_len (8 * m)
  refine o_idxI ht (by repeat (first | exact Has.here | apply Has.next)) slc_26 rfl rfl hix.2 (fun bb ff arr TT fr hm2 hg => ?_)
  rw [hix.1] at hg
  refine o_load lod_35 rfl hm2 hg ?_
  have hc := cos_in (a * b) (show (0 : Int) < 8 * m by omega)
  refine o_conv int_2 (by rw [Try.underlying35]; rfl) rfl (by first | exact IntWalk.i64_in _ (by omega) | rfl) ?_
  refine o_asg rfl ?_
  refine w_nil ?_
  exact w_ret (ret1 rfl rfl) ⟨rfl, rfl⟩ (HSub.refl _)

end Go.Proofs.Ytjmnidcfgkdhcaa
