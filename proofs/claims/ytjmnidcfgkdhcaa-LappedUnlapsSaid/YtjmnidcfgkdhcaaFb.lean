/- Contracts of the layer bank: clones, tables that are made once, what is told. No condition but on the numbers' sizes. -/
import Derived.Test.YtjmnidcfgkdhcaaTy
import Derived.Test.YtjmnidcfgkdhcaaPc
import Derived.Test.YtjmnidcfgkdhcaaFw
import Derived.Test.YtjmnidcfgkdhcaaFs
namespace Go.Proofs.Ytjmnidcfgkdhcaa
open Go.Eng
set_option linter.unusedVariables false
set_option linter.unusedSimpArgs false
set_option maxRecDepth 20000
attribute [local irreducible] WL WT
theorem clone_i16_nil {xs : List Int} {A : Hp} {l c : Nat} (hv : Ints A (.slice none l c) .i16 xs) : Ctr Try.prog 67 [.slice none l c] ([A]) (fun v' ho => isNilS v' = true ∧ ∃ H', OwnI H' v' 35 .i16 xs ∧ ho = [H', A]) := by
  have hx : xs = [] := List.eq_nil_of_length_eq_zero (Rd.nil_len hv)
  subst hx
  refine spec_of Try.func67 rfl rfl fun w0 L => ?_
  refine w_seq ?_
  refine w_region rfl ?_
  refine o_asg rfl ?_
  refine w_nil ?_
  refine w_seq ?_
  refine w_seq ?_
  refine w_region rfl ?_
  refine o_mov rfl ?_
  refine o_snil Try.underlying26 rfl rfl ?_
  refine w_nil ?_
  refine w_if_t rfl ?_
  refine w_emp ?_
  refine w_seq ?_
  refine w_region rfl ?_
  refine o_asg rfl ?_
  refine w_nil ?_
  exact w_ret (ret1 rfl rfl) ⟨rfl, [], OwnI.nil _ _, rfl⟩ (HSub.refl _)

theorem clone_i16_some {xs : List Int} {A : Hp} {l c : Nat} {a : Addr} (hv : Ints A (.slice (some a) l c) .i16 xs) (hl : xs.length ≤ 1000000) : Ctr Try.prog 67 [.slice (some a) l c] ([A]) (fun v' ho => isNilS v' = false ∧ ∃ H', OwnI H' v' 35 .i16 xs ∧ ho = [H', A]) := by
  refine spec_of Try.func67 rfl rfl fun w0 L => ?_
  refine w_seq ?_
  refine w_region rfl ?_
  refine o_asg rfl ?_
  refine w_nil ?_
  refine w_seq ?_
  refine w_seq ?_
  refine w_region rfl ?_
  refine o_mov rfl ?_
  refine o_snil Try.underlying26 rfl rfl ?_
  refine w_nil ?_
  refine w_if_f rfl ?_
  refine w_skip ?_
  refine w_seq ?_
  refine w_region rfl ?_
  refine o_bsl slc_26 zer_35 (Nat.le_of_ble_eq_true rfl) rfl rfl (fun b1 => ?_)
  refine o_mov rfl ?_
  refine o_app (cs := []) (m0 := 0) slc_26 zer_35 rfl rfl rfl (Own.empty _ _ _ _) (by repeat (first | exact Pick.here | apply Pick.next)) hv (by repeat (first | exact Has.here | apply Has.next)) (one_ints _ _) (by simp only [maxLen]; omega) (by omega) (fun v' H' hO hn => ?_)
  refine o_asg rfl ?_
  refine w_nil ?_
  exact w_ret (ret1 rfl rfl) ⟨hO.nonnil (fun he => by have := (hn.1 he).1; cases this), H', by simpa [OwnI] using hO, rfl⟩ (Take.sub (by repeat (first | exact Take.nil | exact Take.all _ | (apply Take.cons; focus (repeat (first | exact Pick.here | apply Pick.next))))))

theorem clone_i16 {v : Value} {xs : List Int} {A : Hp} (hv : Ints A v .i16 xs) (hl : xs.length ≤ 1000000) : Ctr Try.prog 67 [v] [A] (fun v' ho => isNilS v' = isNilS v ∧ ∃ H', OwnI H' v' 35 .i16 xs ∧ ho = [H', A]) := by
  obtain ⟨p, c, rfl, _⟩ := Rd.slice hv
  cases p with
  | none => exact clone_i16_nil hv
  | some a => exact clone_i16_some hv hl


theorem bld_bank : bldB Try.prog 98 = some (bankZero, [(0, 1028), (1028, 516), (1544, 8), (1552, 1), (1553, 1)]) := by kernel_rfl

theorem bank_New  : Ctr Try.prog 12 [] ([]) (fun v ho => ∃ b, v = .pointer (some ⟨b, 0, none⟩) ∧ ho = [[(b, .cells bankZero 98 (0, 0))]]) := by
  refine spec_of Try.func12 rfl rfl fun w0 L => ?_
  refine w_seq ?_
  refine w_region rfl ?_
  refine o_asg rfl ?_
  refine w_nil ?_
  refine w_seq ?_
  refine w_region rfl ?_
  refine o_bld (c := bankZero) bld_bank rfl rfl ?_
  refine o_box rfl (fun b1 => ?_)
  refine o_asg rfl ?_
  refine w_nil ?_
  exact w_ret (ret1 rfl rfl) ⟨b1, rfl, rfl⟩ (HSub.refl _)

theorem bank_may_nil (ok : Bool) : Ctr Try.prog 71 [.pointer none, .bool ok] ([]) (fun v ho => v = .int .i64 3 ∧ ho = []) := by
  refine spec_of Try.func71 rfl rfl fun w0 L => ?_
  refine w_seq ?_
  refine w_region rfl ?_
  refine o_asg rfl ?_
  refine w_nil ?_
  refine w_seq ?_
  refine w_block ?_
  refine w_seq ?_
  refine w_region rfl ?_
  refine o_mov rfl ?_
  refine o_pnil Try.underlying24 rfl rfl ?_
  refine o_asg rfl ?_
  refine w_nil ?_
  refine w_if_t rfl ?_
  refine w_seq ?_
  refine w_region rfl ?_
  refine o_asg rfl ?_
  refine w_nil ?_
  exact w_ret (ret1 rfl rfl) ⟨rfl, rfl⟩ (HSub.refl _)

theorem bank_may (a : Addr) (ok : Bool) : Ctr Try.prog 71 [.pointer (some a), .bool ok] ([]) (fun v ho => v = .int .i64 (if ok then 0 else 1) ∧ ho = []) := by
  refine spec_of Try.func71 rfl rfl fun w0 L => ?_
  refine w_seq ?_
  refine w_region rfl ?_
  refine o_asg rfl ?_
  refine w_nil ?_
  refine w_seq ?_
  refine w_block ?_
  refine w_seq ?_
  refine w_region rfl ?_
  refine o_mov rfl ?_
  refine o_pnil Try.underlying24 rfl rfl ?_
  refine o_asg rfl ?_
  refine w_nil ?_
  refine w_if_f rfl ?_
  refine w_seq ?_
  refine w_region rfl ?_
  refine o_mov rfl ?_
  refine o_not rfl ?_
  refine o_asg rfl ?_
  refine w_nil ?_
  refine w_if rfl (fun hb => ?_) (fun hb => ?_)
  · refine w_seq ?_
    refine w_region rfl ?_
    refine o_asg rfl ?_
    refine w_nil ?_
    exact w_ret (ret1 rfl rfl) ⟨(by cases ok <;> first | rfl | cases hb), rfl⟩ (HSub.refl _)
  · refine w_skip ?_
    refine w_inB ?_
    refine w_seq ?_
    refine w_region rfl ?_
    refine o_asg rfl ?_
    refine w_nil ?_
    exact w_ret (ret1 rfl rfl) ⟨(by cases ok <;> first | rfl | cases hb), rfl⟩ (HSub.refl _)

theorem bank_Made {b : Nat} {ar : Array Value} {T : TypeId} {n : Int} (h0 : ar[1552]? = some (.int .i64 n)) : Ctr Try.prog 15 [.pointer (some ⟨b, 0, none⟩)] ([[(b, .cells ar T (0, 0))]]) (fun v ho => v = .int .i64 n ∧ ho = [[(b, .cells ar T (0, 0))]]) := by
  refine spec_of Try.func15 rfl rfl fun w0 L => ?_
  refine w_seq ?_
  refine w_region rfl ?_
  refine o_asg rfl ?_
  refine w_nil ?_
  refine w_seq ?_
  refine w_seq ?_
  refine w_region rfl ?_
  refine o_mov rfl ?_
  refine o_pnil Try.underlying24 rfl rfl ?_
  refine w_nil ?_
  refine w_if_f rfl ?_
  refine w_skip ?_
  refine w_seq ?_
  refine w_region rfl ?_
  refine o_mov rfl ?_
  refine o_nilc rfl ?_
  refine o_fld fld_98_3 rfl rfl ?_
  refine o_call (i64_Load (off := 1552) h0) fn_46 rfl (by repeat (first | exact Take.nil | exact Take.all _ | (apply Take.cons; focus (repeat (first | exact Pick.here | apply Pick.next))))) ?_
  rintro v ho ⟨rfl, rfl⟩
  refine o_asg rfl ?_
  refine w_nil ?_
  exact w_ret (ret1 rfl rfl) ⟨rfl, rfl⟩ (HSub.refl _)

theorem bank_Made_nil  : Ctr Try.prog 15 [.pointer none] ([]) (fun v ho => v = .int .i64 0 ∧ ho = []) := by
  refine spec_of Try.func15 rfl rfl fun w0 L => ?_
  refine w_seq ?_
  refine w_region rfl ?_
  refine o_asg rfl ?_
  refine w_nil ?_
  refine w_seq ?_
  refine w_seq ?_
  refine w_region rfl ?_
  refine o_mov rfl ?_
  refine o_pnil Try.underlying24 rfl rfl ?_
  refine w_nil ?_
  refine w_if_t rfl ?_
  refine w_seq ?_
  refine w_region rfl ?_
  refine o_asg rfl ?_
  refine w_nil ?_
  exact w_ret (ret1 rfl rfl) ⟨rfl, rfl⟩ (HSub.refl _)

theorem bank_Told {b : Nat} {ar : Array Value} {T : TypeId} {n : Int} (h0 : ar[1553]? = some (.int .i64 n)) : Ctr Try.prog 16 [.pointer (some ⟨b, 0, none⟩)] ([[(b, .cells ar T (0, 0))]]) (fun v ho => v = .int .i64 n ∧ ho = [[(b, .cells ar T (0, 0))]]) := by
  refine spec_of Try.func16 rfl rfl fun w0 L => ?_
  refine w_seq ?_
  refine w_region rfl ?_
  refine o_asg rfl ?_
  refine w_nil ?_
  refine w_seq ?_
  refine w_seq ?_
  refine w_region rfl ?_
  refine o_mov rfl ?_
  refine o_pnil Try.underlying24 rfl rfl ?_
  refine w_nil ?_
  refine w_if_f rfl ?_
  refine w_skip ?_
  refine w_seq ?_
  refine w_region rfl ?_
  refine o_mov rfl ?_
  refine o_nilc rfl ?_
  refine o_fld fld_98_4 rfl rfl ?_
  refine o_call (i64_Load (off := 1553) h0) fn_46 rfl (by repeat (first | exact Take.nil | exact Take.all _ | (apply Take.cons; focus (repeat (first | exact Pick.here | apply Pick.next))))) ?_
  rintro v ho ⟨rfl, rfl⟩
  refine o_asg rfl ?_
  refine w_nil ?_
  exact w_ret (ret1 rfl rfl) ⟨rfl, rfl⟩ (HSub.refl _)

theorem bank_Told_nil  : Ctr Try.prog 16 [.pointer none] ([]) (fun v ho => v = .int .i64 0 ∧ ho = []) := by
  refine spec_of Try.func16 rfl rfl fun w0 L => ?_
  refine w_seq ?_
  refine w_region rfl ?_
  refine o_asg rfl ?_
  refine w_nil ?_
  refine w_seq ?_
  refine w_seq ?_
  refine w_region rfl ?_
  refine o_mov rfl ?_
  refine o_pnil Try.underlying24 rfl rfl ?_
  refine w_nil ?_
  refine w_if_t rfl ?_
  refine w_seq ?_
  refine w_region rfl ?_
  refine o_asg rfl ?_
  refine w_nil ?_
  exact w_ret (ret1 rfl rfl) ⟨rfl, rfl⟩ (HSub.refl _)

theorem turn1 {c0 : Nat} {T : TypeId} (i n : Int) (h0 : 0 ≤ i) (h1 : i < n) (h2 : n ≤ 1024) : Ctr Try.prog 73 [.int .i64 i, .pointer (some ⟨c0, 0, none⟩)] ([[(c0, .cells #[.int .i64 n] T (0, 0))]]) (fun v ho => v = .int .i16 (cosI i n) ∧ ho = [[(c0, .cells #[.int .i64 n] T (0, 0))]]) := by
  refine spec_of Try.func73 rfl rfl fun w0 L => ?_
  refine w_seq ?_
  refine w_region rfl ?_
  refine o_asg rfl ?_
  refine w_nil ?_
  refine w_seq ?_
  refine w_region rfl ?_
  refine o_mov rfl ?_
  refine o_load lod_3 rfl (by repeat (first | exact At.here | (refine At.inA ?_; assumption) | apply At.next)) rfl ?_
  refine o_call (wave_Cosine _ _ (by omega) (by omega)) fn_74 rfl (by repeat (first | exact Take.nil | exact Take.all _ | (apply Take.cons; focus (repeat (first | exact Pick.here | apply Pick.next))))) ?_
  rintro v ho ⟨rfl, rfl⟩
  refine o_mov rfl ?_
  refine o_ext rfl rfl ?_
  refine o_ext rfl rfl ?_
  refine o_asg rfl ?_
  refine o_asg rfl ?_
  refine w_nil ?_
  refine w_seq ?_
  refine w_region rfl ?_
  refine o_mov rfl ?_
  refine o_asg rfl ?_
  refine w_nil ?_
  exact w_ret (ret1 rfl rfl) ⟨rfl, rfl⟩ (HSub.refl _)

theorem slope1 {c0 : Nat} {T : TypeId} (i n : Int) (h0 : 0 ≤ i) (h1 : i < n) (h2 : n ≤ 128) : Ctr Try.prog 75 [.int .i64 i, .pointer (some ⟨c0, 0, none⟩)] ([[(c0, .cells #[.int .i64 n] T (0, 0))]]) (fun v ho => v = .int .i16 (sinI (2 * i + 1) (8 * n)) ∧ ho = [[(c0, .cells #[.int .i64 n] T (0, 0))]]) := by
  refine spec_of Try.func75 rfl rfl fun w0 L => ?_
  refine w_seq ?_
  refine w_region rfl ?_
  refine o_asg rfl ?_
  refine w_nil ?_
  refine w_seq ?_
  refine w_region rfl ?_
  refine o_mov rfl ?_
  refine o_mul rfl rfl (by first | exact IntWalk.i64_in _ (by omega) | rfl) ?_
  refine o_add rfl rfl (by first | exact IntWalk.i64_in _ (by omega) | rfl) ?_
  refine o_load lod_3 rfl (by repeat (first | exact At.here | (refine At.inA ?_; assumption) | apply At.next)) rfl ?_
  refine o_mul rfl rfl (by first | exact IntWalk.i64_in _ (by omega) | rfl) ?_
  refine o_call (wave_Sine _ _ (by omega) (by omega)) fn_76 rfl (by repeat (first | exact Take.nil | exact Take.all _ | (apply Take.cons; focus (repeat (first | exact Pick.here | apply Pick.next))))) ?_
  rintro v ho ⟨rfl, rfl⟩
  refine o_mov rfl ?_
  refine o_ext rfl rfl ?_
  refine o_ext rfl rfl ?_
  refine o_asg rfl ?_
  refine o_asg rfl ?_
  refine w_nil ?_
  refine w_seq ?_
  refine w_region rfl ?_
  refine o_mov rfl ?_
  refine o_asg rfl ?_
  refine w_nil ?_
  exact w_ret (ret1 rfl rfl) ⟨rfl, rfl⟩ (HSub.refl _)

theorem bank_filtered (m i : Int) (hm : m = 4 ∨ m = 8) (h0 : 0 ≤ i) (h1 : i < 10 * m) : Ctr Try.prog 78 [.int .i64 m, .int .i64 i] ([]) (fun v ho => v = .int .i16 (filtR m i) ∧ ho = []) := by
  refine spec_of Try.func78 rfl rfl fun w0 L => ?_
  obtain ⟨f1, f2, f3, f4, f5, f6⟩ := filt_in hm h0 h1
  refine w_seq ?_
  refine w_region rfl ?_
  refine o_asg rfl ?_
  refine w_nil ?_
  refine w_seq ?_
  refine w_region rfl ?_
  refine o_asg rfl ?_
  refine w_nil ?_
  refine w_seq ?_
  refine w_seq ?_
  refine w_region rfl ?_
  refine o_mov rfl ?_
  refine o_mov rfl ?_
  refine o_mul rfl rfl (by first | exact IntWalk.i64_in _ (by omega) | rfl) ?_
  refine o_sub rfl rfl (by first | exact IntWalk.i64_in _ (by omega) | rfl) ?_
  refine o_asg rfl ?_
  refine w_nil ?_
  refine w_seq ?_
  refine w_region rfl ?_
  refine o_mov rfl ?_
  refine o_ne rfl rfl ?_
  refine w_nil ?_
  refine w_cut_x (X := Int) (fun y => [(0, .int .i64 m), (1, .int .i64 i), (5, .int .i64 y)]) (fun _ => []) (fun y => y = filtV m i) ?_ ?_
  · refine w_if_d rfl (fun hd => ?_) (fun hd => ?_)
    · refine w_seq ?_
      refine w_region rfl ?_
      refine o_mov rfl ?_
      refine o_mul rfl rfl (by first | exact IntWalk.i64_in _ (by omega) | rfl) ?_
      refine o_mov rfl ?_
      refine o_mul rfl rfl (by first | exact IntWalk.i64_in _ (by omega) | rfl) ?_
      refine o_call (wave_Sine _ _ (by omega) (by omega)) fn_76 rfl (by repeat (first | exact Take.nil | exact Take.all _ | (apply Take.cons; focus (repeat (first | exact Pick.here | apply Pick.next))))) ?_
      rintro v ho ⟨rfl, rfl⟩
      refine o_mov rfl ?_
      refine o_ext rfl rfl ?_
      refine o_ext rfl rfl ?_
      refine o_asg rfl ?_
      refine o_asg rfl ?_
      refine w_nil ?_
      refine w_region rfl ?_
      refine o_mov rfl ?_
      have hs := sin_in (3 * (i - 5 * m)) (show 0 < 10 * m by omega)
      refine o_conv int_2 (by rw [Try.underlying35]; rfl) rfl (by first | exact IntWalk.i64_in _ (by omega) | rfl) ?_
      refine o_mov rfl ?_
      refine o_mul rfl rfl (by first | exact IntWalk.i64_in _ (by omega) | rfl) ?_
      have hp : -163840000 ≤ sinI (3 * (i - 5 * m)) (10 * m) * (565 * m) ∧ sinI (3 * (i - 5 * m)) (10 * m) * (565 * m) ≤ 163840000 := by rcases hm with rfl | rfl <;> omega
      refine o_mul rfl rfl (by first | exact IntWalk.i64_in _ (by omega) | rfl) ?_
      refine o_mov rfl ?_
      refine o_mul rfl rfl (by first | exact IntWalk.i64_in _ (by omega) | rfl) ?_
      have hv : filtV m i = (sinI (3 * (i - 5 * m)) (10 * m) * (565 * m)).tdiv (1065 * (i - 5 * m)) := by unfold filtV; rw [if_neg hd]
      refine o_quo (c := filtV m i) rfl rfl (by omega) (by rw [← hv]; exact IntWalk.i64_in _ (by omega)) ?_
      refine o_asg rfl ?_
      refine w_nil ?_
      exact w_again ⟨(filtV m i), rfl, (by repeat (first | exact Sub.nil _ | refine Sub.cons rfl ?_)), (Take.sub (by repeat (first | exact Take.nil | exact Take.all _ | (apply Take.cons; focus (repeat (first | exact Pick.here | apply Pick.next))))))⟩
    · refine w_skip ?_
      exact w_again ⟨32768, (by unfold filtV; rw [if_pos (by omega)]), (by repeat (first | exact Sub.nil _ | refine Sub.cons rfl ?_)), (Take.sub (by repeat (first | exact Take.nil | exact Take.all _ | (apply Take.cons; focus (repeat (first | exact Pick.here | apply Pick.next))))))⟩
  · intro y hy
    refine w_seq ?_
    refine w_region rfl ?_
    have c1 := cos_in i (show 0 < 10 * m by omega)
    have c2 := cos_in (2 * i) (show 0 < 10 * m by omega)
    refine o_mov rfl ?_
    refine o_mov rfl ?_
    refine o_mul rfl rfl (by first | exact IntWalk.i64_in _ (by omega) | rfl) ?_
    refine o_call (wave_Cosine _ _ (by omega) (by omega)) fn_74 rfl (by repeat (first | exact Take.nil | exact Take.all _ | (apply Take.cons; focus (repeat (first | exact Pick.here | apply Pick.next))))) ?_
    rintro v ho ⟨rfl, rfl⟩
    refine o_mov rfl ?_
    refine o_ext rfl rfl ?_
    refine o_ext rfl rfl ?_
    refine o_asg rfl ?_
    refine o_asg rfl ?_
    refine w_nil ?_
    refine w_seq ?_
    refine w_region rfl ?_
    refine o_mov rfl ?_
    refine o_mul rfl rfl (by first | exact IntWalk.i64_in _ (by omega) | rfl) ?_
    refine o_mov rfl ?_
    refine o_mul rfl rfl (by first | exact IntWalk.i64_in _ (by omega) | rfl) ?_
    refine o_call (wave_Cosine _ _ (by omega) (by omega)) fn_74 rfl (by repeat (first | exact Take.nil | exact Take.all _ | (apply Take.cons; focus (repeat (first | exact Pick.here | apply Pick.next))))) ?_
    rintro v ho ⟨rfl, rfl⟩
    refine o_mov rfl ?_
    refine o_ext rfl rfl ?_
    refine o_ext rfl rfl ?_
    refine o_asg rfl ?_
    refine o_asg rfl ?_
    refine w_nil ?_
    refine w_seq ?_
    refine w_region rfl ?_
    refine o_mov rfl ?_
    refine o_conv int_2 (by rw [Try.underlying35]; rfl) rfl (by first | exact IntWalk.i64_in _ (by omega) | rfl) ?_
    refine o_mul rfl rfl (by first | exact IntWalk.i64_in _ (by omega) | rfl) ?_
    refine o_sub rfl rfl (by first | exact IntWalk.i64_in _ (by omega) | rfl) ?_
    refine o_mov rfl ?_
    refine o_conv int_2 (by rw [Try.underlying35]; rfl) rfl (by first | exact IntWalk.i64_in _ (by omega) | rfl) ?_
    refine o_mul rfl rfl (by first | exact IntWalk.i64_in _ (by omega) | rfl) ?_
    refine o_add rfl rfl (by first | exact IntWalk.i64_in _ (by omega) | rfl) ?_
    refine o_quo (c := filtW m i) rfl rfl (by decide) (IntWalk.i64_in (filtW m i) (by omega)) ?_
    refine o_asg rfl ?_
    refine w_nil ?_
    refine w_seq ?_
    refine w_region rfl ?_
    rw [hy]
    refine o_mov rfl ?_
    refine o_mov rfl ?_
    have hvw : -8000000000 ≤ filtV m i * filtW m i ∧ filtV m i * filtW m i ≤ 8000000000 := mul_in f1 f2 f3 f4
    refine o_mul rfl rfl (by first | exact IntWalk.i64_in _ (by omega) | rfl) ?_
    refine o_call (fix_Round _ _ (by omega)) fn_53 rfl (by repeat (first | exact Take.nil | exact Take.all _ | (apply Take.cons; focus (repeat (first | exact Pick.here | apply Pick.next))))) ?_
    rintro v ho ⟨rfl, rfl⟩
    have hr : -250000 ≤ roundI (filtV m i * filtW m i) 15 ∧ roundI (filtV m i * filtW m i) 15 ≤ 250000 := by rw [roundI15]; omega
    refine o_mul rfl rfl (by first | exact IntWalk.i64_in _ (by omega) | rfl) ?_
    refine o_call (fix_Round _ _ (by omega)) fn_53 rfl (by repeat (first | exact Take.nil | exact Take.all _ | (apply Take.cons; focus (repeat (first | exact Pick.here | apply Pick.next))))) ?_
    rintro v ho ⟨rfl, rfl⟩
    refine o_call (fix_Sat16 _) fn_52 rfl (by repeat (first | exact Take.nil | exact Take.all _ | (apply Take.cons; focus (repeat (first | exact Pick.here | apply Pick.next))))) ?_
    rintro v ho ⟨rfl, rfl⟩
    refine o_asg rfl ?_
    refine w_nil ?_
    exact w_ret (ret1 rfl rfl) ⟨by rw [show roundI (roundI (filtV m i * filtW m i) 15 * 19708) 15 = filtR m i from rfl, clamp_of_in f5 f6], rfl⟩ (HSub.refl _)

theorem filter1 {c0 : Nat} {T : TypeId} (i n : Int) (hm : n = 4 ∨ n = 8) (h0 : 0 ≤ i) (h1 : i < 10 * n) : Ctr Try.prog 77 [.int .i64 i, .pointer (some ⟨c0, 0, none⟩)] ([[(c0, .cells #[.int .i64 n] T (0, 0))]]) (fun v ho => v = .int .i16 (filtR n i) ∧ ho = [[(c0, .cells #[.int .i64 n] T (0, 0))]]) := by
  refine spec_of Try.func77 rfl rfl fun w0 L => ?_
  refine w_seq ?_
  refine w_region rfl ?_
  refine o_asg rfl ?_
  refine w_nil ?_
  refine w_seq ?_
  refine w_region rfl ?_
  refine o_load lod_3 rfl (by repeat (first | exact At.here | (refine At.inA ?_; assumption) | apply At.next)) rfl ?_
  refine o_mov rfl ?_
  refine o_call (bank_filtered _ _ hm h0 h1) fn_78 rfl (by repeat (first | exact Take.nil | exact Take.all _ | (apply Take.cons; focus (repeat (first | exact Pick.here | apply Pick.next))))) ?_
  rintro v ho ⟨rfl, rfl⟩
  refine o_asg rfl ?_
  refine w_nil ?_
  exact w_ret (ret1 rfl rfl) ⟨rfl, rfl⟩ (HSub.refl _)

end Go.Proofs.Ytjmnidcfgkdhcaa
