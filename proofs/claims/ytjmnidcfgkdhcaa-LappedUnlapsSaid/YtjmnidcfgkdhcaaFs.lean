/- Contracts of the library's own: atomic cells, sync.Mutex, sync.Once, in a block at hand. No condition but on what the cells hold. -/
import Derived.Test.YtjmnidcfgkdhcaaTy
namespace Go.Proofs.Ytjmnidcfgkdhcaa
open Go.Eng
set_option linter.unusedVariables false
set_option linter.unusedSimpArgs false
set_option maxRecDepth 20000
attribute [local irreducible] WL WT
theorem i64_Load {b off : Nat} {ar : Array Value} {T : TypeId} {n : Int} (h0 : ar[off]? = some (.int .i64 n)) : Ctr Try.prog 46 [.pointer (some ⟨b, off, none⟩)] ([[(b, .cells (ar) T (0, 0))]]) (fun v ho => v = .int .i64 n ∧ ho = [[(b, .cells (ar) T (0, 0))]]) := by
  refine spec_of Try.func46 rfl rfl fun w0 L => ?_
  refine w_seq ?_
  refine w_region rfl ?_
  refine o_asg rfl ?_
  refine w_nil ?_
  refine w_seq ?_
  refine w_region rfl ?_
  refine o_mov rfl ?_
  refine o_nilc rfl ?_
  refine o_fld fld_96_2 rfl rfl ?_
  refine o_aload xf_81 .i64 (by kernel_rfl) rfl (by repeat (first | exact At.here | (refine At.inA ?_; assumption) | apply At.next)) (by first | with_reducible assumption | (simp only [Nat.add_zero]; with_reducible assumption)) ?_
  refine o_asg rfl ?_
  refine w_nil ?_
  exact w_ret (ret1 rfl rfl) ⟨rfl, rfl⟩ (HSub.refl _)

theorem i64_Add {b off : Nat} {ar : Array Value} {T : TypeId} {n m : Int} (h0 : ar[off]? = some (.int .i64 n)) (hn : -9223372036854775808 ≤ n + m ∧ n + m ≤ 9223372036854775807) : Ctr Try.prog 91 [.pointer (some ⟨b, off, none⟩), .int .i64 m] ([[(b, .cells (ar) T (0, 0))]]) (fun v ho => v = .int .i64 (n + m) ∧ ho = [[(b, .cells (ar.setIfInBounds off (.int .i64 (n + m))) T (0, 0))]]) := by
  refine spec_of Try.func91 rfl rfl fun w0 L => ?_
  refine w_seq ?_
  refine w_region rfl ?_
  refine o_asg rfl ?_
  refine w_nil ?_
  refine w_seq ?_
  refine w_region rfl ?_
  refine o_mov rfl ?_
  refine o_nilc rfl ?_
  refine o_fld fld_96_2 rfl rfl ?_
  refine o_mov rfl ?_
  refine o_aadd xf_100 .i64 (by kernel_rfl) rfl (by first | exact IntWalk.i64_in _ (by omega) | rfl) (by repeat (first | exact Upd.here | apply Upd.next)) (by first | with_reducible assumption | (simp only [Nat.add_zero]; with_reducible assumption)) ?_
  refine o_asg rfl ?_
  refine w_nil ?_
  exact w_ret (ret1 rfl rfl) ⟨rfl, rfl⟩ (HSub.refl _)

theorem bool_Load {b off : Nat} {ar : Array Value} {T : TypeId} {n : Int} (h0 : ar[off]? = some (.int .u32 n)) : Ctr Try.prog 98 [.pointer (some ⟨b, off, none⟩)] ([[(b, .cells (ar) T (0, 0))]]) (fun v ho => v = .bool (decide (n ≠ 0)) ∧ ho = [[(b, .cells (ar) T (0, 0))]]) := by
  refine spec_of Try.func98 rfl rfl fun w0 L => ?_
  refine w_seq ?_
  refine w_region rfl ?_
  refine o_asg rfl ?_
  refine w_nil ?_
  refine w_seq ?_
  refine w_region rfl ?_
  refine o_mov rfl ?_
  refine o_nilc rfl ?_
  refine o_fld fld_82_1 rfl rfl ?_
  refine o_aload xf_104 .u32 (by kernel_rfl) rfl (by repeat (first | exact At.here | (refine At.inA ?_; assumption) | apply At.next)) (by first | with_reducible assumption | (simp only [Nat.add_zero]; with_reducible assumption)) ?_
  refine o_ne rfl rfl ?_
  refine o_asg rfl ?_
  refine w_nil ?_
  exact w_ret (ret1 rfl rfl) ⟨rfl, rfl⟩ (HSub.refl _)

theorem b32_true  : Ctr Try.prog 111 [.bool true] ([]) (fun v ho => v = .int .u32 1 ∧ ho = []) := by
  refine spec_of Try.func111 rfl rfl fun w0 L => ?_
  refine w_seq ?_
  refine w_region rfl ?_
  refine o_asg rfl ?_
  refine w_nil ?_
  refine w_seq ?_
  refine w_seq ?_
  refine w_region rfl ?_
  refine o_mov rfl ?_
  refine w_nil ?_
  refine w_if_t rfl ?_
  refine w_seq ?_
  refine w_region rfl ?_
  refine o_asg rfl ?_
  refine w_nil ?_
  exact w_ret (ret1 rfl rfl) ⟨rfl, rfl⟩ (HSub.refl _)

theorem bool_Store {b off : Nat} {ar : Array Value} {T : TypeId} {u : Value} (h0 : ar[off]? = some u) : CtrD Try.prog 107 [.pointer (some ⟨b, off, none⟩), .bool true] ([[(b, .cells (ar) T (0, 0))]]) (fun v ho => v = .tuple #[] ∧ ho = [[(b, .cells (ar.setIfInBounds off (.int .u32 1)) T (0, 0))]]) := by
  refine specD_of Try.func107 rfl rfl fun w0 L => ?_
  refine w_line [(0, true), (1, true), (2, true), (3, true), (4, false), (5, false)] mixed (by kernel_rfl) ?_
  refine o_mov rfl ?_
  refine o_nilc rfl ?_
  refine o_fld fld_82_1 rfl rfl ?_
  refine o_mov rfl ?_
  refine o_call (b32_true) fn_111 rfl (by repeat (first | exact Take.nil | exact Take.all _ | (apply Take.cons; focus (repeat (first | exact Pick.here | apply Pick.next))))) ?_
  rintro v ho ⟨rfl, rfl⟩
  refine o_astore xf_110 .u32 (by kernel_rfl) rfl (by repeat (first | exact Upd.here | apply Upd.next)) (by first | with_reducible assumption | (simp only [Nat.add_zero]; with_reducible assumption)) ?_
  refine w_nil ?_
  exact w_end (ret0 rfl) ⟨rfl, rfl⟩ (HSub.refl _)

theorem mu_Lock {b off : Nat} {ar : Array Value} {T : TypeId} (h0 : ar[off]? = some (.int .i32 0)) : Ctr Try.prog 108 [.pointer (some ⟨b, off, none⟩)] ([[(b, .cells (ar) T (0, 0))]]) (fun v ho => v = .tuple #[] ∧ ho = [[(b, .cells (ar.setIfInBounds off (.int .i32 1)) T (0, 0))]]) := by
  refine spec_of Try.func108 rfl rfl fun w0 L => ?_
  refine w_seq ?_
  refine w_region rfl ?_
  refine o_mark0 xf_112 .disable (by kernel_rfl) rfl ?_
  refine w_nil ?_
  refine w_seq ?_
  refine w_seq ?_
  refine w_region rfl ?_
  refine o_mov rfl ?_
  refine o_nilc rfl ?_
  refine o_fld fld_84_0 rfl rfl ?_
  refine o_acas xf_113 .i32 (by kernel_rfl) rfl (by repeat (first | exact Upd.here | apply Upd.next)) (by first | with_reducible assumption | (simp only [Nat.add_zero]; with_reducible assumption)) ?_
  refine w_nil ?_
  refine w_if_t rfl ?_
  refine w_seq ?_
  refine w_if_t rfl ?_
  refine w_seq ?_
  refine w_region rfl ?_
  refine o_mark0 xf_114 .enable (by kernel_rfl) rfl ?_
  refine w_nil ?_
  refine w_region rfl ?_
  have h2 := get_set h0 (.int .i32 1)
  refine o_mov rfl ?_
  refine o_unsafe Try.underlying175 Try.underlying179 (by kernel_rfl) rfl (by repeat (first | exact At.here | (refine At.inA ?_; assumption) | apply At.next)) (by first | with_reducible assumption | (simp only [Nat.add_zero]; with_reducible assumption)) ?_
  refine o_marked xf_115 .acquire (by kernel_rfl) rfl ?_
  refine w_nil ?_
  exact w_ret (ret0 rfl) ⟨rfl, rfl⟩ (HSub.refl _)

theorem mu_Unlock {b off : Nat} {ar : Array Value} {T : TypeId} (h0 : ar[off]? = some (.int .i32 1)) : Ctr Try.prog 109 [.pointer (some ⟨b, off, none⟩)] ([[(b, .cells (ar) T (0, 0))]]) (fun v ho => v = .tuple #[] ∧ ho = [[(b, .cells (ar.setIfInBounds off (.int .i32 0)) T (0, 0))]]) := by
  refine spec_of Try.func109 rfl rfl fun w0 L => ?_
  refine w_seq ?_
  refine w_if_t rfl ?_
  refine w_seq ?_
  refine w_region rfl ?_
  refine o_mov rfl ?_
  refine o_nilc rfl ?_
  refine o_fld fld_84_0 rfl rfl ?_
  refine o_load lod_21 rfl (by repeat (first | exact At.here | (refine At.inA ?_; assumption) | apply At.next)) h0 ?_
  refine w_nil ?_
  refine w_seq ?_
  refine w_region rfl ?_
  refine o_mov rfl ?_
  refine o_unsafe Try.underlying175 Try.underlying179 (by kernel_rfl) rfl (by repeat (first | exact At.here | (refine At.inA ?_; assumption) | apply At.next)) (by first | with_reducible assumption | (simp only [Nat.add_zero]; with_reducible assumption)) ?_
  refine o_marked xf_117 .releaseMerge (by kernel_rfl) rfl ?_
  refine w_nil ?_
  refine w_region rfl ?_
  refine o_mark0 xf_112 .disable (by kernel_rfl) rfl ?_
  refine w_nil ?_
  refine w_seq ?_
  refine w_region rfl ?_
  refine o_mov rfl ?_
  refine o_nilc rfl ?_
  refine o_fld fld_84_0 rfl rfl ?_
  refine o_aadd xf_118 .i32 (by kernel_rfl) rfl (show IntKind.i32.wrap (1 + -1) = 0 from rfl) (by repeat (first | exact Upd.here | apply Upd.next)) h0 ?_
  refine o_asg rfl ?_
  refine w_nil ?_
  refine w_seq ?_
  refine w_seq ?_
  refine w_region rfl ?_
  refine o_mov rfl ?_
  refine o_ne_f rfl rfl (by omega) ?_
  refine w_nil ?_
  refine w_if_f rfl ?_
  refine w_skip ?_
  refine w_region rfl ?_
  refine o_mark0 xf_114 .enable (by kernel_rfl) rfl ?_
  refine w_nil ?_
  exact w_end (ret0 rfl) ⟨rfl, rfl⟩ (HSub.refl _)

theorem sync_Lock {b off : Nat} {ar : Array Value} {T : TypeId} (h0 : ar[off]? = some (.int .i32 0)) : Ctr Try.prog 105 [.pointer (some ⟨b, off, none⟩)] ([[(b, .cells (ar) T (0, 0))]]) (fun v ho => v = .tuple #[] ∧ ho = [[(b, .cells (ar.setIfInBounds off (.int .i32 1)) T (0, 0))]]) := by
  refine spec_of Try.func105 rfl rfl fun w0 L => ?_
  refine w_region rfl ?_
  refine o_mov rfl ?_
  refine o_nilc rfl ?_
  refine o_fld fld_86_1 rfl rfl ?_
  refine o_call (mu_Lock h0) fn_108 rfl (by repeat (first | exact Take.nil | exact Take.all _ | (apply Take.cons; focus (repeat (first | exact Pick.here | apply Pick.next))))) ?_
  rintro v ho ⟨rfl, rfl⟩
  refine w_nil ?_
  exact w_end (ret0 rfl) ⟨rfl, rfl⟩ (HSub.refl _)

theorem sync_Unlock {b off : Nat} {ar : Array Value} {T : TypeId} (h0 : ar[off]? = some (.int .i32 1)) : CtrD Try.prog 106 [.pointer (some ⟨b, off, none⟩)] ([[(b, .cells (ar) T (0, 0))]]) (fun v ho => v = .tuple #[] ∧ ho = [[(b, .cells (ar.setIfInBounds off (.int .i32 0)) T (0, 0))]]) := by
  refine specD_of Try.func106 rfl rfl fun w0 L => ?_
  refine w_region rfl ?_
  refine o_mov rfl ?_
  refine o_nilc rfl ?_
  refine o_fld fld_86_1 rfl rfl ?_
  refine o_call (mu_Unlock h0) fn_109 rfl (by repeat (first | exact Take.nil | exact Take.all _ | (apply Take.cons; focus (repeat (first | exact Pick.here | apply Pick.next))))) ?_
  rintro v ho ⟨rfl, rfl⟩
  refine w_nil ?_
  exact w_end (ret0 rfl) ⟨rfl, rfl⟩ (HSub.refl _)

theorem once_slow {b off : Nat} {ar : Array Value} {T : TypeId} {g : FuncId} {cap : Array Value} (hg : fnB Try.prog g = true) (h0 : ar[off]? = some (.int .u32 0)) (h1 : ar[off + 1]? = some (.int .i32 0)) {hr : Hs} {Q : Array Value → Hs → Prop} (sp : Ctr Try.prog g cap.toList ([(b, .cells (ar.setIfInBounds (off + 1) (.int .i32 1)) T (0, 0))] :: hr) (fun v ho => ∃ ar' hr', ho = [(b, .cells ar' T (0, 0))] :: hr' ∧ ar'[off]? = some (.int .u32 0) ∧ ar'[off + 1]? = some (.int .i32 1) ∧ Q ar' hr')) : Ctr Try.prog 99 [.pointer (some ⟨b, off, none⟩), .func (.func g) #[] cap] ([(b, .cells ar T (0, 0))] :: hr) (fun v ho => v = .tuple #[] ∧ ∃ ar' hr', Q ar' hr' ∧ ho = [(b, .cells ((ar'.setIfInBounds off (.int .u32 1)).setIfInBounds (off + 1) (.int .i32 0)) T (0, 0))] :: hr') := by
  refine spec_ofD Try.func99 rfl rfl fun w0 L => ?_
  refine w_seq ?_
  refine w_region rfl ?_
  refine o_mov rfl ?_
  refine o_nilc rfl ?_
  refine o_fld fld_88_2 rfl rfl ?_
  refine o_call (sync_Lock h1) fn_105 rfl (by repeat (first | exact Take.nil | exact Take.all _ | (apply Take.cons; focus (repeat (first | exact Pick.here | apply Pick.next))))) ?_
  rintro v ho ⟨rfl, rfl⟩
  refine w_nil ?_
  refine w_seq ?_
  refine w_deferL rfl rfl rfl ?_
  refine o_mov rfl ?_
  refine o_nilc rfl ?_
  refine o_fld fld_88_2 rfl rfl ?_
  refine wl_nil ⟨_, fun a w hk => defer_fn rfl a w hk, ?_⟩
  refine w_seq ?_
  refine w_region rfl ?_
  refine o_mov rfl ?_
  refine o_nilc rfl ?_
  refine o_fld fld_88_1 rfl rfl ?_
  refine o_call (bool_Load (n := 0) (show (ar.setIfInBounds (off + 1) (.int .i32 1))[off]? = some (.int .u32 0) from (get_set_ne (by omega) _).trans h0)) fn_98 rfl (by repeat (first | exact Take.nil | exact Take.all _ | (apply Take.cons; focus (repeat (first | exact Pick.here | apply Pick.next))))) ?_
  rintro v ho ⟨rfl, rfl⟩
  refine o_not rfl ?_
  refine w_nil ?_
  refine w_if_t rfl ?_
  refine w_seq ?_
  refine w_deferL rfl rfl rfl ?_
  refine o_mov rfl ?_
  refine o_nilc rfl ?_
  refine o_fld fld_88_1 rfl rfl ?_
  refine wl_nil ⟨_, fun a w hk => defer_fn rfl a w hk, ?_⟩
  refine w_region rfl ?_
  refine o_mov rfl ?_
  refine o_callv (sp) hg rfl rfl rfl (by repeat (first | exact Take.nil | exact Take.all _ | (apply Take.cons; focus (repeat (first | exact Pick.here | apply Pick.next))))) ?_
  rintro v ho ⟨ar', hr', rfl, k0, k1, hQ⟩
  refine w_nil ?_
  rw [List.append_nil]
  refine w_endD ?_
  refine LV.cons (bool_Store k0) fn_107 (by repeat (first | exact Take.nil | exact Take.all _ | (apply Take.cons; focus (repeat (first | exact Pick.here | apply Pick.next))))) ?_
  rintro v ho ⟨rfl, rfl⟩
  refine LV.cons (sync_Unlock (show (ar'.setIfInBounds off (.int .u32 1))[off + 1]? = some (.int .i32 1) from (get_set_ne (by omega) _).trans k1)) fn_106 (by repeat (first | exact Take.nil | exact Take.all _ | (apply Take.cons; focus (repeat (first | exact Pick.here | apply Pick.next))))) ?_
  rintro v ho ⟨rfl, rfl⟩
  exact LV.nil (ret0 rfl) ⟨rfl, ar', hr', hQ, rfl⟩ (HSub.refl _)

theorem once_Do {b off : Nat} {ar : Array Value} {T : TypeId} {g : FuncId} {cap : Array Value} (hg : fnB Try.prog g = true) (h0 : ar[off]? = some (.int .u32 0)) (h1 : ar[off + 1]? = some (.int .i32 0)) {hr : Hs} {Q : Array Value → Hs → Prop} (sp : Ctr Try.prog g cap.toList ([(b, .cells (ar.setIfInBounds (off + 1) (.int .i32 1)) T (0, 0))] :: hr) (fun v ho => ∃ ar' hr', ho = [(b, .cells ar' T (0, 0))] :: hr' ∧ ar'[off]? = some (.int .u32 0) ∧ ar'[off + 1]? = some (.int .i32 1) ∧ Q ar' hr')) : Ctr Try.prog 89 [.pointer (some ⟨b, off, none⟩), .func (.func g) #[] cap] ([(b, .cells ar T (0, 0))] :: hr) (fun v ho => v = .tuple #[] ∧ ∃ ar' hr', Q ar' hr' ∧ ho = [(b, .cells ((ar'.setIfInBounds off (.int .u32 1)).setIfInBounds (off + 1) (.int .i32 0)) T (0, 0))] :: hr') := by
  refine spec_of Try.func89 rfl rfl fun w0 L => ?_
  refine w_seq ?_
  refine w_region rfl ?_
  refine o_mov rfl ?_
  refine o_nilc rfl ?_
  refine o_fld fld_88_1 rfl rfl ?_
  refine o_call (bool_Load h0) fn_98 rfl (by repeat (first | exact Take.nil | exact Take.all _ | (apply Take.cons; focus (repeat (first | exact Pick.here | apply Pick.next))))) ?_
  rintro v ho ⟨rfl, rfl⟩
  refine o_not rfl ?_
  refine w_nil ?_
  refine w_if_t rfl ?_
  refine w_region rfl ?_
  refine o_mov rfl ?_
  refine o_mov rfl ?_
  refine o_call (once_slow hg h0 h1 sp) fn_99 rfl (by repeat (first | exact Take.nil | exact Take.all _ | (apply Take.cons; focus (repeat (first | exact Pick.here | apply Pick.next))))) ?_
  rintro v ho ⟨rfl, ar', hr', hQ, rfl⟩
  refine w_nil ?_
  rw [List.append_nil]
  exact w_end (ret0 rfl) ⟨rfl, ar', hr', hQ, rfl⟩ (HSub.refl _)

theorem once_Done {b off : Nat} {ar : Array Value} {T : TypeId} {f : Value} (h0 : ar[off]? = some (.int .u32 1)) : Ctr Try.prog 89 [.pointer (some ⟨b, off, none⟩), f] ([(b, .cells ar T (0, 0))] :: []) (fun v ho => v = .tuple #[] ∧ ho = [[(b, .cells (ar) T (0, 0))]]) := by
  refine spec_of Try.func89 rfl rfl fun w0 L => ?_
  refine w_seq ?_
  refine w_region rfl ?_
  refine o_mov rfl ?_
  refine o_nilc rfl ?_
  refine o_fld fld_88_1 rfl rfl ?_
  refine o_call (bool_Load h0) fn_98 rfl (by repeat (first | exact Take.nil | exact Take.all _ | (apply Take.cons; focus (repeat (first | exact Pick.here | apply Pick.next))))) ?_
  rintro v ho ⟨rfl, rfl⟩
  refine o_not rfl ?_
  refine w_nil ?_
  refine w_if_f rfl ?_
  refine w_skip ?_
  exact w_end (ret0 rfl) ⟨rfl, rfl⟩ (HSub.refl _)

end Go.Proofs.Ytjmnidcfgkdhcaa
