/- Contracts: the document's slot; the weather, by the program and by the document. No condition but on the sizes. -/
import Derived.Test.YtmcopafdooejjaaDoorTy
import Derived.Test.YtmcopafdooejjaaDoorHe
import Derived.Test.YtmcopafdooejjaaDoorPu
namespace Go.Proofs.YtmcopafdooejjaaDoor
open Go.Eng
set_option linter.unusedVariables false
set_option linter.unusedSimpArgs false
set_option maxRecDepth 20000
attribute [local irreducible] WL WT
theorem w_Draw {p : Nat} {T : TypeId} (k : SkyP) (x : Int) (f : Bool) (hx : 0 ≤ x ∧ x ≤ 4294967295) : Ctr Tryd.prog 75 [.pointer (some ⟨p, 0, none⟩)] ([[(p, .cells (wC k (x, f)) T (0, 0))]]) (fun v ho => v = .int .i64 (drawP x / 65536) ∧ ho = [[(p, .cells (wC k (drawP x, f)) T (0, 0))]]) := by
  refine spec_of Tryd.func75 rfl rfl fun w0 L => ?_
  refine w_seq ?_
  refine w_region rfl ?_
  refine o_asg rfl ?_
  refine w_nil ?_
  refine w_seq ?_
  refine w_seq ?_
  refine w_region rfl ?_
  refine o_mov rfl ?_
  refine o_pnil Tryd.underlying94 rfl rfl ?_
  refine w_nil ?_
  refine w_if_f rfl ?_
  refine w_skip ?_
  refine w_seq ?_
  refine w_region rfl ?_
  refine o_mov rfl ?_
  refine o_mov rfl ?_
  refine o_nilc rfl ?_
  refine o_fld fld_110_1 rfl rfl ?_
  refine o_load lod_38 rfl (by repeat (first | exact At.here | (refine At.inA ?_; assumption) | apply At.next)) rfl ?_
  refine o_mul rfl rfl rfl ?_
  refine o_add rfl rfl rfl ?_
  rw [draw_u32 hx]
  refine o_nilc rfl ?_
  refine o_fld fld_110_1 rfl rfl ?_
  refine o_store siz_38 rfl rfl rfl (by repeat (first | exact Upd.here | apply Upd.next)) rfl (by simp) ?_
  refine w_nil ?_
  have hd := drawP_in x
  refine w_seq ?_
  refine w_region rfl ?_
  refine o_mov rfl ?_
  refine o_nilc rfl ?_
  refine o_fld fld_110_1 rfl rfl ?_
  refine o_load lod_38 rfl (by repeat (first | exact At.here | (refine At.inA ?_; assumption) | apply At.next)) rfl ?_
  refine o_shr rfl rfl (by decide) (shr_k _ _ _ 65536 rfl (by decide)) ?_
  refine o_conv int_3 (by rw [Tryd.underlying38]; rfl) rfl (by first | exact IntWalk.i64_in _ (by omega) | rfl) ?_
  refine o_asg rfl ?_
  refine w_nil ?_
  exact w_ret (ret1 rfl rfl) ⟨rfl, rfl⟩ (Take.sub (by repeat (first | exact Take.nil | exact Take.all _ | (apply Take.cons; focus (repeat (first | exact Pick.here | apply Pick.next))))))

theorem w_of {p : Nat} {T : TypeId} (k : SkyP) (x : Int) (f : Bool) (a b : Int) : Ctr Tryd.prog 73 [.pointer (some ⟨p, 0, none⟩), .int .i64 a, .int .i64 b] ([[(p, .cells (wC k (x, f)) T (0, 0))]]) (fun v ho => v = .int .i64 (if f then b else a) ∧ ho = [[(p, .cells (wC k (x, f)) T (0, 0))]]) := by
  refine spec_of Tryd.func73 rfl rfl fun w0 L => ?_
  cases f
  · refine w_seq ?_
    refine w_region rfl ?_
    refine o_asg rfl ?_
    refine w_nil ?_
    refine w_seq ?_
    refine w_seq ?_
    refine w_region rfl ?_
    refine o_mov rfl ?_
    refine o_nilc rfl ?_
    refine o_fld fld_110_2 rfl rfl ?_
    refine o_load lod_4 rfl (by repeat (first | exact At.here | (refine At.inA ?_; assumption) | apply At.next)) rfl ?_
    refine w_nil ?_
    refine w_if_f rfl ?_
    refine w_skip ?_
    refine w_seq ?_
    refine w_region rfl ?_
    refine o_mov rfl ?_
    refine o_asg rfl ?_
    refine w_nil ?_
    exact w_ret (ret1 rfl rfl) ⟨rfl, rfl⟩ (Take.sub (by repeat (first | exact Take.nil | exact Take.all _ | (apply Take.cons; focus (repeat (first | exact Pick.here | apply Pick.next))))))
  · refine w_seq ?_
    refine w_region rfl ?_
    refine o_asg rfl ?_
    refine w_nil ?_
    refine w_seq ?_
    refine w_seq ?_
    refine w_region rfl ?_
    refine o_mov rfl ?_
    refine o_nilc rfl ?_
    refine o_fld fld_110_2 rfl rfl ?_
    refine o_load lod_4 rfl (by repeat (first | exact At.here | (refine At.inA ?_; assumption) | apply At.next)) rfl ?_
    refine w_nil ?_
    refine w_if_t rfl ?_
    refine w_seq ?_
    refine w_region rfl ?_
    refine o_mov rfl ?_
    refine o_asg rfl ?_
    refine w_nil ?_
    exact w_ret (ret1 rfl rfl) ⟨rfl, rfl⟩ (Take.sub (by repeat (first | exact Take.nil | exact Take.all _ | (apply Take.cons; focus (repeat (first | exact Pick.here | apply Pick.next))))))

theorem w_comes {p : Nat} {T : TypeId} (k : SkyP) (x : Int) (f : Bool) (hx : 0 ≤ x ∧ x ≤ 4294967295) (c : Int) : Ctr Tryd.prog 72 [.pointer (some ⟨p, 0, none⟩), .int .i64 c] ([[(p, .cells (wC k (x, f)) T (0, 0))]]) (fun v ho => v = .bool (decide (drawP x / 65536 < c)) ∧ ho = [[(p, .cells (wC k (drawP x, f)) T (0, 0))]]) := by
  refine spec_of Tryd.func72 rfl rfl fun w0 L => ?_
  refine w_seq ?_
  refine w_region rfl ?_
  refine o_asg rfl ?_
  refine w_nil ?_
  refine w_seq ?_
  refine w_region rfl ?_
  refine o_mov rfl ?_
  refine o_call (w_Draw k x f hx) fn_75 rfl (by repeat (first | exact Take.nil | exact Take.all _ | (apply Take.cons; focus (repeat (first | exact Pick.here | apply Pick.next))))) ?_
  rintro v ho ⟨rfl, rfl⟩
  refine o_mov rfl ?_
  refine o_lt rfl rfl ?_
  refine o_asg rfl ?_
  refine w_nil ?_
  exact w_ret (ret1 rfl rfl) ⟨rfl, rfl⟩ (Take.sub (by repeat (first | exact Take.nil | exact Take.all _ | (apply Take.cons; focus (repeat (first | exact Pick.here | apply Pick.next))))))

theorem w_bit (b : Bool) : Ctr Tryd.prog 60 [.bool b] ([]) (fun v ho => v = .int .i64 (bitP b) ∧ ho = []) := by
  refine spec_of Tryd.func60 rfl rfl fun w0 L => ?_
  cases b
  · refine w_seq ?_
    refine w_region rfl ?_
    refine o_asg rfl ?_
    refine w_nil ?_
    refine w_seq ?_
    refine w_seq ?_
    refine w_region rfl ?_
    refine o_mov rfl ?_
    refine w_nil ?_
    refine w_if_f rfl ?_
    refine w_skip ?_
    refine w_seq ?_
    refine w_region rfl ?_
    refine o_asg rfl ?_
    refine w_nil ?_
    exact w_ret (ret1 rfl rfl) ⟨rfl, rfl⟩ (Take.sub (by repeat (first | exact Take.nil | exact Take.all _ | (apply Take.cons; focus (repeat (first | exact Pick.here | apply Pick.next))))))
  · refine w_seq ?_
    refine w_region rfl ?_
    refine o_asg rfl ?_
    refine w_nil ?_
    refine w_seq ?_
    refine w_seq ?_
    refine w_region rfl ?_
    refine o_mov rfl ?_
    refine w_nil ?_
    refine w_if_t rfl ?_
    refine w_seq ?_
    refine w_region rfl ?_
    refine o_asg rfl ?_
    refine w_nil ?_
    exact w_ret (ret1 rfl rfl) ⟨rfl, rfl⟩ (Take.sub (by repeat (first | exact Take.nil | exact Take.all _ | (apply Take.cons; focus (repeat (first | exact Pick.here | apply Pick.next))))))

theorem w_Lost {p : Nat} {T : TypeId} (k : SkyP) (x : Int) (f : Bool) (hx : 0 ≤ x ∧ x ≤ 4294967295) : Ctr Tryd.prog 61 [.pointer (some ⟨p, 0, none⟩)] ([[(p, .cells (wC k (x, f)) T (0, 0))]]) (fun v ho => v = .bool (lostP k (x, f)).2 ∧ ho = [[(p, .cells (wC k (lostP k (x, f)).1) T (0, 0))]]) := by
  refine spec_of Tryd.func61 rfl rfl fun w0 L => ?_
  refine w_seq ?_
  refine w_region rfl ?_
  refine o_asg rfl ?_
  refine w_nil ?_
  refine w_seq ?_
  refine w_seq ?_
  refine w_region rfl ?_
  refine o_mov rfl ?_
  refine o_pnil Tryd.underlying94 rfl rfl ?_
  refine w_nil ?_
  refine w_if_f rfl ?_
  refine w_skip ?_
  refine w_seq ?_
  refine w_seq ?_
  refine w_line [(0, true), (1, true), (2, true), (3, true), (4, true), (5, true), (6, true), (7, true), (8, true), (9, true), (10, true), (11, true), (12, false), (13, false)] mixed (by kernel_rfl) ?_
  refine o_mov rfl ?_
  refine o_mov rfl ?_
  refine o_mov rfl ?_
  refine o_nilc rfl ?_
  refine o_fld fld_110_0 rfl rfl ?_
  refine o_fld fld_93_0 rfl rfl ?_
  refine o_load lod_3 rfl (by repeat (first | exact At.here | (refine At.inA ?_; assumption) | apply At.next)) rfl ?_
  refine o_mov rfl ?_
  refine o_nilc rfl ?_
  refine o_fld fld_110_0 rfl rfl ?_
  refine o_fld fld_93_1 rfl rfl ?_
  refine o_load lod_3 rfl (by repeat (first | exact At.here | (refine At.inA ?_; assumption) | apply At.next)) rfl ?_
  refine o_call (w_of k x f k.cloud k.clear) fn_73 rfl (by repeat (first | exact Take.nil | exact Take.all _ | (apply Take.cons; focus (repeat (first | exact Pick.here | apply Pick.next))))) ?_
  rintro v ho ⟨rfl, rfl⟩
  refine o_call (w_comes k x f (by first | assumption | exact drawP_in _) (if f then k.clear else k.cloud)) fn_72 rfl (by repeat (first | exact Take.nil | exact Take.all _ | (apply Take.cons; focus (repeat (first | exact Pick.here | apply Pick.next))))) ?_
  rintro v ho ⟨rfl, rfl⟩
  refine w_nil ?_
  refine w_if_d rfl (fun hc => ?_) (fun hc => ?_)
  · refine w_region rfl ?_
    refine o_mov rfl ?_
    refine o_mov rfl ?_
    refine o_nilc rfl ?_
    refine o_fld fld_110_2 rfl rfl ?_
    refine o_load lod_4 rfl (by repeat (first | exact At.here | (refine At.inA ?_; assumption) | apply At.next)) rfl ?_
    refine o_not rfl ?_
    refine o_nilc rfl ?_
    refine o_fld fld_110_2 rfl rfl ?_
    refine o_store siz_4 rfl rfl rfl (by repeat (first | exact Upd.here | apply Upd.next)) rfl (by simp) ?_
    refine w_nil ?_
    refine w_seq ?_
    refine w_line [(0, true), (1, true), (2, true), (3, true), (4, true), (5, true), (6, true), (7, true), (8, true), (9, true), (10, true), (11, true), (12, false), (13, false), (14, true)] mixed (by kernel_rfl) ?_
    refine o_mov rfl ?_
    refine o_mov rfl ?_
    refine o_mov rfl ?_
    refine o_nilc rfl ?_
    refine o_fld fld_110_0 rfl rfl ?_
    refine o_fld fld_93_2 rfl rfl ?_
    refine o_load lod_3 rfl (by repeat (first | exact At.here | (refine At.inA ?_; assumption) | apply At.next)) rfl ?_
    refine o_mov rfl ?_
    refine o_nilc rfl ?_
    refine o_fld fld_110_0 rfl rfl ?_
    refine o_fld fld_93_3 rfl rfl ?_
    refine o_load lod_3 rfl (by repeat (first | exact At.here | (refine At.inA ?_; assumption) | apply At.next)) rfl ?_
    refine o_call (w_of k (drawP x) (!f) k.fair k.foul) fn_73 rfl (by repeat (first | exact Take.nil | exact Take.all _ | (apply Take.cons; focus (repeat (first | exact Pick.here | apply Pick.next))))) ?_
    rintro v ho ⟨rfl, rfl⟩
    refine o_call (w_comes k (drawP x) (!f) (by first | assumption | exact drawP_in _) (if (!f) then k.foul else k.fair)) fn_72 rfl (by repeat (first | exact Take.nil | exact Take.all _ | (apply Take.cons; focus (repeat (first | exact Pick.here | apply Pick.next))))) ?_
    rintro v ho ⟨rfl, rfl⟩
    refine o_asg rfl ?_
    refine w_nil ?_
    have hlo := lost_of (turn_yes hc)
    exact w_ret (ret1 rfl rfl) ⟨(by rw [hlo]), (show ([[(p, .cells (wC k (drawP (drawP x), (!f))) T (0, 0))]] : Hs) = [[(p, .cells (wC k (lostP k (x, f)).1) T (0, 0))]] by rw [hlo])⟩ (Take.sub (by repeat (first | exact Take.nil | exact Take.all _ | (apply Take.cons; focus (repeat (first | exact Pick.here | apply Pick.next))))))
  · refine w_skip ?_
    refine w_seq ?_
    refine w_line [(0, true), (1, true), (2, true), (3, true), (4, true), (5, true), (6, true), (7, true), (8, true), (9, true), (10, true), (11, true), (12, false), (13, false), (14, true)] mixed (by kernel_rfl) ?_
    refine o_mov rfl ?_
    refine o_mov rfl ?_
    refine o_mov rfl ?_
    refine o_nilc rfl ?_
    refine o_fld fld_110_0 rfl rfl ?_
    refine o_fld fld_93_2 rfl rfl ?_
    refine o_load lod_3 rfl (by repeat (first | exact At.here | (refine At.inA ?_; assumption) | apply At.next)) rfl ?_
    refine o_mov rfl ?_
    refine o_nilc rfl ?_
    refine o_fld fld_110_0 rfl rfl ?_
    refine o_fld fld_93_3 rfl rfl ?_
    refine o_load lod_3 rfl (by repeat (first | exact At.here | (refine At.inA ?_; assumption) | apply At.next)) rfl ?_
    refine o_call (w_of k (drawP x) f k.fair k.foul) fn_73 rfl (by repeat (first | exact Take.nil | exact Take.all _ | (apply Take.cons; focus (repeat (first | exact Pick.here | apply Pick.next))))) ?_
    rintro v ho ⟨rfl, rfl⟩
    refine o_call (w_comes k (drawP x) f (by first | assumption | exact drawP_in _) (if f then k.foul else k.fair)) fn_72 rfl (by repeat (first | exact Take.nil | exact Take.all _ | (apply Take.cons; focus (repeat (first | exact Pick.here | apply Pick.next))))) ?_
    rintro v ho ⟨rfl, rfl⟩
    refine o_asg rfl ?_
    refine w_nil ?_
    have hlo := lost_of (turn_no hc)
    exact w_ret (ret1 rfl rfl) ⟨(by rw [hlo]), (show ([[(p, .cells (wC k (drawP (drawP x), f)) T (0, 0))]] : Hs) = [[(p, .cells (wC k (lostP k (x, f)).1) T (0, 0))]] by rw [hlo])⟩ (Take.sub (by repeat (first | exact Take.nil | exact Take.all _ | (apply Take.cons; focus (repeat (first | exact Pick.here | apply Pick.next))))))

end Go.Proofs.YtmcopafdooejjaaDoor
