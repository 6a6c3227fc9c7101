/- Contracts: the program's steps as the document's; the document's Same, of the same steps. No condition but on the length. -/
import Derived.Test.YtmcopafdooejjaaDoorTy
import Derived.Test.YtmcopafdooejjaaDoorHl
import Derived.Test.YtmcopafdooejjaaDoorPz
namespace Go.Proofs.YtmcopafdooejjaaDoor
open Go.Eng
set_option linter.unusedVariables false
set_option linter.unusedSimpArgs false
set_option maxRecDepth 20000
attribute [local irreducible] WL WT
theorem law_to {v : Value} {Z : List StepP} {Ho Hi : Hp} (hR0 : SRows Ho Hi v 37 Z) (hLl : Z.length ≤ 100000) (hsl : ∀ s ∈ Z, s.slots.length ≤ 1000000) : Ctr Tryd.prog 8 [v] ([Ho, Hi]) (fun v' ho => ∃ H1 M, SRows H1 M v' 53 Z ∧ ho = [H1, M, Ho]) := by
  refine spec_of Tryd.func8 rfl rfl fun w0 L => ?_
  obtain ⟨cs0, hOw0, hall0, hst0⟩ := hR0
  have hRd0 := hOw0.rd
  refine w_emp ?_
  refine w_seq ?_
  refine w_region rfl ?_
  refine o_asg rfl ?_
  refine w_nil ?_
  refine w_seq ?_
  refine w_region rfl ?_
  refine o_asg rfl ?_
  refine w_nil ?_
  refine w_seq ?_
  refine w_seq ?_
  refine w_region rfl ?_
  refine o_asg rfl ?_
  refine w_nil ?_
  refine w_block ?_
  refine w_loop (X := Nat × Value × Hp × Hp) (fun x => [(0, v), (3, x.2.1), (4, .int .i64 x.1)]) (fun x => [x.2.2.1, x.2.2.2, Ho]) (fun x => x.1 ≤ Z.length ∧ SRows x.2.2.1 x.2.2.2 x.2.1 53 (Z.take x.1) ∧ (∀ y ∈ Hi, y ∈ x.2.2.2)) (fun x => Z.length - x.1) (0, .slice none 0 0, [], Hi) ⟨by simp, ⟨[], Own.nil _ _, rfl, fun i s h => by simp at h⟩, fun y hy => hy⟩ (by repeat (first | exact Sub.nil _ | refine Sub.cons rfl ?_)) (Take.sub (by repeat (first | exact Take.nil | exact Take.all _ | (apply Take.cons; focus (repeat (first | exact Pick.here | apply Pick.next)))))) ?_
  rintro ⟨i, u, Hu, M⟩ ⟨hi, hR, hsub⟩
  simp only at hi hR hsub ⊢
  refine w_seq ?_
  refine w_seq ?_
  refine w_region rfl ?_
  refine o_mov rfl ?_
  refine o_mov rfl ?_
  refine o_lenR hRd0 slc_23 rfl ?_
  refine o_lt rfl rfl ?_
  refine w_nil ?_
  refine w_if_d rfl (fun hlt => ?_) (fun hlt => ?_)
  · have hi2 : i < Z.length := by omega
    obtain ⟨s, hs, htk⟩ := get_some hi2
    have hsl2 := hsl s (List.mem_of_getElem? hs)
    obtain ⟨vs, va, vb, vl, ⟨c0, c1, c2, c3, c4, c5⟩, k1, k2, k3, k4⟩ := (hst0 i s hs).more hsub
    obtain ⟨ps, cs, rfl, -⟩ := Rd.slice k1
    obtain ⟨pa, ca, rfl, -⟩ := Rd.slice k2
    obtain ⟨pb, cb, rfl, -⟩ := Rd.slice k3
    obtain ⟨pl, cl, rfl, -⟩ := Rd.slice k4
    have hsm : s.slots.length ≤ 9223372036854775807 := k4.2.1
    have htl : (Z.take i).length = i := by rw [List.length_take]; omega
    refine w_emp ?_
    refine w_skip ?_
    refine w_seq ?_
    refine w_block ?_
    refine w_seq ?_
    refine w_line [(0, true), (1, true), (2, true), (3, true), (4, true), (5, true), (6, true), (7, true), (8, true), (9, true), (10, true), (11, true), (12, true), (13, true), (14, true), (15, true), (16, true), (17, true), (18, true), (19, true), (20, true), (21, true), (22, true), (23, true), (24, true), (25, true), (26, false), (27, false)] mixed (by kernel_rfl) ?_
    refine o_mov rfl ?_
    refine o_mov rfl ?_
    refine o_idxR hRd0 (by repeat (first | exact Has.here | apply Has.next)) slc_23 rfl rfl ⟨by omega, by omega⟩ (fun bb0 ff0 ar0 TT0 fr0 hm0 hg0 => ?_)
    refine o_fld fld_37_0 rfl rfl ?_
    refine o_load (v := .int .i64 s.kind) lod_3 rfl hm0 (hg0 0 _ (by rw [show (i : Int).toNat * 6 + 0 = i * 6 + 0 by omega]; exact c0)) ?_
    refine o_mov rfl ?_
    refine o_mov rfl ?_
    refine o_idxR hRd0 (by repeat (first | exact Has.here | apply Has.next)) slc_23 rfl rfl ⟨by omega, by omega⟩ (fun bb1 ff1 ar1 TT1 fr1 hm1 hg1 => ?_)
    refine o_fld fld_37_1 rfl rfl ?_
    refine o_load (v := .int .i64 s.n) lod_3 rfl hm1 (hg1 1 _ (by rw [show (i : Int).toNat * 6 + 1 = i * 6 + 1 by omega]; exact c1)) ?_
    refine o_mov rfl ?_
    refine o_mov rfl ?_
    refine o_idxR hRd0 (by repeat (first | exact Has.here | apply Has.next)) slc_23 rfl rfl ⟨by omega, by omega⟩ (fun bb2 ff2 ar2 TT2 fr2 hm2 hg2 => ?_)
    refine o_fld fld_37_2 rfl rfl ?_
    refine o_load (v := .slice ps s.samples.length cs) lod_33 rfl hm2 (hg2 2 _ (by rw [show (i : Int).toNat * 6 + 2 = i * 6 + 2 by omega]; exact c2)) ?_
    refine o_mov rfl ?_
    refine o_mov rfl ?_
    refine o_idxR hRd0 (by repeat (first | exact Has.here | apply Has.next)) slc_23 rfl rfl ⟨by omega, by omega⟩ (fun bb3 ff3 ar3 TT3 fr3 hm3 hg3 => ?_)
    refine o_fld fld_37_3 rfl rfl ?_
    refine o_load (v := .slice pa s.a.length ca) lod_34 rfl hm3 (hg3 3 _ (by rw [show (i : Int).toNat * 6 + 3 = i * 6 + 3 by omega]; exact c3)) ?_
    refine o_mov rfl ?_
    refine o_mov rfl ?_
    refine o_idxR hRd0 (by repeat (first | exact Has.here | apply Has.next)) slc_23 rfl rfl ⟨by omega, by omega⟩ (fun bb4 ff4 ar4 TT4 fr4 hm4 hg4 => ?_)
    refine o_fld fld_37_4 rfl rfl ?_
    refine o_load (v := .slice pb s.b.length cb) lod_34 rfl hm4 (hg4 4 _ (by rw [show (i : Int).toNat * 6 + 4 = i * 6 + 4 by omega]; exact c4)) ?_
    refine o_bld (c := #[.int .i64 s.kind, .int .i64 s.n, .slice ps s.samples.length cs, .slice pa s.a.length ca, .slice pb s.b.length cb, .slice none 0 0]) bld_53 rfl rfl ?_
    refine o_alloc zer_53 (fun b1 => ?_)
    refine o_storeW siz_53 rfl rfl rfl (by repeat (first | exact Upd.here | apply Upd.next)) rfl rfl ?_
    refine w_nil ?_
    refine w_seq ?_
    refine w_seq ?_
    refine w_region rfl ?_
    refine o_asg rfl ?_
    refine w_nil ?_
    refine w_block ?_
    refine w_loop (X := Nat × Value × Hp) (fun x => [(0, v), (3, u), (4, .int .i64 i), (5, .pointer (some ⟨b1, 0, none⟩)), (6, .int .i64 x.1)]) (fun x => [x.2.2, [(b1, .cells #[.int .i64 s.kind, .int .i64 s.n, .slice ps s.samples.length cs, .slice pa s.a.length ca, .slice pb s.b.length cb, x.2.1] 53 (0, 0))], Hu, M, Ho]) (fun x => x.1 ≤ s.slots.length ∧ Own x.2.2 x.2.1 55 4 x.1 (slotsC (s.slots.take x.1))) (fun x => s.slots.length - x.1) (0, .slice none 0 0, []) ⟨by simp, Own.nil _ _⟩ (by repeat (first | exact Sub.nil _ | refine Sub.cons rfl ?_)) (Take.sub (by repeat (first | exact Take.nil | exact Take.all _ | (apply Take.cons; focus (repeat (first | exact Pick.here | apply Pick.next)))))) ?_
    rintro ⟨k, ur, H⟩ ⟨hk, hO⟩
    simp only at hk hO ⊢
    refine w_seq ?_
    refine w_seq ?_
    refine w_region rfl ?_
    refine o_mov rfl ?_
    refine o_mov rfl ?_
    refine o_mov rfl ?_
    refine o_idxR hRd0 (by repeat (first | exact Has.here | apply Has.next)) slc_23 rfl rfl ⟨by omega, by omega⟩ (fun bb6 ff6 ar6 TT6 fr6 hm6 hg6 => ?_)
    refine o_fld fld_37_5 rfl rfl ?_
    refine o_load (v := .slice pl s.slots.length cl) lod_35 rfl hm6 (hg6 5 _ (by rw [show (i : Int).toNat * 6 + 5 = i * 6 + 5 by omega]; exact c5)) ?_
    refine o_len slc_35 rfl ?_
    refine o_lt rfl rfl ?_
    refine w_nil ?_
    refine w_if_d rfl (fun hkl => ?_) (fun hkl => ?_)
    · have hk2 : k < s.slots.length := by omega
      obtain ⟨q, hq, hqt⟩ := get_some hk2
      refine w_skip ?_
      refine w_seq ?_
      refine w_block ?_
      refine w_line [(0, true), (1, true), (2, true), (3, true), (4, true), (5, true), (7, true), (6, false), (8, true), (9, true), (10, false), (11, false), (12, true), (13, false)] mixed (by kernel_rfl) ?_
      refine o_fld fld_53_5 rfl rfl ?_
      refine o_load lod_51 rfl (by repeat (first | exact At.here | (refine At.inA ?_; assumption) | apply At.next)) rfl ?_
      refine o_mov rfl ?_
      refine o_mov rfl ?_
      refine o_idxR hRd0 (by repeat (first | exact Has.here | apply Has.next)) slc_23 rfl rfl ⟨by omega, by omega⟩ (fun bb7 ff7 ar7 TT7 fr7 hm7 hg7 => ?_)
      refine o_fld fld_37_5 rfl rfl ?_
      refine o_mov rfl ?_
      refine o_load (v := .slice pl s.slots.length cl) lod_35 rfl hm7 (hg7 5 _ (by rw [show (i : Int).toNat * 6 + 5 = i * 6 + 5 by omega]; exact c5)) ?_
      refine o_idxR k4 (by repeat (first | exact Has.here | apply Has.next)) slc_35 rfl rfl ⟨by omega, by omega⟩ (fun bb8 ff8 ar8 TT8 fr8 hm8 hg8 => ?_)
      refine o_loadC (slotC q) lod_40 rfl hm8 rfl (by decide) (fun j w hj => hg8 j w (by rw [show (k : Int).toNat * 4 + j = k * 4 + j by omega]; exact slotsC_get hq j w hj)) ?_
      refine o_bslN [_] slc_51 zer_55 (Nat.le_of_ble_eq_true rfl) rfl rfl (fun b2 => ?_)
      refine o_appS (slotC q) slc_51 zer_55 rfl rfl rfl hO (by repeat (first | exact Pick.here | apply Pick.next)) rfl (by repeat (first | exact Has.here | apply Has.next)) rfl (Nat.le_of_ble_eq_true rfl) (by simp only [maxLen]; omega) (by omega) (fun v' H2 hO2 => ?_)
      obtain ⟨p2, c2, rfl⟩ := Own.slice hO2
      refine o_fld fld_53_5 rfl rfl ?_
      refine o_store siz_51 rfl rfl rfl (by repeat (first | exact Upd.here | apply Upd.next)) rfl (by simp) ?_
      refine w_nil ?_
      refine w_inB ?_
      refine w_region rfl ?_
      refine o_mov rfl ?_
      refine o_add rfl rfl (by first | exact IntWalk.i64_in _ (by omega) | rfl) ?_
      refine o_asg rfl ?_
      refine w_nil ?_
      exact w_again ⟨(k + 1, _, H2), ⟨by simp only; omega, by simp only; rw [hqt, slotsC_app]; exact hO2⟩, (by simp only; omega), (by repeat (first | exact Sub.nil _ | refine Sub.cons rfl ?_)), (Take.sub (by repeat (first | exact Take.nil | exact Take.all _ | (apply Take.cons; focus (repeat (first | exact Pick.here | apply Pick.next))))))⟩
    · obtain rfl : k = s.slots.length := by omega
      rw [List.take_length] at hO
      obtain ⟨pr, cr, rfl, -⟩ := Rd.slice hO.rd
      obtain ⟨ds, hOw, hall, hst⟩ := hR
      have hcl := hOw.1
      rw [htl] at hOw
      refine WT.sub (h' := H :: M :: [(b1, .cells #[.int .i64 s.kind, .int .i64 s.n, .slice ps s.samples.length cs, .slice pa s.a.length ca, .slice pb s.b.length cb, .slice pr s.slots.length cr] 53 (0, 0))] :: Hu :: Ho :: []) ?_ (Sub.refl _) (Take.sub (by repeat (first | exact Take.nil | exact Take.all _ | (apply Take.cons; focus (repeat (first | exact Pick.here | apply Pick.next))))))
      refine w_merge ?_
      refine w_exit rfl ?_
      refine w_region rfl ?_
      refine o_mov rfl ?_
      refine o_loadW lod_53 rfl (by repeat (first | exact At.here | (refine At.inA ?_; assumption) | apply At.next)) rfl ?_
      refine o_bslN [_] slc_27 zer_53 (Nat.le_of_ble_eq_true rfl) rfl rfl (fun b3 => ?_)
      refine o_appS [.int .i64 s.kind, .int .i64 s.n, .slice ps s.samples.length cs, .slice pa s.a.length ca, .slice pb s.b.length cb, .slice pr s.slots.length cr] slc_27 zer_53 rfl rfl rfl hOw (by repeat (first | exact Pick.here | apply Pick.next)) rfl (by repeat (first | exact Has.here | apply Has.next)) rfl (Nat.le_of_ble_eq_true rfl) (by simp only [maxLen]; omega) (by omega) (fun v' H2 hO2 => ?_)
      obtain ⟨p2, c2, rfl⟩ := Own.slice hO2
      have hr := fun (y : Nat × Obj) (hy : y ∈ M) => List.mem_append.2 (Or.inr hy : y ∈ H ∨ y ∈ M)
      have hnew := SRows.pushJ (s := s) (L := Z.take i) (Hj := H ++ M) hcl (by rw [htl]; exact hO2) hall (fun j t ht => (hst j t ht).more hr) (k1.more hr) (k2.more hr) (k3.more hr) (hO.rd.more (fun y hy => List.mem_append.2 (.inl hy)))
      refine o_asg rfl ?_
      refine w_nil ?_
      refine w_inB ?_
      refine w_region rfl ?_
      refine o_mov rfl ?_
      refine o_add rfl rfl (by first | exact IntWalk.i64_in _ (by omega) | rfl) ?_
      refine o_asg rfl ?_
      refine w_nil ?_
      exact w_again ⟨(i + 1, _, H2, H ++ M), ⟨by simp only; omega, by simp only; rw [htk]; exact hnew, fun y hy => hr y (hsub y hy)⟩, (by simp only; omega), (by repeat (first | exact Sub.nil _ | refine Sub.cons rfl ?_)), (Take.sub (by repeat (first | exact Take.nil | exact Take.all _ | (apply Take.cons; focus (repeat (first | exact Pick.here | apply Pick.next))))))⟩
  · obtain rfl : i = Z.length := by omega
    rw [List.take_length] at hR
    refine w_exit rfl ?_
    refine w_seq ?_
    refine w_region rfl ?_
    refine o_mov rfl ?_
    refine o_asg rfl ?_
    refine w_nil ?_
    exact w_ret (ret1 rfl rfl) ⟨Hu, M, hR, rfl⟩ (Take.sub (by repeat (first | exact Take.nil | exact Take.all _ | (apply Take.cons; focus (repeat (first | exact Pick.here | apply Pick.next))))))

end Go.Proofs.YtmcopafdooejjaaDoor
