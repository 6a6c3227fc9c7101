/- Contracts: slots of words, by the program and by the document. No condition but on the lengths. -/
import Derived.Test.YtmcopafdooejjaaDoorTy
import Derived.Test.YtmcopafdooejjaaDoorHd
namespace Go.Proofs.YtmcopafdooejjaaDoor
open Go.Eng
set_option linter.unusedVariables false
set_option linter.unusedSimpArgs false
set_option maxRecDepth 20000
attribute [local irreducible] WL WT
theorem slot_fn {p q1 q2 : Nat} {T T1 T2 : TypeId} {bad : Bool} {vw vL : Value} {HL : Hp} {L_ : List (List UInt8)} (hL : RW HL vL L_) (i : Nat) (most : Int) (hi : i < L_.length) (hll : (L_.getD i []).length ≤ 1000000) (hm : 0 ≤ most ∧ most ≤ 4294967295) : Ctr Tryd.prog 39 [.int .i64 i, .int .i64 most, .pointer (some ⟨q1, 0, none⟩), .pointer (some ⟨q2, 0, none⟩)] ([[(q1, .cells #[.pointer (some ⟨p, 0, none⟩)] T1 (0, 0))], [(q2, .cells #[vL] T2 (0, 0))], [(p, .cells #[vw, .bool bad] T (0, 0))], HL]) (fun v ho => v = .int .i64 ((numP (L_.getD i []) most).getD 0) ∧ ho = [[(q1, .cells #[.pointer (some ⟨p, 0, none⟩)] T1 (0, 0))], [(q2, .cells #[vL] T2 (0, 0))], [(p, .cells #[vw, .bool (bad || (numP (L_.getD i []) most).isNone)] T (0, 0))], HL]) := by
  refine spec_of Tryd.func39 rfl rfl fun w0 L => ?_
  have hL2 := hL
  unfold RW at hL2
  refine w_seq ?_
  refine w_region rfl ?_
  refine o_asg rfl ?_
  refine w_nil ?_
  refine w_seq ?_
  refine w_line [(0, true), (1, true), (2, true), (3, true), (4, true), (5, true), (6, false), (7, true)] mixed (by kernel_rfl) ?_
  refine o_load lod_57 rfl (by repeat (first | exact At.here | (refine At.inA ?_; assumption) | apply At.next)) rfl ?_
  refine o_load lod_43 rfl (by repeat (first | exact At.here | (refine At.inA ?_; assumption) | apply At.next)) rfl ?_
  refine o_mov rfl ?_
  refine o_idxR hL2 (by repeat (first | exact Has.here | apply Has.next)) slc_43 rfl rfl ⟨by omega, by omega⟩ (fun bb1 ff1 ar1 TT1 fr1 hm1 hg1 => ?_)
  refine o_load (v := str (L_.getD i [])) lod_9 rfl hm1 (hg1 0 _ (by rw [show (i : Int).toNat * 1 + 0 = i by omega]; exact RW.cell hi)) ?_
  refine o_mov rfl ?_
  refine o_call (rd_value (L_.getD i []) most hll) fn_35 rfl (by repeat (first | exact Take.nil | exact Take.all _ | (apply Take.cons; focus (repeat (first | exact Pick.here | apply Pick.next))))) ?_
  rintro v ho ⟨rfl, rfl⟩
  refine o_asg rfl ?_
  refine w_nil ?_
  have hng := numP_get (L_.getD i []) hm.1
  exact w_ret (ret1 rfl rfl) ⟨rfl, rfl⟩ (Take.sub (by repeat (first | exact Take.nil | exact Take.all _ | (apply Take.cons; focus (repeat (first | exact Pick.here | apply Pick.next))))))

set_option maxHeartbeats 4000000 in
theorem rd_slot {p : Nat} {T : TypeId} {bad : Bool} {vw : Value} {Hw : Hp} {W : List (List UInt8)} (hw : RW Hw vw W) (hwl : (W.headD []).length ≤ 1000000) : Ctr Tryd.prog 21 [.pointer (some ⟨p, 0, none⟩)] ([[(p, .cells #[vw, .bool bad] T (0, 0))], Hw]) (fun v ho => ∃ vw' q, v = .agg (slotC q).toArray ∧ (∀ s, slotP (W.headD []) = some s → q = s) ∧ RW Hw vw' W.tail ∧ ho = [[(p, .cells #[vw', .bool (bad || (slotP (W.headD [])).isNone)] T (0, 0))], Hw]) := by
  refine spec_of Tryd.func21 rfl rfl fun w0 L => ?_
  refine w_seq ?_
  refine w_region rfl ?_
  refine o_box rfl (fun b1 => ?_)
  refine o_alloc zer_40 (fun b2 => ?_)
  refine w_nil ?_
  refine w_seq ?_
  refine w_region rfl ?_
  refine o_load lod_57 rfl (by repeat (first | exact At.here | (refine At.inA ?_; assumption) | apply At.next)) rfl ?_
  refine o_call (rd_word hw) fn_16 rfl (by repeat (first | exact Take.nil | exact Take.all _ | (apply Take.cons; focus (repeat (first | exact Pick.here | apply Pick.next))))) ?_
  rintro v ho ⟨vw', rfl, hw', rfl⟩
  refine o_asg rfl ?_
  refine w_nil ?_
  refine w_seq ?_
  refine w_seq ?_
  refine w_region rfl ?_
  refine o_mov rfl ?_
  refine w_nil ?_
  refine w_block ?_
  refine w_seq ?_
  refine w_region rfl ?_
  refine o_eqT rfl rfl ?_
  refine o_asg rfl ?_
  refine w_nil ?_
  refine w_if_d rfl (fun h1 => ?_) (fun h1 => ?_)
  · have hn : slotP (W.headD []) = some (0, 0, 0, 0) := by rw [h1]; exact slotP_dot
    rw [W_head h1 (by simp)]
    refine w_seq ?_
    refine w_region rfl ?_
    refine o_bld bld_40 rfl rfl ?_
    refine o_storeN siz_40 rfl rfl rfl (by repeat (first | exact Upd.here | apply Upd.next)) (by first | exact Nat.le_of_ble_eq_true rfl | decide | (simp; done) | omega) (by first | rfl | simp) ?_
    refine w_nil ?_
    exact w_ret (ret1c rfl lod_40 rfl (by repeat (first | exact At.here | (refine At.inA ?_; assumption) | apply At.next)) (Nat.le_of_ble_eq_true rfl) rfl) ⟨vw', (0, 0, 0, 0), rfl, fun s hs => (by rw [hn] at hs; exact Option.some.inj hs), hw', (show ([[(p, .cells #[vw', .bool bad] T (0, 0))], Hw] : Hs) = [[(p, .cells #[vw', .bool (bad || (slotP (W.headD [])).isNone)] T (0, 0))], Hw] by rw [hn]; cases bad <;> rfl)⟩ (Take.sub (by repeat (first | exact Take.nil | exact Take.all _ | (apply Take.cons; focus (repeat (first | exact Pick.here | apply Pick.next))))))
  · refine w_seq ?_
    refine w_region rfl ?_
    refine o_eqT rfl rfl ?_
    refine o_asg rfl ?_
    refine w_nil ?_
    refine w_if_d rfl (fun h2 => ?_) (fun h2 => ?_)
    · have hn : slotP (W.headD []) = some (1, 0, 0, 0) := by rw [h2]; exact slotP_x
      rw [W_head h2 (by simp)]
      refine w_seq ?_
      refine w_region rfl ?_
      refine o_bld bld_40 rfl rfl ?_
      refine o_storeN siz_40 rfl rfl rfl (by repeat (first | exact Upd.here | apply Upd.next)) (by first | exact Nat.le_of_ble_eq_true rfl | decide | (simp; done) | omega) (by first | rfl | simp) ?_
      refine w_nil ?_
      exact w_ret (ret1c rfl lod_40 rfl (by repeat (first | exact At.here | (refine At.inA ?_; assumption) | apply At.next)) (Nat.le_of_ble_eq_true rfl) rfl) ⟨vw', (1, 0, 0, 0), rfl, fun s hs => (by rw [hn] at hs; exact Option.some.inj hs), hw', (show ([[(p, .cells #[vw', .bool bad] T (0, 0))], Hw] : Hs) = [[(p, .cells #[vw', .bool (bad || (slotP (W.headD [])).isNone)] T (0, 0))], Hw] by rw [hn]; cases bad <;> rfl)⟩ (Take.sub (by repeat (first | exact Take.nil | exact Take.all _ | (apply Take.cons; focus (repeat (first | exact Pick.here | apply Pick.next))))))
    · refine w_seq ?_
      refine w_region rfl ?_
      refine o_eqT rfl rfl ?_
      refine o_asg rfl ?_
      refine w_nil ?_
      refine w_if_d rfl (fun h3 => ?_) (fun h3 => ?_)
      · have hn : slotP (W.headD []) = some (0, 1, 0, 0) := by rw [h3]; exact slotP_a
        rw [W_head h3 (by simp)]
        refine w_seq ?_
        refine w_region rfl ?_
        refine o_bld bld_40 rfl rfl ?_
        refine o_storeN siz_40 rfl rfl rfl (by repeat (first | exact Upd.here | apply Upd.next)) (by first | exact Nat.le_of_ble_eq_true rfl | decide | (simp; done) | omega) (by first | rfl | simp) ?_
        refine w_nil ?_
        exact w_ret (ret1c rfl lod_40 rfl (by repeat (first | exact At.here | (refine At.inA ?_; assumption) | apply At.next)) (Nat.le_of_ble_eq_true rfl) rfl) ⟨vw', (0, 1, 0, 0), rfl, fun s hs => (by rw [hn] at hs; exact Option.some.inj hs), hw', (show ([[(p, .cells #[vw', .bool bad] T (0, 0))], Hw] : Hs) = [[(p, .cells #[vw', .bool (bad || (slotP (W.headD [])).isNone)] T (0, 0))], Hw] by rw [hn]; cases bad <;> rfl)⟩ (Take.sub (by repeat (first | exact Take.nil | exact Take.all _ | (apply Take.cons; focus (repeat (first | exact Pick.here | apply Pick.next))))))
      · refine w_skip ?_
        refine w_inB ?_
        refine w_seq ?_
        refine w_region rfl ?_
        refine o_mov rfl ?_
        refine o_call (s_Split (W.headD []) 47 hwl) fn_10 rfl (by repeat (first | exact Take.nil | exact Take.all _ | (apply Take.cons; focus (repeat (first | exact Pick.here | apply Pick.next))))) ?_
        rintro vs ho ⟨Hs_, hS, rfl⟩
        have hSr : RW Hs_ vs (cutB 47 (W.headD [])) := hS.rd
        obtain ⟨bs, cs, cur, rfl, rfl, hcs, hcur⟩ := Own.blk1 hS (by rw [cutB_len]; omega)
        refine o_alloc zer_43 (fun b5 => ?_)
        refine o_store siz_43 rfl rfl rfl (by repeat (first | exact Upd.here | apply Upd.next)) rfl (by simp) ?_
        refine w_nil ?_
        refine w_seq ?_
        refine w_seq ?_
        refine w_region rfl ?_
        refine o_load lod_43 rfl (by repeat (first | exact At.here | (refine At.inA ?_; assumption) | apply At.next)) rfl ?_
        refine o_lenR hS.rd slc_43 rfl ?_
        refine o_ne rfl rfl ?_
        refine w_nil ?_
        refine w_if_d rfl (fun hne => ?_) (fun hne => ?_)
        · have hn := slotP_not4 h1 h2 h3 (fun h => hne (by rw [h]; rfl))
          refine w_seq ?_
          refine w_region rfl ?_
          refine o_load lod_57 rfl (by repeat (first | exact At.here | (refine At.inA ?_; assumption) | apply At.next)) rfl ?_
          refine o_nilc rfl ?_
          refine o_fld fld_46_1 rfl rfl ?_
          refine o_store siz_4 rfl rfl rfl (by repeat (first | exact Upd.here | apply Upd.next)) rfl (by simp) ?_
          refine w_nil ?_
          refine w_seq ?_
          refine w_region rfl ?_
          refine o_bld bld_40 rfl rfl ?_
          refine o_storeN siz_40 rfl rfl rfl (by repeat (first | exact Upd.here | apply Upd.next)) (by first | exact Nat.le_of_ble_eq_true rfl | decide | (simp; done) | omega) (by first | rfl | simp) ?_
          refine w_nil ?_
          exact w_ret (ret1c rfl lod_40 rfl (by repeat (first | exact At.here | (refine At.inA ?_; assumption) | apply At.next)) (Nat.le_of_ble_eq_true rfl) rfl) ⟨vw', (0, 0, 0, 0), rfl, fun s hs => (by rw [hn] at hs; cases hs), hw', (show ([[(p, .cells #[vw', .bool true] T (0, 0))], Hw] : Hs) = [[(p, .cells #[vw', .bool (bad || (slotP (W.headD [])).isNone)] T (0, 0))], Hw] by rw [hn]; cases bad <;> rfl)⟩ (Take.sub (by repeat (first | exact Take.nil | exact Take.all _ | (apply Take.cons; focus (repeat (first | exact Pick.here | apply Pick.next))))))
        · have h4 : (cutB 47 (W.headD [])).length = 4 := by omega
          rw [W_four h4]
          have hsl : ∀ i, i < (cutB 47 (W.headD [])).length → ((cutB 47 (W.headD [])).getD i []).length ≤ 1000000 := fun i hi => by have := cutB_word (c := 47) (l := (W.headD [])) (w := (cutB 47 (W.headD [])).getD i []) (by rw [List.getD_eq_getElem?_getD, List.getElem?_eq_getElem hi]; exact List.getElem_mem hi); omega
          obtain ⟨L4, hL4⟩ : ∃ L, cutB 47 (W.headD []) = L := ⟨_, rfl⟩
          rw [hL4] at hS hSr h4 hsl hcur ⊢
          obtain ⟨n0, hn0⟩ : ∃ n, (numP (L4.getD 0 []) 2147483647).getD 0 = n := ⟨_, rfl⟩
          obtain ⟨f0, hf0⟩ : ∃ f, (numP (L4.getD 0 []) 2147483647).isNone = f := ⟨_, rfl⟩
          have hg0 := numP_get (L4.getD 0 []) (show (0 : Int) ≤ 2147483647 by omega)
          rw [hn0] at hg0
          obtain ⟨n1, hn1⟩ : ∃ n, (numP (L4.getD 1 []) 2147483647).getD 0 = n := ⟨_, rfl⟩
          obtain ⟨f1, hf1⟩ : ∃ f, (numP (L4.getD 1 []) 2147483647).isNone = f := ⟨_, rfl⟩
          have hg1 := numP_get (L4.getD 1 []) (show (0 : Int) ≤ 2147483647 by omega)
          rw [hn1] at hg1
          obtain ⟨n2, hn2⟩ : ∃ n, (numP (L4.getD 2 []) 2147483647).getD 0 = n := ⟨_, rfl⟩
          obtain ⟨f2, hf2⟩ : ∃ f, (numP (L4.getD 2 []) 2147483647).isNone = f := ⟨_, rfl⟩
          have hg2 := numP_get (L4.getD 2 []) (show (0 : Int) ≤ 2147483647 by omega)
          rw [hn2] at hg2
          obtain ⟨n3, hn3⟩ : ∃ n, (numP (L4.getD 3 []) 4294967295).getD 0 = n := ⟨_, rfl⟩
          obtain ⟨f3, hf3⟩ : ∃ f, (numP (L4.getD 3 []) 4294967295).isNone = f := ⟨_, rfl⟩
          have hg3 := numP_get (L4.getD 3 []) (show (0 : Int) ≤ 4294967295 by omega)
          rw [hn3] at hg3
          have hSr2 := hSr
          unfold RW at hSr2
          refine w_skip ?_
          refine w_seq ?_
          refine w_region rfl ?_
          refine o_mkf rfl rfl ?_
          have hz : True := trivial
          refine o_asg rfl ?_
          refine w_nil ?_
          refine w_seq ?_
          refine w_cut_x (X := Unit) (fun _ => [(2, .pointer (some ⟨b2, 0, none⟩))]) (fun _ => [[(b2, .cells #[.int .i64 n0, .int .i64 n1, .int .i64 n2, .int .u32 n3] 40 (0, 0))], [(p, .cells #[vw', .bool ((((bad || f0) || f1) || f2) || f3)] T (0, 0))], Hw]) (fun _ => True) ?_ ?_
          · refine w_plan (takes [0, 2, 4] (.alt 1 (.alt 3 (.alt 5 (takes [6, 7, 8, 9] (.alt 10 (takes [11, 12] (.alt 13 .done .stop)) .stop)) (.alt 6 (.alt 5 (takes [7, 8, 9] (.alt 10 (takes [11, 12] (.alt 13 .done .stop)) .stop)) (.alt 7 (takes [8] (.alt 5 (takes [9] (.alt 10 (takes [11, 12] (.alt 13 .done .stop)) .stop)) (.alt 9 (.alt 5 (.alt 10 (takes [11, 12] (.alt 13 .done .stop)) .stop) .stop) .stop))) .stop)) (.alt 7 (takes [8] (.alt 5 (takes [6, 9] (.alt 10 (takes [11, 12] (.alt 13 .done .stop)) .stop)) (.alt 6 (.alt 5 (takes [9] (.alt 10 (takes [11, 12] (.alt 13 .done .stop)) .stop)) (.alt 9 (.alt 5 (.alt 10 (takes [11, 12] (.alt 13 .done .stop)) .stop) .stop) .stop)) (.alt 9 (.alt 5 (takes [6] (.alt 10 (takes [11, 12] (.alt 13 .done .stop)) .stop)) (.alt 6 (.alt 5 (.alt 10 (takes [11, 12] (.alt 13 .done .stop)) .stop) .stop) .stop)) .stop)))) .stop))) (.alt 6 (.alt 3 (.alt 5 (takes [7, 8, 9] (.alt 10 (takes [11, 12] (.alt 13 .done .stop)) .stop)) (.alt 7 (takes [8] (.alt 5 (takes [9] (.alt 10 (takes [11, 12] (.alt 13 .done .stop)) .stop)) (.alt 9 (.alt 5 (.alt 10 (takes [11, 12] (.alt 13 .done .stop)) .stop) .stop) .stop))) .stop)) (.alt 7 (takes [8] (.alt 3 (.alt 5 (takes [9] (.alt 10 (takes [11, 12] (.alt 13 .done .stop)) .stop)) (.alt 9 (.alt 5 (.alt 10 (takes [11, 12] (.alt 13 .done .stop)) .stop) .stop) .stop)) (.alt 9 (.alt 3 (.alt 5 (.alt 10 (takes [11, 12] (.alt 13 .done .stop)) .stop) .stop) .stop) .stop))) .stop)) (.alt 7 (takes [8] (.alt 3 (.alt 5 (takes [6, 9] (.alt 10 (takes [11, 12] (.alt 13 .done .stop)) .stop)) (.alt 6 (.alt 5 (takes [9] (.alt 10 (takes [11, 12] (.alt 13 .done .stop)) .stop)) (.alt 9 (.alt 5 (.alt 10 (takes [11, 12] (.alt 13 .done .stop)) .stop) .stop) .stop)) (.alt 9 (.alt 5 (takes [6] (.alt 10 (takes [11, 12] (.alt 13 .done .stop)) .stop)) (.alt 6 (.alt 5 (.alt 10 (takes [11, 12] (.alt 13 .done .stop)) .stop) .stop) .stop)) .stop))) (.alt 6 (.alt 3 (.alt 5 (takes [9] (.alt 10 (takes [11, 12] (.alt 13 .done .stop)) .stop)) (.alt 9 (.alt 5 (.alt 10 (takes [11, 12] (.alt 13 .done .stop)) .stop) .stop) .stop)) (.alt 9 (.alt 3 (.alt 5 (.alt 10 (takes [11, 12] (.alt 13 .done .stop)) .stop) .stop) .stop) .stop)) (.alt 9 (.alt 3 (.alt 5 (takes [6] (.alt 10 (takes [11, 12] (.alt 13 .done .stop)) .stop)) (.alt 6 (.alt 5 (.alt 10 (takes [11, 12] (.alt 13 .done .stop)) .stop) .stop) .stop)) (.alt 6 (.alt 3 (.alt 5 (.alt 10 (takes [11, 12] (.alt 13 .done .stop)) .stop) .stop) .stop) .stop)) .stop)))) .stop))) (.alt 6 (.alt 1 (.alt 3 (.alt 5 (takes [7, 8, 9] (.alt 10 (takes [11, 12] (.alt 13 .done .stop)) .stop)) (.alt 7 (takes [8] (.alt 5 (takes [9] (.alt 10 (takes [11, 12] (.alt 13 .done .stop)) .stop)) (.alt 9 (.alt 5 (.alt 10 (takes [11, 12] (.alt 13 .done .stop)) .stop) .stop) .stop))) .stop)) (.alt 7 (takes [8] (.alt 3 (.alt 5 (takes [9] (.alt 10 (takes [11, 12] (.alt 13 .done .stop)) .stop)) (.alt 9 (.alt 5 (.alt 10 (takes [11, 12] (.alt 13 .done .stop)) .stop) .stop) .stop)) (.alt 9 (.alt 3 (.alt 5 (.alt 10 (takes [11, 12] (.alt 13 .done .stop)) .stop) .stop) .stop) .stop))) .stop)) (.alt 7 (takes [8] (.alt 1 (.alt 3 (.alt 5 (takes [9] (.alt 10 (takes [11, 12] (.alt 13 .done .stop)) .stop)) (.alt 9 (.alt 5 (.alt 10 (takes [11, 12] (.alt 13 .done .stop)) .stop) .stop) .stop)) (.alt 9 (.alt 3 (.alt 5 (.alt 10 (takes [11, 12] (.alt 13 .done .stop)) .stop) .stop) .stop) .stop)) (.alt 9 (.alt 1 (.alt 3 (.alt 5 (.alt 10 (takes [11, 12] (.alt 13 .done .stop)) .stop) .stop) .stop) .stop) .stop))) .stop)) (.alt 7 (takes [8] (.alt 1 (.alt 3 (.alt 5 (takes [6, 9] (.alt 10 (takes [11, 12] (.alt 13 .done .stop)) .stop)) (.alt 6 (.alt 5 (takes [9] (.alt 10 (takes [11, 12] (.alt 13 .done .stop)) .stop)) (.alt 9 (.alt 5 (.alt 10 (takes [11, 12] (.alt 13 .done .stop)) .stop) .stop) .stop)) (.alt 9 (.alt 5 (takes [6] (.alt 10 (takes [11, 12] (.alt 13 .done .stop)) .stop)) (.alt 6 (.alt 5 (.alt 10 (takes [11, 12] (.alt 13 .done .stop)) .stop) .stop) .stop)) .stop))) (.alt 6 (.alt 3 (.alt 5 (takes [9] (.alt 10 (takes [11, 12] (.alt 13 .done .stop)) .stop)) (.alt 9 (.alt 5 (.alt 10 (takes [11, 12] (.alt 13 .done .stop)) .stop) .stop) .stop)) (.alt 9 (.alt 3 (.alt 5 (.alt 10 (takes [11, 12] (.alt 13 .done .stop)) .stop) .stop) .stop) .stop)) (.alt 9 (.alt 3 (.alt 5 (takes [6] (.alt 10 (takes [11, 12] (.alt 13 .done .stop)) .stop)) (.alt 6 (.alt 5 (.alt 10 (takes [11, 12] (.alt 13 .done .stop)) .stop) .stop) .stop)) (.alt 6 (.alt 3 (.alt 5 (.alt 10 (takes [11, 12] (.alt 13 .done .stop)) .stop) .stop) .stop) .stop)) .stop))) (.alt 6 (.alt 1 (.alt 3 (.alt 5 (takes [9] (.alt 10 (takes [11, 12] (.alt 13 .done .stop)) .stop)) (.alt 9 (.alt 5 (.alt 10 (takes [11, 12] (.alt 13 .done .stop)) .stop) .stop) .stop)) (.alt 9 (.alt 3 (.alt 5 (.alt 10 (takes [11, 12] (.alt 13 .done .stop)) .stop) .stop) .stop) .stop)) (.alt 9 (.alt 1 (.alt 3 (.alt 5 (.alt 10 (takes [11, 12] (.alt 13 .done .stop)) .stop) .stop) .stop) .stop) .stop)) (.alt 9 (.alt 1 (.alt 3 (.alt 5 (takes [6] (.alt 10 (takes [11, 12] (.alt 13 .done .stop)) .stop)) (.alt 6 (.alt 5 (.alt 10 (takes [11, 12] (.alt 13 .done .stop)) .stop) .stop) .stop)) (.alt 6 (.alt 3 (.alt 5 (.alt 10 (takes [11, 12] (.alt 13 .done .stop)) .stop) .stop) .stop) .stop)) (.alt 6 (.alt 1 (.alt 3 (.alt 5 (.alt 10 (takes [11, 12] (.alt 13 .done .stop)) .stop) .stop) .stop) .stop) .stop)) .stop)))) .stop)))) mixed (by kernel_rfl) ?_
            refine wp_take _ _ ?_
            refine o_mov rfl ?_
            refine o_mov rfl ?_
            refine o_mov rfl ?_
            refine wl_nil ?_
            refine wp_alt ?_ ?_
            · refine o_callv (slot_fn hSr 0 2147483647 (by omega) (hsl 0 (by omega)) (by omega)) fn_39 rfl rfl rfl (by repeat (first | exact Take.nil | exact Take.all _ | (apply Take.cons; focus (repeat (first | exact Pick.here | apply Pick.next))))) ?_
              rintro v ho ⟨rfl, rfl⟩
              rw [hn0, hf0]
              refine wl_nil ?_
              refine wp_alt ?_ ?_
              · refine o_callv (slot_fn hSr 1 2147483647 (by omega) (hsl 1 (by omega)) (by omega)) fn_39 rfl rfl rfl (by repeat (first | exact Take.nil | exact Take.all _ | (apply Take.cons; focus (repeat (first | exact Pick.here | apply Pick.next))))) ?_
                rintro v ho ⟨rfl, rfl⟩
                rw [hn1, hf1]
                refine wl_nil ?_
                refine wp_alt ?_ ?_
                · refine o_callv (slot_fn hSr 2 2147483647 (by omega) (hsl 2 (by omega)) (by omega)) fn_39 rfl rfl rfl (by repeat (first | exact Take.nil | exact Take.all _ | (apply Take.cons; focus (repeat (first | exact Pick.here | apply Pick.next))))) ?_
                  rintro v ho ⟨rfl, rfl⟩
                  rw [hn2, hf2]
                  refine wl_nil ?_
                  refine wp_take _ _ ?_
                  refine o_load lod_57 rfl (by repeat (first | exact At.here | (refine At.inA ?_; assumption) | apply At.next)) rfl ?_
                  refine o_load lod_43 rfl (by repeat (first | exact At.here | (refine At.inA ?_; assumption) | apply At.next)) rfl ?_
                  refine o_idx slc_43 (off := 3) rfl rfl ⟨by omega, by omega⟩ rfl ?_
                  refine o_load (v := str (L4.getD 3 [])) lod_9 rfl (by repeat (first | exact At.here | (refine At.inA ?_; assumption) | apply At.next)) (hcur 3 _ (RW.cell (by omega))) ?_
                  refine wl_nil ?_
                  refine wp_alt ?_ ?_
                  · refine o_call (rd_value (L4.getD 3 []) 4294967295 (hsl 3 (by omega))) fn_35 rfl (by repeat (first | exact Take.nil | exact Take.all _ | (apply Take.cons; focus (repeat (first | exact Pick.here | apply Pick.next))))) ?_
                    rintro v ho ⟨rfl, rfl⟩
                    rw [hn3, hf3]
                    refine wl_nil ?_
                    refine wp_take _ _ ?_
                    refine o_conv int_38 (by rw [Tryd.underlying2]; rfl) rfl (by first | exact IntWalk.u32_in _ (by omega) | rfl) ?_
                    refine o_bld (c := #[.int .i64 n0, .int .i64 n1, .int .i64 n2, .int .u32 n3]) bld_40 rfl rfl ?_
                    refine wl_nil ?_
                    refine wp_alt ?_ ?_
                    · refine o_storeN siz_40 rfl rfl rfl (by repeat (first | exact Upd.here | apply Upd.next)) (by first | exact Nat.le_of_ble_eq_true rfl | decide | (simp; done) | omega) (by first | rfl | simp) ?_
                      refine wl_nil ?_
                      refine wp_done ?_
                      exact w_again ⟨(), trivial, (by repeat (first | exact Sub.nil _ | refine Sub.cons rfl ?_)), (Take.sub (by repeat (first | exact Take.nil | exact Take.all _ | (apply Take.cons; focus (repeat (first | exact Pick.here | apply Pick.next))))))⟩
                    exact wp_stop
                  exact wp_stop
                refine wp_alt ?_ ?_
                · refine o_load lod_57 rfl (by repeat (first | exact At.here | (refine At.inA ?_; assumption) | apply At.next)) rfl ?_
                  refine wl_nil ?_
                  refine wp_alt ?_ ?_
                  · refine o_callv (slot_fn hSr 2 2147483647 (by omega) (hsl 2 (by omega)) (by omega)) fn_39 rfl rfl rfl (by repeat (first | exact Take.nil | exact Take.all _ | (apply Take.cons; focus (repeat (first | exact Pick.here | apply Pick.next))))) ?_
                    rintro v ho ⟨rfl, rfl⟩
                    rw [hn2, hf2]
                    refine wl_nil ?_
                    refine wp_take _ _ ?_
                    refine o_load lod_43 rfl (by repeat (first | exact At.here | (refine At.inA ?_; assumption) | apply At.next)) rfl ?_
                    refine o_idx slc_43 (off := 3) rfl rfl ⟨by omega, by omega⟩ rfl ?_
                    refine o_load (v := str (L4.getD 3 [])) lod_9 rfl (by repeat (first | exact At.here | (refine At.inA ?_; assumption) | apply At.next)) (hcur 3 _ (RW.cell (by omega))) ?_
                    refine wl_nil ?_
                    refine wp_alt ?_ ?_
                    · refine o_call (rd_value (L4.getD 3 []) 4294967295 (hsl 3 (by omega))) fn_35 rfl (by repeat (first | exact Take.nil | exact Take.all _ | (apply Take.cons; focus (repeat (first | exact Pick.here | apply Pick.next))))) ?_
                      rintro v ho ⟨rfl, rfl⟩
                      rw [hn3, hf3]
                      refine wl_nil ?_
                      refine wp_take _ _ ?_
                      refine o_conv int_38 (by rw [Tryd.underlying2]; rfl) rfl (by first | exact IntWalk.u32_in _ (by omega) | rfl) ?_
                      refine o_bld (c := #[.int .i64 n0, .int .i64 n1, .int .i64 n2, .int .u32 n3]) bld_40 rfl rfl ?_
                      refine wl_nil ?_
                      refine wp_alt ?_ ?_
                      · refine o_storeN siz_40 rfl rfl rfl (by repeat (first | exact Upd.here | apply Upd.next)) (by first | exact Nat.le_of_ble_eq_true rfl | decide | (simp; done) | omega) (by first | rfl | simp) ?_
                        refine wl_nil ?_
                        refine wp_done ?_
                        exact w_again ⟨(), trivial, (by repeat (first | exact Sub.nil _ | refine Sub.cons rfl ?_)), (Take.sub (by repeat (first | exact Take.nil | exact Take.all _ | (apply Take.cons; focus (repeat (first | exact Pick.here | apply Pick.next))))))⟩
                      exact wp_stop
                    exact wp_stop
                  refine wp_alt ?_ ?_
                  · refine o_load lod_43 rfl (by repeat (first | exact At.here | (refine At.inA ?_; assumption) | apply At.next)) rfl ?_
                    refine wl_nil ?_
                    refine wp_take _ _ ?_
                    refine o_idx slc_43 (off := 3) rfl rfl ⟨by omega, by omega⟩ rfl ?_
                    refine wl_nil ?_
                    refine wp_alt ?_ ?_
                    · refine o_callv (slot_fn hSr 2 2147483647 (by omega) (hsl 2 (by omega)) (by omega)) fn_39 rfl rfl rfl (by repeat (first | exact Take.nil | exact Take.all _ | (apply Take.cons; focus (repeat (first | exact Pick.here | apply Pick.next))))) ?_
                      rintro v ho ⟨rfl, rfl⟩
                      rw [hn2, hf2]
                      refine wl_nil ?_
                      refine wp_take _ _ ?_
                      refine o_load (v := str (L4.getD 3 [])) lod_9 rfl (by repeat (first | exact At.here | (refine At.inA ?_; assumption) | apply At.next)) (hcur 3 _ (RW.cell (by omega))) ?_
                      refine wl_nil ?_
                      refine wp_alt ?_ ?_
                      · refine o_call (rd_value (L4.getD 3 []) 4294967295 (hsl 3 (by omega))) fn_35 rfl (by repeat (first | exact Take.nil | exact Take.all _ | (apply Take.cons; focus (repeat (first | exact Pick.here | apply Pick.next))))) ?_
                        rintro v ho ⟨rfl, rfl⟩
                        rw [hn3, hf3]
                        refine wl_nil ?_
                        refine wp_take _ _ ?_
                        refine o_conv int_38 (by rw [Tryd.underlying2]; rfl) rfl (by first | exact IntWalk.u32_in _ (by omega) | rfl) ?_
                        refine o_bld (c := #[.int .i64 n0, .int .i64 n1, .int .i64 n2, .int .u32 n3]) bld_40 rfl rfl ?_
                        refine wl_nil ?_
                        refine wp_alt ?_ ?_
                        · refine o_storeN siz_40 rfl rfl rfl (by repeat (first | exact Upd.here | apply Upd.next)) (by first | exact Nat.le_of_ble_eq_true rfl | decide | (simp; done) | omega) (by first | rfl | simp) ?_
                          refine wl_nil ?_
                          refine wp_done ?_
                          exact w_again ⟨(), trivial, (by repeat (first | exact Sub.nil _ | refine Sub.cons rfl ?_)), (Take.sub (by repeat (first | exact Take.nil | exact Take.all _ | (apply Take.cons; focus (repeat (first | exact Pick.here | apply Pick.next))))))⟩
                        exact wp_stop
                      exact wp_stop
                    refine wp_alt ?_ ?_
                    · refine o_load (v := str (L4.getD 3 [])) lod_9 rfl (by repeat (first | exact At.here | (refine At.inA ?_; assumption) | apply At.next)) (hcur 3 _ (RW.cell (by omega))) ?_
                      refine wl_nil ?_
                      refine wp_alt ?_ ?_
                      · refine o_callv (slot_fn hSr 2 2147483647 (by omega) (hsl 2 (by omega)) (by omega)) fn_39 rfl rfl rfl (by repeat (first | exact Take.nil | exact Take.all _ | (apply Take.cons; focus (repeat (first | exact Pick.here | apply Pick.next))))) ?_
                        rintro v ho ⟨rfl, rfl⟩
                        rw [hn2, hf2]
                        refine wl_nil ?_
                        refine wp_alt ?_ ?_
                        · refine o_call (rd_value (L4.getD 3 []) 4294967295 (hsl 3 (by omega))) fn_35 rfl (by repeat (first | exact Take.nil | exact Take.all _ | (apply Take.cons; focus (repeat (first | exact Pick.here | apply Pick.next))))) ?_
                          rintro v ho ⟨rfl, rfl⟩
                          rw [hn3, hf3]
                          refine wl_nil ?_
                          refine wp_take _ _ ?_
                          refine o_conv int_38 (by rw [Tryd.underlying2]; rfl) rfl (by first | exact IntWalk.u32_in _ (by omega) | rfl) ?_
                          refine o_bld (c := #[.int .i64 n0, .int .i64 n1, .int .i64 n2, .int .u32 n3]) bld_40 rfl rfl ?_
                          refine wl_nil ?_
                          refine wp_alt ?_ ?_
                          · refine o_storeN siz_40 rfl rfl rfl (by repeat (first | exact Upd.here | apply Upd.next)) (by first | exact Nat.le_of_ble_eq_true rfl | decide | (simp; done) | omega) (by first | rfl | simp) ?_
                            refine wl_nil ?_
                            refine wp_done ?_
                            exact w_again ⟨(), trivial, (by repeat (first | exact Sub.nil _ | refine Sub.cons rfl ?_)), (Take.sub (by repeat (first | exact Take.nil | exact Take.all _ | (apply Take.cons; focus (repeat (first | exact Pick.here | apply Pick.next))))))⟩
                          exact wp_stop
                        exact wp_stop
                      exact wp_stop
                    exact wp_stop
                  exact wp_stop
                refine wp_alt ?_ ?_
                · refine o_load lod_43 rfl (by repeat (first | exact At.here | (refine At.inA ?_; assumption) | apply At.next)) rfl ?_
                  refine wl_nil ?_
                  refine wp_take _ _ ?_
                  refine o_idx slc_43 (off := 3) rfl rfl ⟨by omega, by omega⟩ rfl ?_
                  refine wl_nil ?_
                  refine wp_alt ?_ ?_
                  · refine o_callv (slot_fn hSr 2 2147483647 (by omega) (hsl 2 (by omega)) (by omega)) fn_39 rfl rfl rfl (by repeat (first | exact Take.nil | exact Take.all _ | (apply Take.cons; focus (repeat (first | exact Pick.here | apply Pick.next))))) ?_
                    rintro v ho ⟨rfl, rfl⟩
                    rw [hn2, hf2]
                    refine wl_nil ?_
                    refine wp_take _ _ ?_
                    refine o_load lod_57 rfl (by repeat (first | exact At.here | (refine At.inA ?_; assumption) | apply At.next)) rfl ?_
                    refine o_load (v := str (L4.getD 3 [])) lod_9 rfl (by repeat (first | exact At.here | (refine At.inA ?_; assumption) | apply At.next)) (hcur 3 _ (RW.cell (by omega))) ?_
                    refine wl_nil ?_
                    refine wp_alt ?_ ?_
                    · refine o_call (rd_value (L4.getD 3 []) 4294967295 (hsl 3 (by omega))) fn_35 rfl (by repeat (first | exact Take.nil | exact Take.all _ | (apply Take.cons; focus (repeat (first | exact Pick.here | apply Pick.next))))) ?_
                      rintro v ho ⟨rfl, rfl⟩
                      rw [hn3, hf3]
                      refine wl_nil ?_
                      refine wp_take _ _ ?_
                      refine o_conv int_38 (by rw [Tryd.underlying2]; rfl) rfl (by first | exact IntWalk.u32_in _ (by omega) | rfl) ?_
                      refine o_bld (c := #[.int .i64 n0, .int .i64 n1, .int .i64 n2, .int .u32 n3]) bld_40 rfl rfl ?_
                      refine wl_nil ?_
                      refine wp_alt ?_ ?_
                      · refine o_storeN siz_40 rfl rfl rfl (by repeat (first | exact Upd.here | apply Upd.next)) (by first | exact Nat.le_of_ble_eq_true rfl | decide | (simp; done) | omega) (by first | rfl | simp) ?_
                        refine wl_nil ?_
                        refine wp_done ?_
                        exact w_again ⟨(), trivial, (by repeat (first | exact Sub.nil _ | refine Sub.cons rfl ?_)), (Take.sub (by repeat (first | exact Take.nil | exact Take.all _ | (apply Take.cons; focus (repeat (first | exact Pick.here | apply Pick.next))))))⟩
                      exact wp_stop
                    exact wp_stop
                  refine wp_alt ?_ ?_
                  · refine o_load lod_57 rfl (by repeat (first | exact At.here | (refine At.inA ?_; assumption) | apply At.next)) rfl ?_
                    refine wl_nil ?_
                    refine wp_alt ?_ ?_
                    · refine o_callv (slot_fn hSr 2 2147483647 (by omega) (hsl 2 (by omega)) (by omega)) fn_39 rfl rfl rfl (by repeat (first | exact Take.nil | exact Take.all _ | (apply Take.cons; focus (repeat (first | exact Pick.here | apply Pick.next))))) ?_
                      rintro v ho ⟨rfl, rfl⟩
                      rw [hn2, hf2]
                      refine wl_nil ?_
                      refine wp_take _ _ ?_
                      refine o_load (v := str (L4.getD 3 [])) lod_9 rfl (by repeat (first | exact At.here | (refine At.inA ?_; assumption) | apply At.next)) (hcur 3 _ (RW.cell (by omega))) ?_
                      refine wl_nil ?_
                      refine wp_alt ?_ ?_
                      · refine o_call (rd_value (L4.getD 3 []) 4294967295 (hsl 3 (by omega))) fn_35 rfl (by repeat (first | exact Take.nil | exact Take.all _ | (apply Take.cons; focus (repeat (first | exact Pick.here | apply Pick.next))))) ?_
                        rintro v ho ⟨rfl, rfl⟩
                        rw [hn3, hf3]
                        refine wl_nil ?_
                        refine wp_take _ _ ?_
                        refine o_conv int_38 (by rw [Tryd.underlying2]; rfl) rfl (by first | exact IntWalk.u32_in _ (by omega) | rfl) ?_
                        refine o_bld (c := #[.int .i64 n0, .int .i64 n1, .int .i64 n2, .int .u32 n3]) bld_40 rfl rfl ?_
                        refine wl_nil ?_
                        refine wp_alt ?_ ?_
                        · refine o_storeN siz_40 rfl rfl rfl (by repeat (first | exact Upd.here | apply Upd.next)) (by first | exact Nat.le_of_ble_eq_true rfl | decide | (simp; done) | omega) (by first | rfl | simp) ?_
                          refine wl_nil ?_
                          refine wp_done ?_
                          exact w_again ⟨(), trivial, (by repeat (first | exact Sub.nil _ | refine Sub.cons rfl ?_)), (Take.sub (by repeat (first | exact Take.nil | exact Take.all _ | (apply Take.cons; focus (repeat (first | exact Pick.here | apply Pick.next))))))⟩
                        exact wp_stop
                      exact wp_stop
                    refine wp_alt ?_ ?_
                    · refine o_load (v := str (L4.getD 3 [])) lod_9 rfl (by repeat (first | exact At.here | (refine At.inA ?_; assumption) | apply At.next)) (hcur 3 _ (RW.cell (by omega))) ?_
                      refine wl_nil ?_
                      refine wp_alt ?_ ?_
                      · refine o_callv (slot_fn hSr 2 2147483647 (by omega) (hsl 2 (by omega)) (by omega)) fn_39 rfl rfl rfl (by repeat (first | exact Take.nil | exact Take.all _ | (apply Take.cons; focus (repeat (first | exact Pick.here | apply Pick.next))))) ?_
                        rintro v ho ⟨rfl, rfl⟩
                        rw [hn2, hf2]
                        refine wl_nil ?_
                        refine wp_alt ?_ ?_
                        · refine o_call (rd_value (L4.getD 3 []) 4294967295 (hsl 3 (by omega))) fn_35 rfl (by repeat (first | exact Take.nil | exact Take.all _ | (apply Take.cons; focus (repeat (first | exact Pick.here | apply Pick.next))))) ?_
                          rintro v ho ⟨rfl, rfl⟩
                          rw [hn3, hf3]
                          refine wl_nil ?_
                          refine wp_take _ _ ?_
                          refine o_conv int_38 (by rw [Tryd.underlying2]; rfl) rfl (by first | exact IntWalk.u32_in _ (by omega) | rfl) ?_
                          refine o_bld (c := #[.int .i64 n0, .int .i64 n1, .int .i64 n2, .int .u32 n3]) bld_40 rfl rfl ?_
                          refine wl_nil ?_
                          refine wp_alt ?_ ?_
                          · refine o_storeN siz_40 rfl rfl rfl (by repeat (first | exact Upd.here | apply Upd.next)) (by first | exact Nat.le_of_ble_eq_true rfl | decide | (simp; done) | omega) (by first | rfl | simp) ?_
                            refine wl_nil ?_
                            refine wp_done ?_
                            exact w_again ⟨(), trivial, (by repeat (first | exact Sub.nil _ | refine Sub.cons rfl ?_)), (Take.sub (by repeat (first | exact Take.nil | exact Take.all _ | (apply Take.cons; focus (repeat (first | exact Pick.here | apply Pick.next))))))⟩
                          exact wp_stop
                        exact wp_stop
                      exact wp_stop
                    exact wp_stop
                  refine wp_alt ?_ ?_
                  · refine o_load (v := str (L4.getD 3 [])) lod_9 rfl (by repeat (first | exact At.here | (refine At.inA ?_; assumption) | apply At.next)) (hcur 3 _ (RW.cell (by omega))) ?_
                    refine wl_nil ?_
                    refine wp_alt ?_ ?_
                    · refine o_callv (slot_fn hSr 2 2147483647 (by omega) (hsl 2 (by omega)) (by omega)) fn_39 rfl rfl rfl (by repeat (first | exact Take.nil | exact Take.all _ | (apply Take.cons; focus (repeat (first | exact Pick.here | apply Pick.next))))) ?_
                      rintro v ho ⟨rfl, rfl⟩
                      rw [hn2, hf2]
                      refine wl_nil ?_
                      refine wp_take _ _ ?_
                      refine o_load lod_57 rfl (by repeat (first | exact At.here | (refine At.inA ?_; assumption) | apply At.next)) rfl ?_
                      refine wl_nil ?_
                      refine wp_alt ?_ ?_
                      · refine o_call (rd_value (L4.getD 3 []) 4294967295 (hsl 3 (by omega))) fn_35 rfl (by repeat (first | exact Take.nil | exact Take.all _ | (apply Take.cons; focus (repeat (first | exact Pick.here | apply Pick.next))))) ?_
                        rintro v ho ⟨rfl, rfl⟩
                        rw [hn3, hf3]
                        refine wl_nil ?_
                        refine wp_take _ _ ?_
                        refine o_conv int_38 (by rw [Tryd.underlying2]; rfl) rfl (by first | exact IntWalk.u32_in _ (by omega) | rfl) ?_
                        refine o_bld (c := #[.int .i64 n0, .int .i64 n1, .int .i64 n2, .int .u32 n3]) bld_40 rfl rfl ?_
                        refine wl_nil ?_
                        refine wp_alt ?_ ?_
                        · refine o_storeN siz_40 rfl rfl rfl (by repeat (first | exact Upd.here | apply Upd.next)) (by first | exact Nat.le_of_ble_eq_true rfl | decide | (simp; done) | omega) (by first | rfl | simp) ?_
                          refine wl_nil ?_
                          refine wp_done ?_
                          exact w_again ⟨(), trivial, (by repeat (first | exact Sub.nil _ | refine Sub.cons rfl ?_)), (Take.sub (by repeat (first | exact Take.nil | exact Take.all _ | (apply Take.cons; focus (repeat (first | exact Pick.here | apply Pick.next))))))⟩
                        exact wp_stop
                      exact wp_stop
                    refine wp_alt ?_ ?_
                    · refine o_load lod_57 rfl (by repeat (first | exact At.here | (refine At.inA ?_; assumption) | apply At.next)) rfl ?_
                      refine wl_nil ?_
                      refine wp_alt ?_ ?_
                      · refine o_callv (slot_fn hSr 2 2147483647 (by omega) (hsl 2 (by omega)) (by omega)) fn_39 rfl rfl rfl (by repeat (first | exact Take.nil | exact Take.all _ | (apply Take.cons; focus (repeat (first | exact Pick.here | apply Pick.next))))) ?_
                        rintro v ho ⟨rfl, rfl⟩
                        rw [hn2, hf2]
                        refine wl_nil ?_
                        refine wp_alt ?_ ?_
                        · refine o_call (rd_value (L4.getD 3 []) 4294967295 (hsl 3 (by omega))) fn_35 rfl (by repeat (first | exact Take.nil | exact Take.all _ | (apply Take.cons; focus (repeat (first | exact Pick.here | apply Pick.next))))) ?_
                          rintro v ho ⟨rfl, rfl⟩
                          rw [hn3, hf3]
                          refine wl_nil ?_
                          refine wp_take _ _ ?_
                          refine o_conv int_38 (by rw [Tryd.underlying2]; rfl) rfl (by first | exact IntWalk.u32_in _ (by omega) | rfl) ?_
                          refine o_bld (c := #[.int .i64 n0, .int .i64 n1, .int .i64 n2, .int .u32 n3]) bld_40 rfl rfl ?_
                          refine wl_nil ?_
                          refine wp_alt ?_ ?_
                          · refine o_storeN siz_40 rfl rfl rfl (by repeat (first | exact Upd.here | apply Upd.next)) (by first | exact Nat.le_of_ble_eq_true rfl | decide | (simp; done) | omega) (by first | rfl | simp) ?_
                            refine wl_nil ?_
                            refine wp_done ?_
                            exact w_again ⟨(), trivial, (by repeat (first | exact Sub.nil _ | refine Sub.cons rfl ?_)), (Take.sub (by repeat (first | exact Take.nil | exact Take.all _ | (apply Take.cons; focus (repeat (first | exact Pick.here | apply Pick.next))))))⟩
                          exact wp_stop
                        exact wp_stop
                      exact wp_stop
                    exact wp_stop
                  exact wp_stop
                exact wp_stop
              refine wp_alt ?_ ?_
              · refine o_load lod_57 rfl (by repeat (first | exact At.here | (refine At.inA ?_; assumption) | apply At.next)) rfl ?_
                refine wl_nil ?_
                refine wp_alt ?_ ?_
                · refine o_callv (slot_fn hSr 1 2147483647 (by omega) (hsl 1 (by omega)) (by omega)) fn_39 rfl rfl rfl (by repeat (first | exact Take.nil | exact Take.all _ | (apply Take.cons; focus (repeat (first | exact Pick.here | apply Pick.next))))) ?_
                  rintro v ho ⟨rfl, rfl⟩
                  rw [hn1, hf1]
                  refine wl_nil ?_
                  refine wp_alt ?_ ?_
                  · refine o_callv (slot_fn hSr 2 2147483647 (by omega) (hsl 2 (by omega)) (by omega)) fn_39 rfl rfl rfl (by repeat (first | exact Take.nil | exact Take.all _ | (apply Take.cons; focus (repeat (first | exact Pick.here | apply Pick.next))))) ?_
                    rintro v ho ⟨rfl, rfl⟩
                    rw [hn2, hf2]
                    refine wl_nil ?_
                    refine wp_take _ _ ?_
                    refine o_load lod_43 rfl (by repeat (first | exact At.here | (refine At.inA ?_; assumption) | apply At.next)) rfl ?_
                    refine o_idx slc_43 (off := 3) rfl rfl ⟨by omega, by omega⟩ rfl ?_
                    refine o_load (v := str (L4.getD 3 [])) lod_9 rfl (by repeat (first | exact At.here | (refine At.inA ?_; assumption) | apply At.next)) (hcur 3 _ (RW.cell (by omega))) ?_
                    refine wl_nil ?_
                    refine wp_alt ?_ ?_
                    · refine o_call (rd_value (L4.getD 3 []) 4294967295 (hsl 3 (by omega))) fn_35 rfl (by repeat (first | exact Take.nil | exact Take.all _ | (apply Take.cons; focus (repeat (first | exact Pick.here | apply Pick.next))))) ?_
                      rintro v ho ⟨rfl, rfl⟩
                      rw [hn3, hf3]
                      refine wl_nil ?_
                      refine wp_take _ _ ?_
                      refine o_conv int_38 (by rw [Tryd.underlying2]; rfl) rfl (by first | exact IntWalk.u32_in _ (by omega) | rfl) ?_
                      refine o_bld (c := #[.int .i64 n0, .int .i64 n1, .int .i64 n2, .int .u32 n3]) bld_40 rfl rfl ?_
                      refine wl_nil ?_
                      refine wp_alt ?_ ?_
                      · refine o_storeN siz_40 rfl rfl rfl (by repeat (first | exact Upd.here | apply Upd.next)) (by first | exact Nat.le_of_ble_eq_true rfl | decide | (simp; done) | omega) (by first | rfl | simp) ?_
                        refine wl_nil ?_
                        refine wp_done ?_
                        exact w_again ⟨(), trivial, (by repeat (first | exact Sub.nil _ | refine Sub.cons rfl ?_)), (Take.sub (by repeat (first | exact Take.nil | exact Take.all _ | (apply Take.cons; focus (repeat (first | exact Pick.here | apply Pick.next))))))⟩
                      exact wp_stop
                    exact wp_stop
                  refine wp_alt ?_ ?_
                  · refine o_load lod_43 rfl (by repeat (first | exact At.here | (refine At.inA ?_; assumption) | apply At.next)) rfl ?_
                    refine wl_nil ?_
                    refine wp_take _ _ ?_
                    refine o_idx slc_43 (off := 3) rfl rfl ⟨by omega, by omega⟩ rfl ?_
                    refine wl_nil ?_
                    refine wp_alt ?_ ?_
                    · refine o_callv (slot_fn hSr 2 2147483647 (by omega) (hsl 2 (by omega)) (by omega)) fn_39 rfl rfl rfl (by repeat (first | exact Take.nil | exact Take.all _ | (apply Take.cons; focus (repeat (first | exact Pick.here | apply Pick.next))))) ?_
                      rintro v ho ⟨rfl, rfl⟩
                      rw [hn2, hf2]
                      refine wl_nil ?_
                      refine wp_take _ _ ?_
                      refine o_load (v := str (L4.getD 3 [])) lod_9 rfl (by repeat (first | exact At.here | (refine At.inA ?_; assumption) | apply At.next)) (hcur 3 _ (RW.cell (by omega))) ?_
                      refine wl_nil ?_
                      refine wp_alt ?_ ?_
                      · refine o_call (rd_value (L4.getD 3 []) 4294967295 (hsl 3 (by omega))) fn_35 rfl (by repeat (first | exact Take.nil | exact Take.all _ | (apply Take.cons; focus (repeat (first | exact Pick.here | apply Pick.next))))) ?_
                        rintro v ho ⟨rfl, rfl⟩
                        rw [hn3, hf3]
                        refine wl_nil ?_
                        refine wp_take _ _ ?_
                        refine o_conv int_38 (by rw [Tryd.underlying2]; rfl) rfl (by first | exact IntWalk.u32_in _ (by omega) | rfl) ?_
                        refine o_bld (c := #[.int .i64 n0, .int .i64 n1, .int .i64 n2, .int .u32 n3]) bld_40 rfl rfl ?_
                        refine wl_nil ?_
                        refine wp_alt ?_ ?_
                        · refine o_storeN siz_40 rfl rfl rfl (by repeat (first | exact Upd.here | apply Upd.next)) (by first | exact Nat.le_of_ble_eq_true rfl | decide | (simp; done) | omega) (by first | rfl | simp) ?_
                          refine wl_nil ?_
                          refine wp_done ?_
                          exact w_again ⟨(), trivial, (by repeat (first | exact Sub.nil _ | refine Sub.cons rfl ?_)), (Take.sub (by repeat (first | exact Take.nil | exact Take.all _ | (apply Take.cons; focus (repeat (first | exact Pick.here | apply Pick.next))))))⟩
                        exact wp_stop
                      exact wp_stop
                    refine wp_alt ?_ ?_
                    · refine o_load (v := str (L4.getD 3 [])) lod_9 rfl (by repeat (first | exact At.here | (refine At.inA ?_; assumption) | apply At.next)) (hcur 3 _ (RW.cell (by omega))) ?_
                      refine wl_nil ?_
                      refine wp_alt ?_ ?_
                      · refine o_callv (slot_fn hSr 2 2147483647 (by omega) (hsl 2 (by omega)) (by omega)) fn_39 rfl rfl rfl (by repeat (first | exact Take.nil | exact Take.all _ | (apply Take.cons; focus (repeat (first | exact Pick.here | apply Pick.next))))) ?_
                        rintro v ho ⟨rfl, rfl⟩
                        rw [hn2, hf2]
                        refine wl_nil ?_
                        refine wp_alt ?_ ?_
                        · refine o_call (rd_value (L4.getD 3 []) 4294967295 (hsl 3 (by omega))) fn_35 rfl (by repeat (first | exact Take.nil | exact Take.all _ | (apply Take.cons; focus (repeat (first | exact Pick.here | apply Pick.next))))) ?_
                          rintro v ho ⟨rfl, rfl⟩
                          rw [hn3, hf3]
                          refine wl_nil ?_
                          refine wp_take _ _ ?_
                          refine o_conv int_38 (by rw [Tryd.underlying2]; rfl) rfl (by first | exact IntWalk.u32_in _ (by omega) | rfl) ?_
                          refine o_bld (c := #[.int .i64 n0, .int .i64 n1, .int .i64 n2, .int .u32 n3]) bld_40 rfl rfl ?_
                          refine wl_nil ?_
                          refine wp_alt ?_ ?_
                          · refine o_storeN siz_40 rfl rfl rfl (by repeat (first | exact Upd.here | apply Upd.next)) (by first | exact Nat.le_of_ble_eq_true rfl | decide | (simp; done) | omega) (by first | rfl | simp) ?_
                            refine wl_nil ?_
                            refine wp_done ?_
                            exact w_again ⟨(), trivial, (by repeat (first | exact Sub.nil _ | refine Sub.cons rfl ?_)), (Take.sub (by repeat (first | exact Take.nil | exact Take.all _ | (apply Take.cons; focus (repeat (first | exact Pick.here | apply Pick.next))))))⟩
                          exact wp_stop
                        exact wp_stop
                      exact wp_stop
                    exact wp_stop
                  exact wp_stop
                refine wp_alt ?_ ?_
                · refine o_load lod_43 rfl (by repeat (first | exact At.here | (refine At.inA ?_; assumption) | apply At.next)) rfl ?_
                  refine wl_nil ?_
                  refine wp_take _ _ ?_
                  refine o_idx slc_43 (off := 3) rfl rfl ⟨by omega, by omega⟩ rfl ?_
                  refine wl_nil ?_
                  refine wp_alt ?_ ?_
                  · refine o_callv (slot_fn hSr 1 2147483647 (by omega) (hsl 1 (by omega)) (by omega)) fn_39 rfl rfl rfl (by repeat (first | exact Take.nil | exact Take.all _ | (apply Take.cons; focus (repeat (first | exact Pick.here | apply Pick.next))))) ?_
                    rintro v ho ⟨rfl, rfl⟩
                    rw [hn1, hf1]
                    refine wl_nil ?_
                    refine wp_alt ?_ ?_
                    · refine o_callv (slot_fn hSr 2 2147483647 (by omega) (hsl 2 (by omega)) (by omega)) fn_39 rfl rfl rfl (by repeat (first | exact Take.nil | exact Take.all _ | (apply Take.cons; focus (repeat (first | exact Pick.here | apply Pick.next))))) ?_
                      rintro v ho ⟨rfl, rfl⟩
                      rw [hn2, hf2]
                      refine wl_nil ?_
                      refine wp_take _ _ ?_
                      refine o_load (v := str (L4.getD 3 [])) lod_9 rfl (by repeat (first | exact At.here | (refine At.inA ?_; assumption) | apply At.next)) (hcur 3 _ (RW.cell (by omega))) ?_
                      refine wl_nil ?_
                      refine wp_alt ?_ ?_
                      · refine o_call (rd_value (L4.getD 3 []) 4294967295 (hsl 3 (by omega))) fn_35 rfl (by repeat (first | exact Take.nil | exact Take.all _ | (apply Take.cons; focus (repeat (first | exact Pick.here | apply Pick.next))))) ?_
                        rintro v ho ⟨rfl, rfl⟩
                        rw [hn3, hf3]
                        refine wl_nil ?_
                        refine wp_take _ _ ?_
                        refine o_conv int_38 (by rw [Tryd.underlying2]; rfl) rfl (by first | exact IntWalk.u32_in _ (by omega) | rfl) ?_
                        refine o_bld (c := #[.int .i64 n0, .int .i64 n1, .int .i64 n2, .int .u32 n3]) bld_40 rfl rfl ?_
                        refine wl_nil ?_
                        refine wp_alt ?_ ?_
                        · refine o_storeN siz_40 rfl rfl rfl (by repeat (first | exact Upd.here | apply Upd.next)) (by first | exact Nat.le_of_ble_eq_true rfl | decide | (simp; done) | omega) (by first | rfl | simp) ?_
                          refine wl_nil ?_
                          refine wp_done ?_
                          exact w_again ⟨(), trivial, (by repeat (first | exact Sub.nil _ | refine Sub.cons rfl ?_)), (Take.sub (by repeat (first | exact Take.nil | exact Take.all _ | (apply Take.cons; focus (repeat (first | exact Pick.here | apply Pick.next))))))⟩
                        exact wp_stop
                      exact wp_stop
                    refine wp_alt ?_ ?_
                    · refine o_load (v := str (L4.getD 3 [])) lod_9 rfl (by repeat (first | exact At.here | (refine At.inA ?_; assumption) | apply At.next)) (hcur 3 _ (RW.cell (by omega))) ?_
                      refine wl_nil ?_
                      refine wp_alt ?_ ?_
                      · refine o_callv (slot_fn hSr 2 2147483647 (by omega) (hsl 2 (by omega)) (by omega)) fn_39 rfl rfl rfl (by repeat (first | exact Take.nil | exact Take.all _ | (apply Take.cons; focus (repeat (first | exact Pick.here | apply Pick.next))))) ?_
                        rintro v ho ⟨rfl, rfl⟩
                        rw [hn2, hf2]
                        refine wl_nil ?_
                        refine wp_alt ?_ ?_
                        · refine o_call (rd_value (L4.getD 3 []) 4294967295 (hsl 3 (by omega))) fn_35 rfl (by repeat (first | exact Take.nil | exact Take.all _ | (apply Take.cons; focus (repeat (first | exact Pick.here | apply Pick.next))))) ?_
                          rintro v ho ⟨rfl, rfl⟩
                          rw [hn3, hf3]
                          refine wl_nil ?_
                          refine wp_take _ _ ?_
                          refine o_conv int_38 (by rw [Tryd.underlying2]; rfl) rfl (by first | exact IntWalk.u32_in _ (by omega) | rfl) ?_
                          refine o_bld (c := #[.int .i64 n0, .int .i64 n1, .int .i64 n2, .int .u32 n3]) bld_40 rfl rfl ?_
                          refine wl_nil ?_
                          refine wp_alt ?_ ?_
                          · refine o_storeN siz_40 rfl rfl rfl (by repeat (first | exact Upd.here | apply Upd.next)) (by first | exact Nat.le_of_ble_eq_true rfl | decide | (simp; done) | omega) (by first | rfl | simp) ?_
                            refine wl_nil ?_
                            refine wp_done ?_
                            exact w_again ⟨(), trivial, (by repeat (first | exact Sub.nil _ | refine Sub.cons rfl ?_)), (Take.sub (by repeat (first | exact Take.nil | exact Take.all _ | (apply Take.cons; focus (repeat (first | exact Pick.here | apply Pick.next))))))⟩
                          exact wp_stop
                        exact wp_stop
                      exact wp_stop
                    exact wp_stop
                  refine wp_alt ?_ ?_
                  · refine o_load (v := str (L4.getD 3 [])) lod_9 rfl (by repeat (first | exact At.here | (refine At.inA ?_; assumption) | apply At.next)) (hcur 3 _ (RW.cell (by omega))) ?_
                    refine wl_nil ?_
                    refine wp_alt ?_ ?_
                    · refine o_callv (slot_fn hSr 1 2147483647 (by omega) (hsl 1 (by omega)) (by omega)) fn_39 rfl rfl rfl (by repeat (first | exact Take.nil | exact Take.all _ | (apply Take.cons; focus (repeat (first | exact Pick.here | apply Pick.next))))) ?_
                      rintro v ho ⟨rfl, rfl⟩
                      rw [hn1, hf1]
                      refine wl_nil ?_
                      refine wp_alt ?_ ?_
                      · refine o_callv (slot_fn hSr 2 2147483647 (by omega) (hsl 2 (by omega)) (by omega)) fn_39 rfl rfl rfl (by repeat (first | exact Take.nil | exact Take.all _ | (apply Take.cons; focus (repeat (first | exact Pick.here | apply Pick.next))))) ?_
                        rintro v ho ⟨rfl, rfl⟩
                        rw [hn2, hf2]
                        refine wl_nil ?_
                        refine wp_alt ?_ ?_
                        · refine o_call (rd_value (L4.getD 3 []) 4294967295 (hsl 3 (by omega))) fn_35 rfl (by repeat (first | exact Take.nil | exact Take.all _ | (apply Take.cons; focus (repeat (first | exact Pick.here | apply Pick.next))))) ?_
                          rintro v ho ⟨rfl, rfl⟩
                          rw [hn3, hf3]
                          refine wl_nil ?_
                          refine wp_take _ _ ?_
                          refine o_conv int_38 (by rw [Tryd.underlying2]; rfl) rfl (by first | exact IntWalk.u32_in _ (by omega) | rfl) ?_
                          refine o_bld (c := #[.int .i64 n0, .int .i64 n1, .int .i64 n2, .int .u32 n3]) bld_40 rfl rfl ?_
                          refine wl_nil ?_
                          refine wp_alt ?_ ?_
                          · refine o_storeN siz_40 rfl rfl rfl (by repeat (first | exact Upd.here | apply Upd.next)) (by first | exact Nat.le_of_ble_eq_true rfl | decide | (simp; done) | omega) (by first | rfl | simp) ?_
                            refine wl_nil ?_
                            refine wp_done ?_
                            exact w_again ⟨(), trivial, (by repeat (first | exact Sub.nil _ | refine Sub.cons rfl ?_)), (Take.sub (by repeat (first | exact Take.nil | exact Take.all _ | (apply Take.cons; focus (repeat (first | exact Pick.here | apply Pick.next))))))⟩
                          exact wp_stop
                        exact wp_stop
                      exact wp_stop
                    exact wp_stop
                  exact wp_stop
                exact wp_stop
              refine wp_alt ?_ ?_
              · refine o_load lod_43 rfl (by repeat (first | exact At.here | (refine At.inA ?_; assumption) | apply At.next)) rfl ?_
                refine wl_nil ?_
                refine wp_take _ _ ?_
                refine o_idx slc_43 (off := 3) rfl rfl ⟨by omega, by omega⟩ rfl ?_
                refine wl_nil ?_
                refine wp_alt ?_ ?_
                · refine o_callv (slot_fn hSr 1 2147483647 (by omega) (hsl 1 (by omega)) (by omega)) fn_39 rfl rfl rfl (by repeat (first | exact Take.nil | exact Take.all _ | (apply Take.cons; focus (repeat (first | exact Pick.here | apply Pick.next))))) ?_
                  rintro v ho ⟨rfl, rfl⟩
                  rw [hn1, hf1]
                  refine wl_nil ?_
                  refine wp_alt ?_ ?_
                  · refine o_callv (slot_fn hSr 2 2147483647 (by omega) (hsl 2 (by omega)) (by omega)) fn_39 rfl rfl rfl (by repeat (first | exact Take.nil | exact Take.all _ | (apply Take.cons; focus (repeat (first | exact Pick.here | apply Pick.next))))) ?_
                    rintro v ho ⟨rfl, rfl⟩
                    rw [hn2, hf2]
                    refine wl_nil ?_
                    refine wp_take _ _ ?_
                    refine o_load lod_57 rfl (by repeat (first | exact At.here | (refine At.inA ?_; assumption) | apply At.next)) rfl ?_
                    refine o_load (v := str (L4.getD 3 [])) lod_9 rfl (by repeat (first | exact At.here | (refine At.inA ?_; assumption) | apply At.next)) (hcur 3 _ (RW.cell (by omega))) ?_
                    refine wl_nil ?_
                    refine wp_alt ?_ ?_
                    · refine o_call (rd_value (L4.getD 3 []) 4294967295 (hsl 3 (by omega))) fn_35 rfl (by repeat (first | exact Take.nil | exact Take.all _ | (apply Take.cons; focus (repeat (first | exact Pick.here | apply Pick.next))))) ?_
                      rintro v ho ⟨rfl, rfl⟩
                      rw [hn3, hf3]
                      refine wl_nil ?_
                      refine wp_take _ _ ?_
                      refine o_conv int_38 (by rw [Tryd.underlying2]; rfl) rfl (by first | exact IntWalk.u32_in _ (by omega) | rfl) ?_
                      refine o_bld (c := #[.int .i64 n0, .int .i64 n1, .int .i64 n2, .int .u32 n3]) bld_40 rfl rfl ?_
                      refine wl_nil ?_
                      refine wp_alt ?_ ?_
                      · refine o_storeN siz_40 rfl rfl rfl (by repeat (first | exact Upd.here | apply Upd.next)) (by first | exact Nat.le_of_ble_eq_true rfl | decide | (simp; done) | omega) (by first | rfl | simp) ?_
                        refine wl_nil ?_
                        refine wp_done ?_
                        exact w_again ⟨(), trivial, (by repeat (first | exact Sub.nil _ | refine Sub.cons rfl ?_)), (Take.sub (by repeat (first | exact Take.nil | exact Take.all _ | (apply Take.cons; focus (repeat (first | exact Pick.here | apply Pick.next))))))⟩
                      exact wp_stop
                    exact wp_stop
                  refine wp_alt ?_ ?_
                  · refine o_load lod_57 rfl (by repeat (first | exact At.here | (refine At.inA ?_; assumption) | apply At.next)) rfl ?_
                    refine wl_nil ?_
                    refine wp_alt ?_ ?_
                    · refine o_callv (slot_fn hSr 2 2147483647 (by omega) (hsl 2 (by omega)) (by omega)) fn_39 rfl rfl rfl (by repeat (first | exact Take.nil | exact Take.all _ | (apply Take.cons; focus (repeat (first | exact Pick.here | apply Pick.next))))) ?_
                      rintro v ho ⟨rfl, rfl⟩
                      rw [hn2, hf2]
                      refine wl_nil ?_
                      refine wp_take _ _ ?_
                      refine o_load (v := str (L4.getD 3 [])) lod_9 rfl (by repeat (first | exact At.here | (refine At.inA ?_; assumption) | apply At.next)) (hcur 3 _ (RW.cell (by omega))) ?_
                      refine wl_nil ?_
                      refine wp_alt ?_ ?_
                      · refine o_call (rd_value (L4.getD 3 []) 4294967295 (hsl 3 (by omega))) fn_35 rfl (by repeat (first | exact Take.nil | exact Take.all _ | (apply Take.cons; focus (repeat (first | exact Pick.here | apply Pick.next))))) ?_
                        rintro v ho ⟨rfl, rfl⟩
                        rw [hn3, hf3]
                        refine wl_nil ?_
                        refine wp_take _ _ ?_
                        refine o_conv int_38 (by rw [Tryd.underlying2]; rfl) rfl (by first | exact IntWalk.u32_in _ (by omega) | rfl) ?_
                        refine o_bld (c := #[.int .i64 n0, .int .i64 n1, .int .i64 n2, .int .u32 n3]) bld_40 rfl rfl ?_
                        refine wl_nil ?_
                        refine wp_alt ?_ ?_
                        · refine o_storeN siz_40 rfl rfl rfl (by repeat (first | exact Upd.here | apply Upd.next)) (by first | exact Nat.le_of_ble_eq_true rfl | decide | (simp; done) | omega) (by first | rfl | simp) ?_
                          refine wl_nil ?_
                          refine wp_done ?_
                          exact w_again ⟨(), trivial, (by repeat (first | exact Sub.nil _ | refine Sub.cons rfl ?_)), (Take.sub (by repeat (first | exact Take.nil | exact Take.all _ | (apply Take.cons; focus (repeat (first | exact Pick.here | apply Pick.next))))))⟩
                        exact wp_stop
                      exact wp_stop
                    refine wp_alt ?_ ?_
                    · refine o_load (v := str (L4.getD 3 [])) lod_9 rfl (by repeat (first | exact At.here | (refine At.inA ?_; assumption) | apply At.next)) (hcur 3 _ (RW.cell (by omega))) ?_
                      refine wl_nil ?_
                      refine wp_alt ?_ ?_
                      · refine o_callv (slot_fn hSr 2 2147483647 (by omega) (hsl 2 (by omega)) (by omega)) fn_39 rfl rfl rfl (by repeat (first | exact Take.nil | exact Take.all _ | (apply Take.cons; focus (repeat (first | exact Pick.here | apply Pick.next))))) ?_
                        rintro v ho ⟨rfl, rfl⟩
                        rw [hn2, hf2]
                        refine wl_nil ?_
                        refine wp_alt ?_ ?_
                        · refine o_call (rd_value (L4.getD 3 []) 4294967295 (hsl 3 (by omega))) fn_35 rfl (by repeat (first | exact Take.nil | exact Take.all _ | (apply Take.cons; focus (repeat (first | exact Pick.here | apply Pick.next))))) ?_
                          rintro v ho ⟨rfl, rfl⟩
                          rw [hn3, hf3]
                          refine wl_nil ?_
                          refine wp_take _ _ ?_
                          refine o_conv int_38 (by rw [Tryd.underlying2]; rfl) rfl (by first | exact IntWalk.u32_in _ (by omega) | rfl) ?_
                          refine o_bld (c := #[.int .i64 n0, .int .i64 n1, .int .i64 n2, .int .u32 n3]) bld_40 rfl rfl ?_
                          refine wl_nil ?_
                          refine wp_alt ?_ ?_
                          · refine o_storeN siz_40 rfl rfl rfl (by repeat (first | exact Upd.here | apply Upd.next)) (by first | exact Nat.le_of_ble_eq_true rfl | decide | (simp; done) | omega) (by first | rfl | simp) ?_
                            refine wl_nil ?_
                            refine wp_done ?_
                            exact w_again ⟨(), trivial, (by repeat (first | exact Sub.nil _ | refine Sub.cons rfl ?_)), (Take.sub (by repeat (first | exact Take.nil | exact Take.all _ | (apply Take.cons; focus (repeat (first | exact Pick.here | apply Pick.next))))))⟩
                          exact wp_stop
                        exact wp_stop
                      exact wp_stop
                    exact wp_stop
                  refine wp_alt ?_ ?_
                  · refine o_load (v := str (L4.getD 3 [])) lod_9 rfl (by repeat (first | exact At.here | (refine At.inA ?_; assumption) | apply At.next)) (hcur 3 _ (RW.cell (by omega))) ?_
                    refine wl_nil ?_
                    refine wp_alt ?_ ?_
                    · refine o_callv (slot_fn hSr 2 2147483647 (by omega) (hsl 2 (by omega)) (by omega)) fn_39 rfl rfl rfl (by repeat (first | exact Take.nil | exact Take.all _ | (apply Take.cons; focus (repeat (first | exact Pick.here | apply Pick.next))))) ?_
                      rintro v ho ⟨rfl, rfl⟩
                      rw [hn2, hf2]
                      refine wl_nil ?_
                      refine wp_take _ _ ?_
                      refine o_load lod_57 rfl (by repeat (first | exact At.here | (refine At.inA ?_; assumption) | apply At.next)) rfl ?_
                      refine wl_nil ?_
                      refine wp_alt ?_ ?_
                      · refine o_call (rd_value (L4.getD 3 []) 4294967295 (hsl 3 (by omega))) fn_35 rfl (by repeat (first | exact Take.nil | exact Take.all _ | (apply Take.cons; focus (repeat (first | exact Pick.here | apply Pick.next))))) ?_
                        rintro v ho ⟨rfl, rfl⟩
                        rw [hn3, hf3]
                        refine wl_nil ?_
                        refine wp_take _ _ ?_
                        refine o_conv int_38 (by rw [Tryd.underlying2]; rfl) rfl (by first | exact IntWalk.u32_in _ (by omega) | rfl) ?_
                        refine o_bld (c := #[.int .i64 n0, .int .i64 n1, .int .i64 n2, .int .u32 n3]) bld_40 rfl rfl ?_
                        refine wl_nil ?_
                        refine wp_alt ?_ ?_
                        · refine o_storeN siz_40 rfl rfl rfl (by repeat (first | exact Upd.here | apply Upd.next)) (by first | exact Nat.le_of_ble_eq_true rfl | decide | (simp; done) | omega) (by first | rfl | simp) ?_
                          refine wl_nil ?_
                          refine wp_done ?_
                          exact w_again ⟨(), trivial, (by repeat (first | exact Sub.nil _ | refine Sub.cons rfl ?_)), (Take.sub (by repeat (first | exact Take.nil | exact Take.all _ | (apply Take.cons; focus (repeat (first | exact Pick.here | apply Pick.next))))))⟩
                        exact wp_stop
                      exact wp_stop
                    refine wp_alt ?_ ?_
                    · refine o_load lod_57 rfl (by repeat (first | exact At.here | (refine At.inA ?_; assumption) | apply At.next)) rfl ?_
                      refine wl_nil ?_
                      refine wp_alt ?_ ?_
                      · refine o_callv (slot_fn hSr 2 2147483647 (by omega) (hsl 2 (by omega)) (by omega)) fn_39 rfl rfl rfl (by repeat (first | exact Take.nil | exact Take.all _ | (apply Take.cons; focus (repeat (first | exact Pick.here | apply Pick.next))))) ?_
                        rintro v ho ⟨rfl, rfl⟩
                        rw [hn2, hf2]
                        refine wl_nil ?_
                        refine wp_alt ?_ ?_
                        · refine o_call (rd_value (L4.getD 3 []) 4294967295 (hsl 3 (by omega))) fn_35 rfl (by repeat (first | exact Take.nil | exact Take.all _ | (apply Take.cons; focus (repeat (first | exact Pick.here | apply Pick.next))))) ?_
                          rintro v ho ⟨rfl, rfl⟩
                          rw [hn3, hf3]
                          refine wl_nil ?_
                          refine wp_take _ _ ?_
                          refine o_conv int_38 (by rw [Tryd.underlying2]; rfl) rfl (by first | exact IntWalk.u32_in _ (by omega) | rfl) ?_
                          refine o_bld (c := #[.int .i64 n0, .int .i64 n1, .int .i64 n2, .int .u32 n3]) bld_40 rfl rfl ?_
                          refine wl_nil ?_
                          refine wp_alt ?_ ?_
                          · refine o_storeN siz_40 rfl rfl rfl (by repeat (first | exact Upd.here | apply Upd.next)) (by first | exact Nat.le_of_ble_eq_true rfl | decide | (simp; done) | omega) (by first | rfl | simp) ?_
                            refine wl_nil ?_
                            refine wp_done ?_
                            exact w_again ⟨(), trivial, (by repeat (first | exact Sub.nil _ | refine Sub.cons rfl ?_)), (Take.sub (by repeat (first | exact Take.nil | exact Take.all _ | (apply Take.cons; focus (repeat (first | exact Pick.here | apply Pick.next))))))⟩
                          exact wp_stop
                        exact wp_stop
                      exact wp_stop
                    exact wp_stop
                  exact wp_stop
                refine wp_alt ?_ ?_
                · refine o_load lod_57 rfl (by repeat (first | exact At.here | (refine At.inA ?_; assumption) | apply At.next)) rfl ?_
                  refine wl_nil ?_
                  refine wp_alt ?_ ?_
                  · refine o_callv (slot_fn hSr 1 2147483647 (by omega) (hsl 1 (by omega)) (by omega)) fn_39 rfl rfl rfl (by repeat (first | exact Take.nil | exact Take.all _ | (apply Take.cons; focus (repeat (first | exact Pick.here | apply Pick.next))))) ?_
                    rintro v ho ⟨rfl, rfl⟩
                    rw [hn1, hf1]
                    refine wl_nil ?_
                    refine wp_alt ?_ ?_
                    · refine o_callv (slot_fn hSr 2 2147483647 (by omega) (hsl 2 (by omega)) (by omega)) fn_39 rfl rfl rfl (by repeat (first | exact Take.nil | exact Take.all _ | (apply Take.cons; focus (repeat (first | exact Pick.here | apply Pick.next))))) ?_
                      rintro v ho ⟨rfl, rfl⟩
                      rw [hn2, hf2]
                      refine wl_nil ?_
                      refine wp_take _ _ ?_
                      refine o_load (v := str (L4.getD 3 [])) lod_9 rfl (by repeat (first | exact At.here | (refine At.inA ?_; assumption) | apply At.next)) (hcur 3 _ (RW.cell (by omega))) ?_
                      refine wl_nil ?_
                      refine wp_alt ?_ ?_
                      · refine o_call (rd_value (L4.getD 3 []) 4294967295 (hsl 3 (by omega))) fn_35 rfl (by repeat (first | exact Take.nil | exact Take.all _ | (apply Take.cons; focus (repeat (first | exact Pick.here | apply Pick.next))))) ?_
                        rintro v ho ⟨rfl, rfl⟩
                        rw [hn3, hf3]
                        refine wl_nil ?_
                        refine wp_take _ _ ?_
                        refine o_conv int_38 (by rw [Tryd.underlying2]; rfl) rfl (by first | exact IntWalk.u32_in _ (by omega) | rfl) ?_
                        refine o_bld (c := #[.int .i64 n0, .int .i64 n1, .int .i64 n2, .int .u32 n3]) bld_40 rfl rfl ?_
                        refine wl_nil ?_
                        refine wp_alt ?_ ?_
                        · refine o_storeN siz_40 rfl rfl rfl (by repeat (first | exact Upd.here | apply Upd.next)) (by first | exact Nat.le_of_ble_eq_true rfl | decide | (simp; done) | omega) (by first | rfl | simp) ?_
                          refine wl_nil ?_
                          refine wp_done ?_
                          exact w_again ⟨(), trivial, (by repeat (first | exact Sub.nil _ | refine Sub.cons rfl ?_)), (Take.sub (by repeat (first | exact Take.nil | exact Take.all _ | (apply Take.cons; focus (repeat (first | exact Pick.here | apply Pick.next))))))⟩
                        exact wp_stop
                      exact wp_stop
                    refine wp_alt ?_ ?_
                    · refine o_load (v := str (L4.getD 3 [])) lod_9 rfl (by repeat (first | exact At.here | (refine At.inA ?_; assumption) | apply At.next)) (hcur 3 _ (RW.cell (by omega))) ?_
                      refine wl_nil ?_
                      refine wp_alt ?_ ?_
                      · refine o_callv (slot_fn hSr 2 2147483647 (by omega) (hsl 2 (by omega)) (by omega)) fn_39 rfl rfl rfl (by repeat (first | exact Take.nil | exact Take.all _ | (apply Take.cons; focus (repeat (first | exact Pick.here | apply Pick.next))))) ?_
                        rintro v ho ⟨rfl, rfl⟩
                        rw [hn2, hf2]
                        refine wl_nil ?_
                        refine wp_alt ?_ ?_
                        · refine o_call (rd_value (L4.getD 3 []) 4294967295 (hsl 3 (by omega))) fn_35 rfl (by repeat (first | exact Take.nil | exact Take.all _ | (apply Take.cons; focus (repeat (first | exact Pick.here | apply Pick.next))))) ?_
                          rintro v ho ⟨rfl, rfl⟩
                          rw [hn3, hf3]
                          refine wl_nil ?_
                          refine wp_take _ _ ?_
                          refine o_conv int_38 (by rw [Tryd.underlying2]; rfl) rfl (by first | exact IntWalk.u32_in _ (by omega) | rfl) ?_
                          refine o_bld (c := #[.int .i64 n0, .int .i64 n1, .int .i64 n2, .int .u32 n3]) bld_40 rfl rfl ?_
                          refine wl_nil ?_
                          refine wp_alt ?_ ?_
                          · refine o_storeN siz_40 rfl rfl rfl (by repeat (first | exact Upd.here | apply Upd.next)) (by first | exact Nat.le_of_ble_eq_true rfl | decide | (simp; done) | omega) (by first | rfl | simp) ?_
                            refine wl_nil ?_
                            refine wp_done ?_
                            exact w_again ⟨(), trivial, (by repeat (first | exact Sub.nil _ | refine Sub.cons rfl ?_)), (Take.sub (by repeat (first | exact Take.nil | exact Take.all _ | (apply Take.cons; focus (repeat (first | exact Pick.here | apply Pick.next))))))⟩
                          exact wp_stop
                        exact wp_stop
                      exact wp_stop
                    exact wp_stop
                  refine wp_alt ?_ ?_
                  · refine o_load (v := str (L4.getD 3 [])) lod_9 rfl (by repeat (first | exact At.here | (refine At.inA ?_; assumption) | apply At.next)) (hcur 3 _ (RW.cell (by omega))) ?_
                    refine wl_nil ?_
                    refine wp_alt ?_ ?_
                    · refine o_callv (slot_fn hSr 1 2147483647 (by omega) (hsl 1 (by omega)) (by omega)) fn_39 rfl rfl rfl (by repeat (first | exact Take.nil | exact Take.all _ | (apply Take.cons; focus (repeat (first | exact Pick.here | apply Pick.next))))) ?_
                      rintro v ho ⟨rfl, rfl⟩
                      rw [hn1, hf1]
                      refine wl_nil ?_
                      refine wp_alt ?_ ?_
                      · refine o_callv (slot_fn hSr 2 2147483647 (by omega) (hsl 2 (by omega)) (by omega)) fn_39 rfl rfl rfl (by repeat (first | exact Take.nil | exact Take.all _ | (apply Take.cons; focus (repeat (first | exact Pick.here | apply Pick.next))))) ?_
                        rintro v ho ⟨rfl, rfl⟩
                        rw [hn2, hf2]
                        refine wl_nil ?_
                        refine wp_alt ?_ ?_
                        · refine o_call (rd_value (L4.getD 3 []) 4294967295 (hsl 3 (by omega))) fn_35 rfl (by repeat (first | exact Take.nil | exact Take.all _ | (apply Take.cons; focus (repeat (first | exact Pick.here | apply Pick.next))))) ?_
                          rintro v ho ⟨rfl, rfl⟩
                          rw [hn3, hf3]
                          refine wl_nil ?_
                          refine wp_take _ _ ?_
                          refine o_conv int_38 (by rw [Tryd.underlying2]; rfl) rfl (by first | exact IntWalk.u32_in _ (by omega) | rfl) ?_
                          refine o_bld (c := #[.int .i64 n0, .int .i64 n1, .int .i64 n2, .int .u32 n3]) bld_40 rfl rfl ?_
                          refine wl_nil ?_
                          refine wp_alt ?_ ?_
                          · refine o_storeN siz_40 rfl rfl rfl (by repeat (first | exact Upd.here | apply Upd.next)) (by first | exact Nat.le_of_ble_eq_true rfl | decide | (simp; done) | omega) (by first | rfl | simp) ?_
                            refine wl_nil ?_
                            refine wp_done ?_
                            exact w_again ⟨(), trivial, (by repeat (first | exact Sub.nil _ | refine Sub.cons rfl ?_)), (Take.sub (by repeat (first | exact Take.nil | exact Take.all _ | (apply Take.cons; focus (repeat (first | exact Pick.here | apply Pick.next))))))⟩
                          exact wp_stop
                        exact wp_stop
                      exact wp_stop
                    exact wp_stop
                  exact wp_stop
                refine wp_alt ?_ ?_
                · refine o_load (v := str (L4.getD 3 [])) lod_9 rfl (by repeat (first | exact At.here | (refine At.inA ?_; assumption) | apply At.next)) (hcur 3 _ (RW.cell (by omega))) ?_
                  refine wl_nil ?_
                  refine wp_alt ?_ ?_
                  · refine o_callv (slot_fn hSr 1 2147483647 (by omega) (hsl 1 (by omega)) (by omega)) fn_39 rfl rfl rfl (by repeat (first | exact Take.nil | exact Take.all _ | (apply Take.cons; focus (repeat (first | exact Pick.here | apply Pick.next))))) ?_
                    rintro v ho ⟨rfl, rfl⟩
                    rw [hn1, hf1]
                    refine wl_nil ?_
                    refine wp_alt ?_ ?_
                    · refine o_callv (slot_fn hSr 2 2147483647 (by omega) (hsl 2 (by omega)) (by omega)) fn_39 rfl rfl rfl (by repeat (first | exact Take.nil | exact Take.all _ | (apply Take.cons; focus (repeat (first | exact Pick.here | apply Pick.next))))) ?_
                      rintro v ho ⟨rfl, rfl⟩
                      rw [hn2, hf2]
                      refine wl_nil ?_
                      refine wp_take _ _ ?_
                      refine o_load lod_57 rfl (by repeat (first | exact At.here | (refine At.inA ?_; assumption) | apply At.next)) rfl ?_
                      refine wl_nil ?_
                      refine wp_alt ?_ ?_
                      · refine o_call (rd_value (L4.getD 3 []) 4294967295 (hsl 3 (by omega))) fn_35 rfl (by repeat (first | exact Take.nil | exact Take.all _ | (apply Take.cons; focus (repeat (first | exact Pick.here | apply Pick.next))))) ?_
                        rintro v ho ⟨rfl, rfl⟩
                        rw [hn3, hf3]
                        refine wl_nil ?_
                        refine wp_take _ _ ?_
                        refine o_conv int_38 (by rw [Tryd.underlying2]; rfl) rfl (by first | exact IntWalk.u32_in _ (by omega) | rfl) ?_
                        refine o_bld (c := #[.int .i64 n0, .int .i64 n1, .int .i64 n2, .int .u32 n3]) bld_40 rfl rfl ?_
                        refine wl_nil ?_
                        refine wp_alt ?_ ?_
                        · refine o_storeN siz_40 rfl rfl rfl (by repeat (first | exact Upd.here | apply Upd.next)) (by first | exact Nat.le_of_ble_eq_true rfl | decide | (simp; done) | omega) (by first | rfl | simp) ?_
                          refine wl_nil ?_
                          refine wp_done ?_
                          exact w_again ⟨(), trivial, (by repeat (first | exact Sub.nil _ | refine Sub.cons rfl ?_)), (Take.sub (by repeat (first | exact Take.nil | exact Take.all _ | (apply Take.cons; focus (repeat (first | exact Pick.here | apply Pick.next))))))⟩
                        exact wp_stop
                      exact wp_stop
                    refine wp_alt ?_ ?_
                    · refine o_load lod_57 rfl (by repeat (first | exact At.here | (refine At.inA ?_; assumption) | apply At.next)) rfl ?_
                      refine wl_nil ?_
                      refine wp_alt ?_ ?_
                      · refine o_callv (slot_fn hSr 2 2147483647 (by omega) (hsl 2 (by omega)) (by omega)) fn_39 rfl rfl rfl (by repeat (first | exact Take.nil | exact Take.all _ | (apply Take.cons; focus (repeat (first | exact Pick.here | apply Pick.next))))) ?_
                        rintro v ho ⟨rfl, rfl⟩
                        rw [hn2, hf2]
                        refine wl_nil ?_
                        refine wp_alt ?_ ?_
                        · refine o_call (rd_value (L4.getD 3 []) 4294967295 (hsl 3 (by omega))) fn_35 rfl (by repeat (first | exact Take.nil | exact Take.all _ | (apply Take.cons; focus (repeat (first | exact Pick.here | apply Pick.next))))) ?_
                          rintro v ho ⟨rfl, rfl⟩
                          rw [hn3, hf3]
                          refine wl_nil ?_
                          refine wp_take _ _ ?_
                          refine o_conv int_38 (by rw [Tryd.underlying2]; rfl) rfl (by first | exact IntWalk.u32_in _ (by omega) | rfl) ?_
                          refine o_bld (c := #[.int .i64 n0, .int .i64 n1, .int .i64 n2, .int .u32 n3]) bld_40 rfl rfl ?_
                          refine wl_nil ?_
                          refine wp_alt ?_ ?_
                          · refine o_storeN siz_40 rfl rfl rfl (by repeat (first | exact Upd.here | apply Upd.next)) (by first | exact Nat.le_of_ble_eq_true rfl | decide | (simp; done) | omega) (by first | rfl | simp) ?_
                            refine wl_nil ?_
                            refine wp_done ?_
                            exact w_again ⟨(), trivial, (by repeat (first | exact Sub.nil _ | refine Sub.cons rfl ?_)), (Take.sub (by repeat (first | exact Take.nil | exact Take.all _ | (apply Take.cons; focus (repeat (first | exact Pick.here | apply Pick.next))))))⟩
                          exact wp_stop
                        exact wp_stop
                      exact wp_stop
                    exact wp_stop
                  refine wp_alt ?_ ?_
                  · refine o_load lod_57 rfl (by repeat (first | exact At.here | (refine At.inA ?_; assumption) | apply At.next)) rfl ?_
                    refine wl_nil ?_
                    refine wp_alt ?_ ?_
                    · refine o_callv (slot_fn hSr 1 2147483647 (by omega) (hsl 1 (by omega)) (by omega)) fn_39 rfl rfl rfl (by repeat (first | exact Take.nil | exact Take.all _ | (apply Take.cons; focus (repeat (first | exact Pick.here | apply Pick.next))))) ?_
                      rintro v ho ⟨rfl, rfl⟩
                      rw [hn1, hf1]
                      refine wl_nil ?_
                      refine wp_alt ?_ ?_
                      · refine o_callv (slot_fn hSr 2 2147483647 (by omega) (hsl 2 (by omega)) (by omega)) fn_39 rfl rfl rfl (by repeat (first | exact Take.nil | exact Take.all _ | (apply Take.cons; focus (repeat (first | exact Pick.here | apply Pick.next))))) ?_
                        rintro v ho ⟨rfl, rfl⟩
                        rw [hn2, hf2]
                        refine wl_nil ?_
                        refine wp_alt ?_ ?_
                        · refine o_call (rd_value (L4.getD 3 []) 4294967295 (hsl 3 (by omega))) fn_35 rfl (by repeat (first | exact Take.nil | exact Take.all _ | (apply Take.cons; focus (repeat (first | exact Pick.here | apply Pick.next))))) ?_
                          rintro v ho ⟨rfl, rfl⟩
                          rw [hn3, hf3]
                          refine wl_nil ?_
                          refine wp_take _ _ ?_
                          refine o_conv int_38 (by rw [Tryd.underlying2]; rfl) rfl (by first | exact IntWalk.u32_in _ (by omega) | rfl) ?_
                          refine o_bld (c := #[.int .i64 n0, .int .i64 n1, .int .i64 n2, .int .u32 n3]) bld_40 rfl rfl ?_
                          refine wl_nil ?_
                          refine wp_alt ?_ ?_
                          · refine o_storeN siz_40 rfl rfl rfl (by repeat (first | exact Upd.here | apply Upd.next)) (by first | exact Nat.le_of_ble_eq_true rfl | decide | (simp; done) | omega) (by first | rfl | simp) ?_
                            refine wl_nil ?_
                            refine wp_done ?_
                            exact w_again ⟨(), trivial, (by repeat (first | exact Sub.nil _ | refine Sub.cons rfl ?_)), (Take.sub (by repeat (first | exact Take.nil | exact Take.all _ | (apply Take.cons; focus (repeat (first | exact Pick.here | apply Pick.next))))))⟩
                          exact wp_stop
                        exact wp_stop
                      exact wp_stop
                    exact wp_stop
                  exact wp_stop
                exact wp_stop
              exact wp_stop
            refine wp_alt ?_ ?_
            · refine o_load lod_57 rfl (by repeat (first | exact At.here | (refine At.inA ?_; assumption) | apply At.next)) rfl ?_
              refine wl_nil ?_
              refine wp_alt ?_ ?_
              · refine o_callv (slot_fn hSr 0 2147483647 (by omega) (hsl 0 (by omega)) (by omega)) fn_39 rfl rfl rfl (by repeat (first | exact Take.nil | exact Take.all _ | (apply Take.cons; focus (repeat (first | exact Pick.here | apply Pick.next))))) ?_
                rintro v ho ⟨rfl, rfl⟩
                rw [hn0, hf0]
                refine wl_nil ?_
                refine wp_alt ?_ ?_
                · refine o_callv (slot_fn hSr 1 2147483647 (by omega) (hsl 1 (by omega)) (by omega)) fn_39 rfl rfl rfl (by repeat (first | exact Take.nil | exact Take.all _ | (apply Take.cons; focus (repeat (first | exact Pick.here | apply Pick.next))))) ?_
                  rintro v ho ⟨rfl, rfl⟩
                  rw [hn1, hf1]
                  refine wl_nil ?_
                  refine wp_alt ?_ ?_
                  · refine o_callv (slot_fn hSr 2 2147483647 (by omega) (hsl 2 (by omega)) (by omega)) fn_39 rfl rfl rfl (by repeat (first | exact Take.nil | exact Take.all _ | (apply Take.cons; focus (repeat (first | exact Pick.here | apply Pick.next))))) ?_
                    rintro v ho ⟨rfl, rfl⟩
                    rw [hn2, hf2]
                    refine wl_nil ?_
                    refine wp_take _ _ ?_
                    refine o_load lod_43 rfl (by repeat (first | exact At.here | (refine At.inA ?_; assumption) | apply At.next)) rfl ?_
                    refine o_idx slc_43 (off := 3) rfl rfl ⟨by omega, by omega⟩ rfl ?_
                    refine o_load (v := str (L4.getD 3 [])) lod_9 rfl (by repeat (first | exact At.here | (refine At.inA ?_; assumption) | apply At.next)) (hcur 3 _ (RW.cell (by omega))) ?_
                    refine wl_nil ?_
                    refine wp_alt ?_ ?_
                    · refine o_call (rd_value (L4.getD 3 []) 4294967295 (hsl 3 (by omega))) fn_35 rfl (by repeat (first | exact Take.nil | exact Take.all _ | (apply Take.cons; focus (repeat (first | exact Pick.here | apply Pick.next))))) ?_
                      rintro v ho ⟨rfl, rfl⟩
                      rw [hn3, hf3]
                      refine wl_nil ?_
                      refine wp_take _ _ ?_
                      refine o_conv int_38 (by rw [Tryd.underlying2]; rfl) rfl (by first | exact IntWalk.u32_in _ (by omega) | rfl) ?_
                      refine o_bld (c := #[.int .i64 n0, .int .i64 n1, .int .i64 n2, .int .u32 n3]) bld_40 rfl rfl ?_
                      refine wl_nil ?_
                      refine wp_alt ?_ ?_
                      · refine o_storeN siz_40 rfl rfl rfl (by repeat (first | exact Upd.here | apply Upd.next)) (by first | exact Nat.le_of_ble_eq_true rfl | decide | (simp; done) | omega) (by first | rfl | simp) ?_
                        refine wl_nil ?_
                        refine wp_done ?_
                        exact w_again ⟨(), trivial, (by repeat (first | exact Sub.nil _ | refine Sub.cons rfl ?_)), (Take.sub (by repeat (first | exact Take.nil | exact Take.all _ | (apply Take.cons; focus (repeat (first | exact Pick.here | apply Pick.next))))))⟩
                      exact wp_stop
                    exact wp_stop
                  refine wp_alt ?_ ?_
                  · refine o_load lod_43 rfl (by repeat (first | exact At.here | (refine At.inA ?_; assumption) | apply At.next)) rfl ?_
                    refine wl_nil ?_
                    refine wp_take _ _ ?_
                    refine o_idx slc_43 (off := 3) rfl rfl ⟨by omega, by omega⟩ rfl ?_
                    refine wl_nil ?_
                    refine wp_alt ?_ ?_
                    · refine o_callv (slot_fn hSr 2 2147483647 (by omega) (hsl 2 (by omega)) (by omega)) fn_39 rfl rfl rfl (by repeat (first | exact Take.nil | exact Take.all _ | (apply Take.cons; focus (repeat (first | exact Pick.here | apply Pick.next))))) ?_
                      rintro v ho ⟨rfl, rfl⟩
                      rw [hn2, hf2]
                      refine wl_nil ?_
                      refine wp_take _ _ ?_
                      refine o_load (v := str (L4.getD 3 [])) lod_9 rfl (by repeat (first | exact At.here | (refine At.inA ?_; assumption) | apply At.next)) (hcur 3 _ (RW.cell (by omega))) ?_
                      refine wl_nil ?_
                      refine wp_alt ?_ ?_
                      · refine o_call (rd_value (L4.getD 3 []) 4294967295 (hsl 3 (by omega))) fn_35 rfl (by repeat (first | exact Take.nil | exact Take.all _ | (apply Take.cons; focus (repeat (first | exact Pick.here | apply Pick.next))))) ?_
                        rintro v ho ⟨rfl, rfl⟩
                        rw [hn3, hf3]
                        refine wl_nil ?_
                        refine wp_take _ _ ?_
                        refine o_conv int_38 (by rw [Tryd.underlying2]; rfl) rfl (by first | exact IntWalk.u32_in _ (by omega) | rfl) ?_
                        refine o_bld (c := #[.int .i64 n0, .int .i64 n1, .int .i64 n2, .int .u32 n3]) bld_40 rfl rfl ?_
                        refine wl_nil ?_
                        refine wp_alt ?_ ?_
                        · refine o_storeN siz_40 rfl rfl rfl (by repeat (first | exact Upd.here | apply Upd.next)) (by first | exact Nat.le_of_ble_eq_true rfl | decide | (simp; done) | omega) (by first | rfl | simp) ?_
                          refine wl_nil ?_
                          refine wp_done ?_
                          exact w_again ⟨(), trivial, (by repeat (first | exact Sub.nil _ | refine Sub.cons rfl ?_)), (Take.sub (by repeat (first | exact Take.nil | exact Take.all _ | (apply Take.cons; focus (repeat (first | exact Pick.here | apply Pick.next))))))⟩
                        exact wp_stop
                      exact wp_stop
                    refine wp_alt ?_ ?_
                    · refine o_load (v := str (L4.getD 3 [])) lod_9 rfl (by repeat (first | exact At.here | (refine At.inA ?_; assumption) | apply At.next)) (hcur 3 _ (RW.cell (by omega))) ?_
                      refine wl_nil ?_
                      refine wp_alt ?_ ?_
                      · refine o_callv (slot_fn hSr 2 2147483647 (by omega) (hsl 2 (by omega)) (by omega)) fn_39 rfl rfl rfl (by repeat (first | exact Take.nil | exact Take.all _ | (apply Take.cons; focus (repeat (first | exact Pick.here | apply Pick.next))))) ?_
                        rintro v ho ⟨rfl, rfl⟩
                        rw [hn2, hf2]
                        refine wl_nil ?_
                        refine wp_alt ?_ ?_
                        · refine o_call (rd_value (L4.getD 3 []) 4294967295 (hsl 3 (by omega))) fn_35 rfl (by repeat (first | exact Take.nil | exact Take.all _ | (apply Take.cons; focus (repeat (first | exact Pick.here | apply Pick.next))))) ?_
                          rintro v ho ⟨rfl, rfl⟩
                          rw [hn3, hf3]
                          refine wl_nil ?_
                          refine wp_take _ _ ?_
                          refine o_conv int_38 (by rw [Tryd.underlying2]; rfl) rfl (by first | exact IntWalk.u32_in _ (by omega) | rfl) ?_
                          refine o_bld (c := #[.int .i64 n0, .int .i64 n1, .int .i64 n2, .int .u32 n3]) bld_40 rfl rfl ?_
                          refine wl_nil ?_
                          refine wp_alt ?_ ?_
                          · refine o_storeN siz_40 rfl rfl rfl (by repeat (first | exact Upd.here | apply Upd.next)) (by first | exact Nat.le_of_ble_eq_true rfl | decide | (simp; done) | omega) (by first | rfl | simp) ?_
                            refine wl_nil ?_
                            refine wp_done ?_
                            exact w_again ⟨(), trivial, (by repeat (first | exact Sub.nil _ | refine Sub.cons rfl ?_)), (Take.sub (by repeat (first | exact Take.nil | exact Take.all _ | (apply Take.cons; focus (repeat (first | exact Pick.here | apply Pick.next))))))⟩
                          exact wp_stop
                        exact wp_stop
                      exact wp_stop
                    exact wp_stop
                  exact wp_stop
                refine wp_alt ?_ ?_
                · refine o_load lod_43 rfl (by repeat (first | exact At.here | (refine At.inA ?_; assumption) | apply At.next)) rfl ?_
                  refine wl_nil ?_
                  refine wp_take _ _ ?_
                  refine o_idx slc_43 (off := 3) rfl rfl ⟨by omega, by omega⟩ rfl ?_
                  refine wl_nil ?_
                  refine wp_alt ?_ ?_
                  · refine o_callv (slot_fn hSr 1 2147483647 (by omega) (hsl 1 (by omega)) (by omega)) fn_39 rfl rfl rfl (by repeat (first | exact Take.nil | exact Take.all _ | (apply Take.cons; focus (repeat (first | exact Pick.here | apply Pick.next))))) ?_
                    rintro v ho ⟨rfl, rfl⟩
                    rw [hn1, hf1]
                    refine wl_nil ?_
                    refine wp_alt ?_ ?_
                    · refine o_callv (slot_fn hSr 2 2147483647 (by omega) (hsl 2 (by omega)) (by omega)) fn_39 rfl rfl rfl (by repeat (first | exact Take.nil | exact Take.all _ | (apply Take.cons; focus (repeat (first | exact Pick.here | apply Pick.next))))) ?_
                      rintro v ho ⟨rfl, rfl⟩
                      rw [hn2, hf2]
                      refine wl_nil ?_
                      refine wp_take _ _ ?_
                      refine o_load (v := str (L4.getD 3 [])) lod_9 rfl (by repeat (first | exact At.here | (refine At.inA ?_; assumption) | apply At.next)) (hcur 3 _ (RW.cell (by omega))) ?_
                      refine wl_nil ?_
                      refine wp_alt ?_ ?_
                      · refine o_call (rd_value (L4.getD 3 []) 4294967295 (hsl 3 (by omega))) fn_35 rfl (by repeat (first | exact Take.nil | exact Take.all _ | (apply Take.cons; focus (repeat (first | exact Pick.here | apply Pick.next))))) ?_
                        rintro v ho ⟨rfl, rfl⟩
                        rw [hn3, hf3]
                        refine wl_nil ?_
                        refine wp_take _ _ ?_
                        refine o_conv int_38 (by rw [Tryd.underlying2]; rfl) rfl (by first | exact IntWalk.u32_in _ (by omega) | rfl) ?_
                        refine o_bld (c := #[.int .i64 n0, .int .i64 n1, .int .i64 n2, .int .u32 n3]) bld_40 rfl rfl ?_
                        refine wl_nil ?_
                        refine wp_alt ?_ ?_
                        · refine o_storeN siz_40 rfl rfl rfl (by repeat (first | exact Upd.here | apply Upd.next)) (by first | exact Nat.le_of_ble_eq_true rfl | decide | (simp; done) | omega) (by first | rfl | simp) ?_
                          refine wl_nil ?_
                          refine wp_done ?_
                          exact w_again ⟨(), trivial, (by repeat (first | exact Sub.nil _ | refine Sub.cons rfl ?_)), (Take.sub (by repeat (first | exact Take.nil | exact Take.all _ | (apply Take.cons; focus (repeat (first | exact Pick.here | apply Pick.next))))))⟩
                        exact wp_stop
                      exact wp_stop
                    refine wp_alt ?_ ?_
                    · refine o_load (v := str (L4.getD 3 [])) lod_9 rfl (by repeat (first | exact At.here | (refine At.inA ?_; assumption) | apply At.next)) (hcur 3 _ (RW.cell (by omega))) ?_
                      refine wl_nil ?_
                      refine wp_alt ?_ ?_
                      · refine o_callv (slot_fn hSr 2 2147483647 (by omega) (hsl 2 (by omega)) (by omega)) fn_39 rfl rfl rfl (by repeat (first | exact Take.nil | exact Take.all _ | (apply Take.cons; focus (repeat (first | exact Pick.here | apply Pick.next))))) ?_
                        rintro v ho ⟨rfl, rfl⟩
                        rw [hn2, hf2]
                        refine wl_nil ?_
                        refine wp_alt ?_ ?_
                        · refine o_call (rd_value (L4.getD 3 []) 4294967295 (hsl 3 (by omega))) fn_35 rfl (by repeat (first | exact Take.nil | exact Take.all _ | (apply Take.cons; focus (repeat (first | exact Pick.here | apply Pick.next))))) ?_
                          rintro v ho ⟨rfl, rfl⟩
                          rw [hn3, hf3]
                          refine wl_nil ?_
                          refine wp_take _ _ ?_
                          refine o_conv int_38 (by rw [Tryd.underlying2]; rfl) rfl (by first | exact IntWalk.u32_in _ (by omega) | rfl) ?_
                          refine o_bld (c := #[.int .i64 n0, .int .i64 n1, .int .i64 n2, .int .u32 n3]) bld_40 rfl rfl ?_
                          refine wl_nil ?_
                          refine wp_alt ?_ ?_
                          · refine o_storeN siz_40 rfl rfl rfl (by repeat (first | exact Upd.here | apply Upd.next)) (by first | exact Nat.le_of_ble_eq_true rfl | decide | (simp; done) | omega) (by first | rfl | simp) ?_
                            refine wl_nil ?_
                            refine wp_done ?_
                            exact w_again ⟨(), trivial, (by repeat (first | exact Sub.nil _ | refine Sub.cons rfl ?_)), (Take.sub (by repeat (first | exact Take.nil | exact Take.all _ | (apply Take.cons; focus (repeat (first | exact Pick.here | apply Pick.next))))))⟩
                          exact wp_stop
                        exact wp_stop
                      exact wp_stop
                    exact wp_stop
                  refine wp_alt ?_ ?_
                  · refine o_load (v := str (L4.getD 3 [])) lod_9 rfl (by repeat (first | exact At.here | (refine At.inA ?_; assumption) | apply At.next)) (hcur 3 _ (RW.cell (by omega))) ?_
                    refine wl_nil ?_
                    refine wp_alt ?_ ?_
                    · refine o_callv (slot_fn hSr 1 2147483647 (by omega) (hsl 1 (by omega)) (by omega)) fn_39 rfl rfl rfl (by repeat (first | exact Take.nil | exact Take.all _ | (apply Take.cons; focus (repeat (first | exact Pick.here | apply Pick.next))))) ?_
                      rintro v ho ⟨rfl, rfl⟩
                      rw [hn1, hf1]
                      refine wl_nil ?_
                      refine wp_alt ?_ ?_
                      · refine o_callv (slot_fn hSr 2 2147483647 (by omega) (hsl 2 (by omega)) (by omega)) fn_39 rfl rfl rfl (by repeat (first | exact Take.nil | exact Take.all _ | (apply Take.cons; focus (repeat (first | exact Pick.here | apply Pick.next))))) ?_
                        rintro v ho ⟨rfl, rfl⟩
                        rw [hn2, hf2]
                        refine wl_nil ?_
                        refine wp_alt ?_ ?_
                        · refine o_call (rd_value (L4.getD 3 []) 4294967295 (hsl 3 (by omega))) fn_35 rfl (by repeat (first | exact Take.nil | exact Take.all _ | (apply Take.cons; focus (repeat (first | exact Pick.here | apply Pick.next))))) ?_
                          rintro v ho ⟨rfl, rfl⟩
                          rw [hn3, hf3]
                          refine wl_nil ?_
                          refine wp_take _ _ ?_
                          refine o_conv int_38 (by rw [Tryd.underlying2]; rfl) rfl (by first | exact IntWalk.u32_in _ (by omega) | rfl) ?_
                          refine o_bld (c := #[.int .i64 n0, .int .i64 n1, .int .i64 n2, .int .u32 n3]) bld_40 rfl rfl ?_
                          refine wl_nil ?_
                          refine wp_alt ?_ ?_
                          · refine o_storeN siz_40 rfl rfl rfl (by repeat (first | exact Upd.here | apply Upd.next)) (by first | exact Nat.le_of_ble_eq_true rfl | decide | (simp; done) | omega) (by first | rfl | simp) ?_
                            refine wl_nil ?_
                            refine wp_done ?_
                            exact w_again ⟨(), trivial, (by repeat (first | exact Sub.nil _ | refine Sub.cons rfl ?_)), (Take.sub (by repeat (first | exact Take.nil | exact Take.all _ | (apply Take.cons; focus (repeat (first | exact Pick.here | apply Pick.next))))))⟩
                          exact wp_stop
                        exact wp_stop
                      exact wp_stop
                    exact wp_stop
                  exact wp_stop
                exact wp_stop
              refine wp_alt ?_ ?_
              · refine o_load lod_43 rfl (by repeat (first | exact At.here | (refine At.inA ?_; assumption) | apply At.next)) rfl ?_
                refine wl_nil ?_
                refine wp_take _ _ ?_
                refine o_idx slc_43 (off := 3) rfl rfl ⟨by omega, by omega⟩ rfl ?_
                refine wl_nil ?_
                refine wp_alt ?_ ?_
                · refine o_callv (slot_fn hSr 0 2147483647 (by omega) (hsl 0 (by omega)) (by omega)) fn_39 rfl rfl rfl (by repeat (first | exact Take.nil | exact Take.all _ | (apply Take.cons; focus (repeat (first | exact Pick.here | apply Pick.next))))) ?_
                  rintro v ho ⟨rfl, rfl⟩
                  rw [hn0, hf0]
                  refine wl_nil ?_
                  refine wp_alt ?_ ?_
                  · refine o_callv (slot_fn hSr 1 2147483647 (by omega) (hsl 1 (by omega)) (by omega)) fn_39 rfl rfl rfl (by repeat (first | exact Take.nil | exact Take.all _ | (apply Take.cons; focus (repeat (first | exact Pick.here | apply Pick.next))))) ?_
                    rintro v ho ⟨rfl, rfl⟩
                    rw [hn1, hf1]
                    refine wl_nil ?_
                    refine wp_alt ?_ ?_
                    · refine o_callv (slot_fn hSr 2 2147483647 (by omega) (hsl 2 (by omega)) (by omega)) fn_39 rfl rfl rfl (by repeat (first | exact Take.nil | exact Take.all _ | (apply Take.cons; focus (repeat (first | exact Pick.here | apply Pick.next))))) ?_
                      rintro v ho ⟨rfl, rfl⟩
                      rw [hn2, hf2]
                      refine wl_nil ?_
                      refine wp_take _ _ ?_
                      refine o_load (v := str (L4.getD 3 [])) lod_9 rfl (by repeat (first | exact At.here | (refine At.inA ?_; assumption) | apply At.next)) (hcur 3 _ (RW.cell (by omega))) ?_
                      refine wl_nil ?_
                      refine wp_alt ?_ ?_
                      · refine o_call (rd_value (L4.getD 3 []) 4294967295 (hsl 3 (by omega))) fn_35 rfl (by repeat (first | exact Take.nil | exact Take.all _ | (apply Take.cons; focus (repeat (first | exact Pick.here | apply Pick.next))))) ?_
                        rintro v ho ⟨rfl, rfl⟩
                        rw [hn3, hf3]
                        refine wl_nil ?_
                        refine wp_take _ _ ?_
                        refine o_conv int_38 (by rw [Tryd.underlying2]; rfl) rfl (by first | exact IntWalk.u32_in _ (by omega) | rfl) ?_
                        refine o_bld (c := #[.int .i64 n0, .int .i64 n1, .int .i64 n2, .int .u32 n3]) bld_40 rfl rfl ?_
                        refine wl_nil ?_
                        refine wp_alt ?_ ?_
                        · refine o_storeN siz_40 rfl rfl rfl (by repeat (first | exact Upd.here | apply Upd.next)) (by first | exact Nat.le_of_ble_eq_true rfl | decide | (simp; done) | omega) (by first | rfl | simp) ?_
                          refine wl_nil ?_
                          refine wp_done ?_
                          exact w_again ⟨(), trivial, (by repeat (first | exact Sub.nil _ | refine Sub.cons rfl ?_)), (Take.sub (by repeat (first | exact Take.nil | exact Take.all _ | (apply Take.cons; focus (repeat (first | exact Pick.here | apply Pick.next))))))⟩
                        exact wp_stop
                      exact wp_stop
                    refine wp_alt ?_ ?_
                    · refine o_load (v := str (L4.getD 3 [])) lod_9 rfl (by repeat (first | exact At.here | (refine At.inA ?_; assumption) | apply At.next)) (hcur 3 _ (RW.cell (by omega))) ?_
                      refine wl_nil ?_
                      refine wp_alt ?_ ?_
                      · refine o_callv (slot_fn hSr 2 2147483647 (by omega) (hsl 2 (by omega)) (by omega)) fn_39 rfl rfl rfl (by repeat (first | exact Take.nil | exact Take.all _ | (apply Take.cons; focus (repeat (first | exact Pick.here | apply Pick.next))))) ?_
                        rintro v ho ⟨rfl, rfl⟩
                        rw [hn2, hf2]
                        refine wl_nil ?_
                        refine wp_alt ?_ ?_
                        · refine o_call (rd_value (L4.getD 3 []) 4294967295 (hsl 3 (by omega))) fn_35 rfl (by repeat (first | exact Take.nil | exact Take.all _ | (apply Take.cons; focus (repeat (first | exact Pick.here | apply Pick.next))))) ?_
                          rintro v ho ⟨rfl, rfl⟩
                          rw [hn3, hf3]
                          refine wl_nil ?_
                          refine wp_take _ _ ?_
                          refine o_conv int_38 (by rw [Tryd.underlying2]; rfl) rfl (by first | exact IntWalk.u32_in _ (by omega) | rfl) ?_
                          refine o_bld (c := #[.int .i64 n0, .int .i64 n1, .int .i64 n2, .int .u32 n3]) bld_40 rfl rfl ?_
                          refine wl_nil ?_
                          refine wp_alt ?_ ?_
                          · refine o_storeN siz_40 rfl rfl rfl (by repeat (first | exact Upd.here | apply Upd.next)) (by first | exact Nat.le_of_ble_eq_true rfl | decide | (simp; done) | omega) (by first | rfl | simp) ?_
                            refine wl_nil ?_
                            refine wp_done ?_
                            exact w_again ⟨(), trivial, (by repeat (first | exact Sub.nil _ | refine Sub.cons rfl ?_)), (Take.sub (by repeat (first | exact Take.nil | exact Take.all _ | (apply Take.cons; focus (repeat (first | exact Pick.here | apply Pick.next))))))⟩
                          exact wp_stop
                        exact wp_stop
                      exact wp_stop
                    exact wp_stop
                  refine wp_alt ?_ ?_
                  · refine o_load (v := str (L4.getD 3 [])) lod_9 rfl (by repeat (first | exact At.here | (refine At.inA ?_; assumption) | apply At.next)) (hcur 3 _ (RW.cell (by omega))) ?_
                    refine wl_nil ?_
                    refine wp_alt ?_ ?_
                    · refine o_callv (slot_fn hSr 1 2147483647 (by omega) (hsl 1 (by omega)) (by omega)) fn_39 rfl rfl rfl (by repeat (first | exact Take.nil | exact Take.all _ | (apply Take.cons; focus (repeat (first | exact Pick.here | apply Pick.next))))) ?_
                      rintro v ho ⟨rfl, rfl⟩
                      rw [hn1, hf1]
                      refine wl_nil ?_
                      refine wp_alt ?_ ?_
                      · refine o_callv (slot_fn hSr 2 2147483647 (by omega) (hsl 2 (by omega)) (by omega)) fn_39 rfl rfl rfl (by repeat (first | exact Take.nil | exact Take.all _ | (apply Take.cons; focus (repeat (first | exact Pick.here | apply Pick.next))))) ?_
                        rintro v ho ⟨rfl, rfl⟩
                        rw [hn2, hf2]
                        refine wl_nil ?_
                        refine wp_alt ?_ ?_
                        · refine o_call (rd_value (L4.getD 3 []) 4294967295 (hsl 3 (by omega))) fn_35 rfl (by repeat (first | exact Take.nil | exact Take.all _ | (apply Take.cons; focus (repeat (first | exact Pick.here | apply Pick.next))))) ?_
                          rintro v ho ⟨rfl, rfl⟩
                          rw [hn3, hf3]
                          refine wl_nil ?_
                          refine wp_take _ _ ?_
                          refine o_conv int_38 (by rw [Tryd.underlying2]; rfl) rfl (by first | exact IntWalk.u32_in _ (by omega) | rfl) ?_
                          refine o_bld (c := #[.int .i64 n0, .int .i64 n1, .int .i64 n2, .int .u32 n3]) bld_40 rfl rfl ?_
                          refine wl_nil ?_
                          refine wp_alt ?_ ?_
                          · refine o_storeN siz_40 rfl rfl rfl (by repeat (first | exact Upd.here | apply Upd.next)) (by first | exact Nat.le_of_ble_eq_true rfl | decide | (simp; done) | omega) (by first | rfl | simp) ?_
                            refine wl_nil ?_
                            refine wp_done ?_
                            exact w_again ⟨(), trivial, (by repeat (first | exact Sub.nil _ | refine Sub.cons rfl ?_)), (Take.sub (by repeat (first | exact Take.nil | exact Take.all _ | (apply Take.cons; focus (repeat (first | exact Pick.here | apply Pick.next))))))⟩
                          exact wp_stop
                        exact wp_stop
                      exact wp_stop
                    exact wp_stop
                  exact wp_stop
                refine wp_alt ?_ ?_
                · refine o_load (v := str (L4.getD 3 [])) lod_9 rfl (by repeat (first | exact At.here | (refine At.inA ?_; assumption) | apply At.next)) (hcur 3 _ (RW.cell (by omega))) ?_
                  refine wl_nil ?_
                  refine wp_alt ?_ ?_
                  · refine o_callv (slot_fn hSr 0 2147483647 (by omega) (hsl 0 (by omega)) (by omega)) fn_39 rfl rfl rfl (by repeat (first | exact Take.nil | exact Take.all _ | (apply Take.cons; focus (repeat (first | exact Pick.here | apply Pick.next))))) ?_
                    rintro v ho ⟨rfl, rfl⟩
                    rw [hn0, hf0]
                    refine wl_nil ?_
                    refine wp_alt ?_ ?_
                    · refine o_callv (slot_fn hSr 1 2147483647 (by omega) (hsl 1 (by omega)) (by omega)) fn_39 rfl rfl rfl (by repeat (first | exact Take.nil | exact Take.all _ | (apply Take.cons; focus (repeat (first | exact Pick.here | apply Pick.next))))) ?_
                      rintro v ho ⟨rfl, rfl⟩
                      rw [hn1, hf1]
                      refine wl_nil ?_
                      refine wp_alt ?_ ?_
                      · refine o_callv (slot_fn hSr 2 2147483647 (by omega) (hsl 2 (by omega)) (by omega)) fn_39 rfl rfl rfl (by repeat (first | exact Take.nil | exact Take.all _ | (apply Take.cons; focus (repeat (first | exact Pick.here | apply Pick.next))))) ?_
                        rintro v ho ⟨rfl, rfl⟩
                        rw [hn2, hf2]
                        refine wl_nil ?_
                        refine wp_alt ?_ ?_
                        · refine o_call (rd_value (L4.getD 3 []) 4294967295 (hsl 3 (by omega))) fn_35 rfl (by repeat (first | exact Take.nil | exact Take.all _ | (apply Take.cons; focus (repeat (first | exact Pick.here | apply Pick.next))))) ?_
                          rintro v ho ⟨rfl, rfl⟩
                          rw [hn3, hf3]
                          refine wl_nil ?_
                          refine wp_take _ _ ?_
                          refine o_conv int_38 (by rw [Tryd.underlying2]; rfl) rfl (by first | exact IntWalk.u32_in _ (by omega) | rfl) ?_
                          refine o_bld (c := #[.int .i64 n0, .int .i64 n1, .int .i64 n2, .int .u32 n3]) bld_40 rfl rfl ?_
                          refine wl_nil ?_
                          refine wp_alt ?_ ?_
                          · refine o_storeN siz_40 rfl rfl rfl (by repeat (first | exact Upd.here | apply Upd.next)) (by first | exact Nat.le_of_ble_eq_true rfl | decide | (simp; done) | omega) (by first | rfl | simp) ?_
                            refine wl_nil ?_
                            refine wp_done ?_
                            exact w_again ⟨(), trivial, (by repeat (first | exact Sub.nil _ | refine Sub.cons rfl ?_)), (Take.sub (by repeat (first | exact Take.nil | exact Take.all _ | (apply Take.cons; focus (repeat (first | exact Pick.here | apply Pick.next))))))⟩
                          exact wp_stop
                        exact wp_stop
                      exact wp_stop
                    exact wp_stop
                  exact wp_stop
                exact wp_stop
              exact wp_stop
            refine wp_alt ?_ ?_
            · refine o_load lod_43 rfl (by repeat (first | exact At.here | (refine At.inA ?_; assumption) | apply At.next)) rfl ?_
              refine wl_nil ?_
              refine wp_take _ _ ?_
              refine o_idx slc_43 (off := 3) rfl rfl ⟨by omega, by omega⟩ rfl ?_
              refine wl_nil ?_
              refine wp_alt ?_ ?_
              · refine o_callv (slot_fn hSr 0 2147483647 (by omega) (hsl 0 (by omega)) (by omega)) fn_39 rfl rfl rfl (by repeat (first | exact Take.nil | exact Take.all _ | (apply Take.cons; focus (repeat (first | exact Pick.here | apply Pick.next))))) ?_
                rintro v ho ⟨rfl, rfl⟩
                rw [hn0, hf0]
                refine wl_nil ?_
                refine wp_alt ?_ ?_
                · refine o_callv (slot_fn hSr 1 2147483647 (by omega) (hsl 1 (by omega)) (by omega)) fn_39 rfl rfl rfl (by repeat (first | exact Take.nil | exact Take.all _ | (apply Take.cons; focus (repeat (first | exact Pick.here | apply Pick.next))))) ?_
                  rintro v ho ⟨rfl, rfl⟩
                  rw [hn1, hf1]
                  refine wl_nil ?_
                  refine wp_alt ?_ ?_
                  · refine o_callv (slot_fn hSr 2 2147483647 (by omega) (hsl 2 (by omega)) (by omega)) fn_39 rfl rfl rfl (by repeat (first | exact Take.nil | exact Take.all _ | (apply Take.cons; focus (repeat (first | exact Pick.here | apply Pick.next))))) ?_
                    rintro v ho ⟨rfl, rfl⟩
                    rw [hn2, hf2]
                    refine wl_nil ?_
                    refine wp_take _ _ ?_
                    refine o_load lod_57 rfl (by repeat (first | exact At.here | (refine At.inA ?_; assumption) | apply At.next)) rfl ?_
                    refine o_load (v := str (L4.getD 3 [])) lod_9 rfl (by repeat (first | exact At.here | (refine At.inA ?_; assumption) | apply At.next)) (hcur 3 _ (RW.cell (by omega))) ?_
                    refine wl_nil ?_
                    refine wp_alt ?_ ?_
                    · refine o_call (rd_value (L4.getD 3 []) 4294967295 (hsl 3 (by omega))) fn_35 rfl (by repeat (first | exact Take.nil | exact Take.all _ | (apply Take.cons; focus (repeat (first | exact Pick.here | apply Pick.next))))) ?_
                      rintro v ho ⟨rfl, rfl⟩
                      rw [hn3, hf3]
                      refine wl_nil ?_
                      refine wp_take _ _ ?_
                      refine o_conv int_38 (by rw [Tryd.underlying2]; rfl) rfl (by first | exact IntWalk.u32_in _ (by omega) | rfl) ?_
                      refine o_bld (c := #[.int .i64 n0, .int .i64 n1, .int .i64 n2, .int .u32 n3]) bld_40 rfl rfl ?_
                      refine wl_nil ?_
                      refine wp_alt ?_ ?_
                      · refine o_storeN siz_40 rfl rfl rfl (by repeat (first | exact Upd.here | apply Upd.next)) (by first | exact Nat.le_of_ble_eq_true rfl | decide | (simp; done) | omega) (by first | rfl | simp) ?_
                        refine wl_nil ?_
                        refine wp_done ?_
                        exact w_again ⟨(), trivial, (by repeat (first | exact Sub.nil _ | refine Sub.cons rfl ?_)), (Take.sub (by repeat (first | exact Take.nil | exact Take.all _ | (apply Take.cons; focus (repeat (first | exact Pick.here | apply Pick.next))))))⟩
                      exact wp_stop
                    exact wp_stop
                  refine wp_alt ?_ ?_
                  · refine o_load lod_57 rfl (by repeat (first | exact At.here | (refine At.inA ?_; assumption) | apply At.next)) rfl ?_
                    refine wl_nil ?_
                    refine wp_alt ?_ ?_
                    · refine o_callv (slot_fn hSr 2 2147483647 (by omega) (hsl 2 (by omega)) (by omega)) fn_39 rfl rfl rfl (by repeat (first | exact Take.nil | exact Take.all _ | (apply Take.cons; focus (repeat (first | exact Pick.here | apply Pick.next))))) ?_
                      rintro v ho ⟨rfl, rfl⟩
                      rw [hn2, hf2]
                      refine wl_nil ?_
                      refine wp_take _ _ ?_
                      refine o_load (v := str (L4.getD 3 [])) lod_9 rfl (by repeat (first | exact At.here | (refine At.inA ?_; assumption) | apply At.next)) (hcur 3 _ (RW.cell (by omega))) ?_
                      refine wl_nil ?_
                      refine wp_alt ?_ ?_
                      · refine o_call (rd_value (L4.getD 3 []) 4294967295 (hsl 3 (by omega))) fn_35 rfl (by repeat (first | exact Take.nil | exact Take.all _ | (apply Take.cons; focus (repeat (first | exact Pick.here | apply Pick.next))))) ?_
                        rintro v ho ⟨rfl, rfl⟩
                        rw [hn3, hf3]
                        refine wl_nil ?_
                        refine wp_take _ _ ?_
                        refine o_conv int_38 (by rw [Tryd.underlying2]; rfl) rfl (by first | exact IntWalk.u32_in _ (by omega) | rfl) ?_
                        refine o_bld (c := #[.int .i64 n0, .int .i64 n1, .int .i64 n2, .int .u32 n3]) bld_40 rfl rfl ?_
                        refine wl_nil ?_
                        refine wp_alt ?_ ?_
                        · refine o_storeN siz_40 rfl rfl rfl (by repeat (first | exact Upd.here | apply Upd.next)) (by first | exact Nat.le_of_ble_eq_true rfl | decide | (simp; done) | omega) (by first | rfl | simp) ?_
                          refine wl_nil ?_
                          refine wp_done ?_
                          exact w_again ⟨(), trivial, (by repeat (first | exact Sub.nil _ | refine Sub.cons rfl ?_)), (Take.sub (by repeat (first | exact Take.nil | exact Take.all _ | (apply Take.cons; focus (repeat (first | exact Pick.here | apply Pick.next))))))⟩
                        exact wp_stop
                      exact wp_stop
                    refine wp_alt ?_ ?_
                    · refine o_load (v := str (L4.getD 3 [])) lod_9 rfl (by repeat (first | exact At.here | (refine At.inA ?_; assumption) | apply At.next)) (hcur 3 _ (RW.cell (by omega))) ?_
                      refine wl_nil ?_
                      refine wp_alt ?_ ?_
                      · refine o_callv (slot_fn hSr 2 2147483647 (by omega) (hsl 2 (by omega)) (by omega)) fn_39 rfl rfl rfl (by repeat (first | exact Take.nil | exact Take.all _ | (apply Take.cons; focus (repeat (first | exact Pick.here | apply Pick.next))))) ?_
                        rintro v ho ⟨rfl, rfl⟩
                        rw [hn2, hf2]
                        refine wl_nil ?_
                        refine wp_alt ?_ ?_
                        · refine o_call (rd_value (L4.getD 3 []) 4294967295 (hsl 3 (by omega))) fn_35 rfl (by repeat (first | exact Take.nil | exact Take.all _ | (apply Take.cons; focus (repeat (first | exact Pick.here | apply Pick.next))))) ?_
                          rintro v ho ⟨rfl, rfl⟩
                          rw [hn3, hf3]
                          refine wl_nil ?_
                          refine wp_take _ _ ?_
                          refine o_conv int_38 (by rw [Tryd.underlying2]; rfl) rfl (by first | exact IntWalk.u32_in _ (by omega) | rfl) ?_
                          refine o_bld (c := #[.int .i64 n0, .int .i64 n1, .int .i64 n2, .int .u32 n3]) bld_40 rfl rfl ?_
                          refine wl_nil ?_
                          refine wp_alt ?_ ?_
                          · refine o_storeN siz_40 rfl rfl rfl (by repeat (first | exact Upd.here | apply Upd.next)) (by first | exact Nat.le_of_ble_eq_true rfl | decide | (simp; done) | omega) (by first | rfl | simp) ?_
                            refine wl_nil ?_
                            refine wp_done ?_
                            exact w_again ⟨(), trivial, (by repeat (first | exact Sub.nil _ | refine Sub.cons rfl ?_)), (Take.sub (by repeat (first | exact Take.nil | exact Take.all _ | (apply Take.cons; focus (repeat (first | exact Pick.here | apply Pick.next))))))⟩
                          exact wp_stop
                        exact wp_stop
                      exact wp_stop
                    exact wp_stop
                  refine wp_alt ?_ ?_
                  · refine o_load (v := str (L4.getD 3 [])) lod_9 rfl (by repeat (first | exact At.here | (refine At.inA ?_; assumption) | apply At.next)) (hcur 3 _ (RW.cell (by omega))) ?_
                    refine wl_nil ?_
                    refine wp_alt ?_ ?_
                    · refine o_callv (slot_fn hSr 2 2147483647 (by omega) (hsl 2 (by omega)) (by omega)) fn_39 rfl rfl rfl (by repeat (first | exact Take.nil | exact Take.all _ | (apply Take.cons; focus (repeat (first | exact Pick.here | apply Pick.next))))) ?_
                      rintro v ho ⟨rfl, rfl⟩
                      rw [hn2, hf2]
                      refine wl_nil ?_
                      refine wp_take _ _ ?_
                      refine o_load lod_57 rfl (by repeat (first | exact At.here | (refine At.inA ?_; assumption) | apply At.next)) rfl ?_
                      refine wl_nil ?_
                      refine wp_alt ?_ ?_
                      · refine o_call (rd_value (L4.getD 3 []) 4294967295 (hsl 3 (by omega))) fn_35 rfl (by repeat (first | exact Take.nil | exact Take.all _ | (apply Take.cons; focus (repeat (first | exact Pick.here | apply Pick.next))))) ?_
                        rintro v ho ⟨rfl, rfl⟩
                        rw [hn3, hf3]
                        refine wl_nil ?_
                        refine wp_take _ _ ?_
                        refine o_conv int_38 (by rw [Tryd.underlying2]; rfl) rfl (by first | exact IntWalk.u32_in _ (by omega) | rfl) ?_
                        refine o_bld (c := #[.int .i64 n0, .int .i64 n1, .int .i64 n2, .int .u32 n3]) bld_40 rfl rfl ?_
                        refine wl_nil ?_
                        refine wp_alt ?_ ?_
                        · refine o_storeN siz_40 rfl rfl rfl (by repeat (first | exact Upd.here | apply Upd.next)) (by first | exact Nat.le_of_ble_eq_true rfl | decide | (simp; done) | omega) (by first | rfl | simp) ?_
                          refine wl_nil ?_
                          refine wp_done ?_
                          exact w_again ⟨(), trivial, (by repeat (first | exact Sub.nil _ | refine Sub.cons rfl ?_)), (Take.sub (by repeat (first | exact Take.nil | exact Take.all _ | (apply Take.cons; focus (repeat (first | exact Pick.here | apply Pick.next))))))⟩
                        exact wp_stop
                      exact wp_stop
                    refine wp_alt ?_ ?_
                    · refine o_load lod_57 rfl (by repeat (first | exact At.here | (refine At.inA ?_; assumption) | apply At.next)) rfl ?_
                      refine wl_nil ?_
                      refine wp_alt ?_ ?_
                      · refine o_callv (slot_fn hSr 2 2147483647 (by omega) (hsl 2 (by omega)) (by omega)) fn_39 rfl rfl rfl (by repeat (first | exact Take.nil | exact Take.all _ | (apply Take.cons; focus (repeat (first | exact Pick.here | apply Pick.next))))) ?_
                        rintro v ho ⟨rfl, rfl⟩
                        rw [hn2, hf2]
                        refine wl_nil ?_
                        refine wp_alt ?_ ?_
                        · refine o_call (rd_value (L4.getD 3 []) 4294967295 (hsl 3 (by omega))) fn_35 rfl (by repeat (first | exact Take.nil | exact Take.all _ | (apply Take.cons; focus (repeat (first | exact Pick.here | apply Pick.next))))) ?_
                          rintro v ho ⟨rfl, rfl⟩
                          rw [hn3, hf3]
                          refine wl_nil ?_
                          refine wp_take _ _ ?_
                          refine o_conv int_38 (by rw [Tryd.underlying2]; rfl) rfl (by first | exact IntWalk.u32_in _ (by omega) | rfl) ?_
                          refine o_bld (c := #[.int .i64 n0, .int .i64 n1, .int .i64 n2, .int .u32 n3]) bld_40 rfl rfl ?_
                          refine wl_nil ?_
                          refine wp_alt ?_ ?_
                          · refine o_storeN siz_40 rfl rfl rfl (by repeat (first | exact Upd.here | apply Upd.next)) (by first | exact Nat.le_of_ble_eq_true rfl | decide | (simp; done) | omega) (by first | rfl | simp) ?_
                            refine wl_nil ?_
                            refine wp_done ?_
                            exact w_again ⟨(), trivial, (by repeat (first | exact Sub.nil _ | refine Sub.cons rfl ?_)), (Take.sub (by repeat (first | exact Take.nil | exact Take.all _ | (apply Take.cons; focus (repeat (first | exact Pick.here | apply Pick.next))))))⟩
                          exact wp_stop
                        exact wp_stop
                      exact wp_stop
                    exact wp_stop
                  exact wp_stop
                refine wp_alt ?_ ?_
                · refine o_load lod_57 rfl (by repeat (first | exact At.here | (refine At.inA ?_; assumption) | apply At.next)) rfl ?_
                  refine wl_nil ?_
                  refine wp_alt ?_ ?_
                  · refine o_callv (slot_fn hSr 1 2147483647 (by omega) (hsl 1 (by omega)) (by omega)) fn_39 rfl rfl rfl (by repeat (first | exact Take.nil | exact Take.all _ | (apply Take.cons; focus (repeat (first | exact Pick.here | apply Pick.next))))) ?_
                    rintro v ho ⟨rfl, rfl⟩
                    rw [hn1, hf1]
                    refine wl_nil ?_
                    refine wp_alt ?_ ?_
                    · refine o_callv (slot_fn hSr 2 2147483647 (by omega) (hsl 2 (by omega)) (by omega)) fn_39 rfl rfl rfl (by repeat (first | exact Take.nil | exact Take.all _ | (apply Take.cons; focus (repeat (first | exact Pick.here | apply Pick.next))))) ?_
                      rintro v ho ⟨rfl, rfl⟩
                      rw [hn2, hf2]
                      refine wl_nil ?_
                      refine wp_take _ _ ?_
                      refine o_load (v := str (L4.getD 3 [])) lod_9 rfl (by repeat (first | exact At.here | (refine At.inA ?_; assumption) | apply At.next)) (hcur 3 _ (RW.cell (by omega))) ?_
                      refine wl_nil ?_
                      refine wp_alt ?_ ?_
                      · refine o_call (rd_value (L4.getD 3 []) 4294967295 (hsl 3 (by omega))) fn_35 rfl (by repeat (first | exact Take.nil | exact Take.all _ | (apply Take.cons; focus (repeat (first | exact Pick.here | apply Pick.next))))) ?_
                        rintro v ho ⟨rfl, rfl⟩
                        rw [hn3, hf3]
                        refine wl_nil ?_
                        refine wp_take _ _ ?_
                        refine o_conv int_38 (by rw [Tryd.underlying2]; rfl) rfl (by first | exact IntWalk.u32_in _ (by omega) | rfl) ?_
                        refine o_bld (c := #[.int .i64 n0, .int .i64 n1, .int .i64 n2, .int .u32 n3]) bld_40 rfl rfl ?_
                        refine wl_nil ?_
                        refine wp_alt ?_ ?_
                        · refine o_storeN siz_40 rfl rfl rfl (by repeat (first | exact Upd.here | apply Upd.next)) (by first | exact Nat.le_of_ble_eq_true rfl | decide | (simp; done) | omega) (by first | rfl | simp) ?_
                          refine wl_nil ?_
                          refine wp_done ?_
                          exact w_again ⟨(), trivial, (by repeat (first | exact Sub.nil _ | refine Sub.cons rfl ?_)), (Take.sub (by repeat (first | exact Take.nil | exact Take.all _ | (apply Take.cons; focus (repeat (first | exact Pick.here | apply Pick.next))))))⟩
                        exact wp_stop
                      exact wp_stop
                    refine wp_alt ?_ ?_
                    · refine o_load (v := str (L4.getD 3 [])) lod_9 rfl (by repeat (first | exact At.here | (refine At.inA ?_; assumption) | apply At.next)) (hcur 3 _ (RW.cell (by omega))) ?_
                      refine wl_nil ?_
                      refine wp_alt ?_ ?_
                      · refine o_callv (slot_fn hSr 2 2147483647 (by omega) (hsl 2 (by omega)) (by omega)) fn_39 rfl rfl rfl (by repeat (first | exact Take.nil | exact Take.all _ | (apply Take.cons; focus (repeat (first | exact Pick.here | apply Pick.next))))) ?_
                        rintro v ho ⟨rfl, rfl⟩
                        rw [hn2, hf2]
                        refine wl_nil ?_
                        refine wp_alt ?_ ?_
                        · refine o_call (rd_value (L4.getD 3 []) 4294967295 (hsl 3 (by omega))) fn_35 rfl (by repeat (first | exact Take.nil | exact Take.all _ | (apply Take.cons; focus (repeat (first | exact Pick.here | apply Pick.next))))) ?_
                          rintro v ho ⟨rfl, rfl⟩
                          rw [hn3, hf3]
                          refine wl_nil ?_
                          refine wp_take _ _ ?_
                          refine o_conv int_38 (by rw [Tryd.underlying2]; rfl) rfl (by first | exact IntWalk.u32_in _ (by omega) | rfl) ?_
                          refine o_bld (c := #[.int .i64 n0, .int .i64 n1, .int .i64 n2, .int .u32 n3]) bld_40 rfl rfl ?_
                          refine wl_nil ?_
                          refine wp_alt ?_ ?_
                          · refine o_storeN siz_40 rfl rfl rfl (by repeat (first | exact Upd.here | apply Upd.next)) (by first | exact Nat.le_of_ble_eq_true rfl | decide | (simp; done) | omega) (by first | rfl | simp) ?_
                            refine wl_nil ?_
                            refine wp_done ?_
                            exact w_again ⟨(), trivial, (by repeat (first | exact Sub.nil _ | refine Sub.cons rfl ?_)), (Take.sub (by repeat (first | exact Take.nil | exact Take.all _ | (apply Take.cons; focus (repeat (first | exact Pick.here | apply Pick.next))))))⟩
                          exact wp_stop
                        exact wp_stop
                      exact wp_stop
                    exact wp_stop
                  refine wp_alt ?_ ?_
                  · refine o_load (v := str (L4.getD 3 [])) lod_9 rfl (by repeat (first | exact At.here | (refine At.inA ?_; assumption) | apply At.next)) (hcur 3 _ (RW.cell (by omega))) ?_
                    refine wl_nil ?_
                    refine wp_alt ?_ ?_
                    · refine o_callv (slot_fn hSr 1 2147483647 (by omega) (hsl 1 (by omega)) (by omega)) fn_39 rfl rfl rfl (by repeat (first | exact Take.nil | exact Take.all _ | (apply Take.cons; focus (repeat (first | exact Pick.here | apply Pick.next))))) ?_
                      rintro v ho ⟨rfl, rfl⟩
                      rw [hn1, hf1]
                      refine wl_nil ?_
                      refine wp_alt ?_ ?_
                      · refine o_callv (slot_fn hSr 2 2147483647 (by omega) (hsl 2 (by omega)) (by omega)) fn_39 rfl rfl rfl (by repeat (first | exact Take.nil | exact Take.all _ | (apply Take.cons; focus (repeat (first | exact Pick.here | apply Pick.next))))) ?_
                        rintro v ho ⟨rfl, rfl⟩
                        rw [hn2, hf2]
                        refine wl_nil ?_
                        refine wp_alt ?_ ?_
                        · refine o_call (rd_value (L4.getD 3 []) 4294967295 (hsl 3 (by omega))) fn_35 rfl (by repeat (first | exact Take.nil | exact Take.all _ | (apply Take.cons; focus (repeat (first | exact Pick.here | apply Pick.next))))) ?_
                          rintro v ho ⟨rfl, rfl⟩
                          rw [hn3, hf3]
                          refine wl_nil ?_
                          refine wp_take _ _ ?_
                          refine o_conv int_38 (by rw [Tryd.underlying2]; rfl) rfl (by first | exact IntWalk.u32_in _ (by omega) | rfl) ?_
                          refine o_bld (c := #[.int .i64 n0, .int .i64 n1, .int .i64 n2, .int .u32 n3]) bld_40 rfl rfl ?_
                          refine wl_nil ?_
                          refine wp_alt ?_ ?_
                          · refine o_storeN siz_40 rfl rfl rfl (by repeat (first | exact Upd.here | apply Upd.next)) (by first | exact Nat.le_of_ble_eq_true rfl | decide | (simp; done) | omega) (by first | rfl | simp) ?_
                            refine wl_nil ?_
                            refine wp_done ?_
                            exact w_again ⟨(), trivial, (by repeat (first | exact Sub.nil _ | refine Sub.cons rfl ?_)), (Take.sub (by repeat (first | exact Take.nil | exact Take.all _ | (apply Take.cons; focus (repeat (first | exact Pick.here | apply Pick.next))))))⟩
                          exact wp_stop
                        exact wp_stop
                      exact wp_stop
                    exact wp_stop
                  exact wp_stop
                refine wp_alt ?_ ?_
                · refine o_load (v := str (L4.getD 3 [])) lod_9 rfl (by repeat (first | exact At.here | (refine At.inA ?_; assumption) | apply At.next)) (hcur 3 _ (RW.cell (by omega))) ?_
                  refine wl_nil ?_
                  refine wp_alt ?_ ?_
                  · refine o_callv (slot_fn hSr 1 2147483647 (by omega) (hsl 1 (by omega)) (by omega)) fn_39 rfl rfl rfl (by repeat (first | exact Take.nil | exact Take.all _ | (apply Take.cons; focus (repeat (first | exact Pick.here | apply Pick.next))))) ?_
                    rintro v ho ⟨rfl, rfl⟩
                    rw [hn1, hf1]
                    refine wl_nil ?_
                    refine wp_alt ?_ ?_
                    · refine o_callv (slot_fn hSr 2 2147483647 (by omega) (hsl 2 (by omega)) (by omega)) fn_39 rfl rfl rfl (by repeat (first | exact Take.nil | exact Take.all _ | (apply Take.cons; focus (repeat (first | exact Pick.here | apply Pick.next))))) ?_
                      rintro v ho ⟨rfl, rfl⟩
                      rw [hn2, hf2]
                      refine wl_nil ?_
                      refine wp_take _ _ ?_
                      refine o_load lod_57 rfl (by repeat (first | exact At.here | (refine At.inA ?_; assumption) | apply At.next)) rfl ?_
                      refine wl_nil ?_
                      refine wp_alt ?_ ?_
                      · refine o_call (rd_value (L4.getD 3 []) 4294967295 (hsl 3 (by omega))) fn_35 rfl (by repeat (first | exact Take.nil | exact Take.all _ | (apply Take.cons; focus (repeat (first | exact Pick.here | apply Pick.next))))) ?_
                        rintro v ho ⟨rfl, rfl⟩
                        rw [hn3, hf3]
                        refine wl_nil ?_
                        refine wp_take _ _ ?_
                        refine o_conv int_38 (by rw [Tryd.underlying2]; rfl) rfl (by first | exact IntWalk.u32_in _ (by omega) | rfl) ?_
                        refine o_bld (c := #[.int .i64 n0, .int .i64 n1, .int .i64 n2, .int .u32 n3]) bld_40 rfl rfl ?_
                        refine wl_nil ?_
                        refine wp_alt ?_ ?_
                        · refine o_storeN siz_40 rfl rfl rfl (by repeat (first | exact Upd.here | apply Upd.next)) (by first | exact Nat.le_of_ble_eq_true rfl | decide | (simp; done) | omega) (by first | rfl | simp) ?_
                          refine wl_nil ?_
                          refine wp_done ?_
                          exact w_again ⟨(), trivial, (by repeat (first | exact Sub.nil _ | refine Sub.cons rfl ?_)), (Take.sub (by repeat (first | exact Take.nil | exact Take.all _ | (apply Take.cons; focus (repeat (first | exact Pick.here | apply Pick.next))))))⟩
                        exact wp_stop
                      exact wp_stop
                    refine wp_alt ?_ ?_
                    · refine o_load lod_57 rfl (by repeat (first | exact At.here | (refine At.inA ?_; assumption) | apply At.next)) rfl ?_
                      refine wl_nil ?_
                      refine wp_alt ?_ ?_
                      · refine o_callv (slot_fn hSr 2 2147483647 (by omega) (hsl 2 (by omega)) (by omega)) fn_39 rfl rfl rfl (by repeat (first | exact Take.nil | exact Take.all _ | (apply Take.cons; focus (repeat (first | exact Pick.here | apply Pick.next))))) ?_
                        rintro v ho ⟨rfl, rfl⟩
                        rw [hn2, hf2]
                        refine wl_nil ?_
                        refine wp_alt ?_ ?_
                        · refine o_call (rd_value (L4.getD 3 []) 4294967295 (hsl 3 (by omega))) fn_35 rfl (by repeat (first | exact Take.nil | exact Take.all _ | (apply Take.cons; focus (repeat (first | exact Pick.here | apply Pick.next))))) ?_
                          rintro v ho ⟨rfl, rfl⟩
                          rw [hn3, hf3]
                          refine wl_nil ?_
                          refine wp_take _ _ ?_
                          refine o_conv int_38 (by rw [Tryd.underlying2]; rfl) rfl (by first | exact IntWalk.u32_in _ (by omega) | rfl) ?_
                          refine o_bld (c := #[.int .i64 n0, .int .i64 n1, .int .i64 n2, .int .u32 n3]) bld_40 rfl rfl ?_
                          refine wl_nil ?_
                          refine wp_alt ?_ ?_
                          · refine o_storeN siz_40 rfl rfl rfl (by repeat (first | exact Upd.here | apply Upd.next)) (by first | exact Nat.le_of_ble_eq_true rfl | decide | (simp; done) | omega) (by first | rfl | simp) ?_
                            refine wl_nil ?_
                            refine wp_done ?_
                            exact w_again ⟨(), trivial, (by repeat (first | exact Sub.nil _ | refine Sub.cons rfl ?_)), (Take.sub (by repeat (first | exact Take.nil | exact Take.all _ | (apply Take.cons; focus (repeat (first | exact Pick.here | apply Pick.next))))))⟩
                          exact wp_stop
                        exact wp_stop
                      exact wp_stop
                    exact wp_stop
                  refine wp_alt ?_ ?_
                  · refine o_load lod_57 rfl (by repeat (first | exact At.here | (refine At.inA ?_; assumption) | apply At.next)) rfl ?_
                    refine wl_nil ?_
                    refine wp_alt ?_ ?_
                    · refine o_callv (slot_fn hSr 1 2147483647 (by omega) (hsl 1 (by omega)) (by omega)) fn_39 rfl rfl rfl (by repeat (first | exact Take.nil | exact Take.all _ | (apply Take.cons; focus (repeat (first | exact Pick.here | apply Pick.next))))) ?_
                      rintro v ho ⟨rfl, rfl⟩
                      rw [hn1, hf1]
                      refine wl_nil ?_
                      refine wp_alt ?_ ?_
                      · refine o_callv (slot_fn hSr 2 2147483647 (by omega) (hsl 2 (by omega)) (by omega)) fn_39 rfl rfl rfl (by repeat (first | exact Take.nil | exact Take.all _ | (apply Take.cons; focus (repeat (first | exact Pick.here | apply Pick.next))))) ?_
                        rintro v ho ⟨rfl, rfl⟩
                        rw [hn2, hf2]
                        refine wl_nil ?_
                        refine wp_alt ?_ ?_
                        · refine o_call (rd_value (L4.getD 3 []) 4294967295 (hsl 3 (by omega))) fn_35 rfl (by repeat (first | exact Take.nil | exact Take.all _ | (apply Take.cons; focus (repeat (first | exact Pick.here | apply Pick.next))))) ?_
                          rintro v ho ⟨rfl, rfl⟩
                          rw [hn3, hf3]
                          refine wl_nil ?_
                          refine wp_take _ _ ?_
                          refine o_conv int_38 (by rw [Tryd.underlying2]; rfl) rfl (by first | exact IntWalk.u32_in _ (by omega) | rfl) ?_
                          refine o_bld (c := #[.int .i64 n0, .int .i64 n1, .int .i64 n2, .int .u32 n3]) bld_40 rfl rfl ?_
                          refine wl_nil ?_
                          refine wp_alt ?_ ?_
                          · refine o_storeN siz_40 rfl rfl rfl (by repeat (first | exact Upd.here | apply Upd.next)) (by first | exact Nat.le_of_ble_eq_true rfl | decide | (simp; done) | omega) (by first | rfl | simp) ?_
                            refine wl_nil ?_
                            refine wp_done ?_
                            exact w_again ⟨(), trivial, (by repeat (first | exact Sub.nil _ | refine Sub.cons rfl ?_)), (Take.sub (by repeat (first | exact Take.nil | exact Take.all _ | (apply Take.cons; focus (repeat (first | exact Pick.here | apply Pick.next))))))⟩
                          exact wp_stop
                        exact wp_stop
                      exact wp_stop
                    exact wp_stop
                  exact wp_stop
                exact wp_stop
              refine wp_alt ?_ ?_
              · refine o_load lod_57 rfl (by repeat (first | exact At.here | (refine At.inA ?_; assumption) | apply At.next)) rfl ?_
                refine wl_nil ?_
                refine wp_alt ?_ ?_
                · refine o_callv (slot_fn hSr 0 2147483647 (by omega) (hsl 0 (by omega)) (by omega)) fn_39 rfl rfl rfl (by repeat (first | exact Take.nil | exact Take.all _ | (apply Take.cons; focus (repeat (first | exact Pick.here | apply Pick.next))))) ?_
                  rintro v ho ⟨rfl, rfl⟩
                  rw [hn0, hf0]
                  refine wl_nil ?_
                  refine wp_alt ?_ ?_
                  · refine o_callv (slot_fn hSr 1 2147483647 (by omega) (hsl 1 (by omega)) (by omega)) fn_39 rfl rfl rfl (by repeat (first | exact Take.nil | exact Take.all _ | (apply Take.cons; focus (repeat (first | exact Pick.here | apply Pick.next))))) ?_
                    rintro v ho ⟨rfl, rfl⟩
                    rw [hn1, hf1]
                    refine wl_nil ?_
                    refine wp_alt ?_ ?_
                    · refine o_callv (slot_fn hSr 2 2147483647 (by omega) (hsl 2 (by omega)) (by omega)) fn_39 rfl rfl rfl (by repeat (first | exact Take.nil | exact Take.all _ | (apply Take.cons; focus (repeat (first | exact Pick.here | apply Pick.next))))) ?_
                      rintro v ho ⟨rfl, rfl⟩
                      rw [hn2, hf2]
                      refine wl_nil ?_
                      refine wp_take _ _ ?_
                      refine o_load (v := str (L4.getD 3 [])) lod_9 rfl (by repeat (first | exact At.here | (refine At.inA ?_; assumption) | apply At.next)) (hcur 3 _ (RW.cell (by omega))) ?_
                      refine wl_nil ?_
                      refine wp_alt ?_ ?_
                      · refine o_call (rd_value (L4.getD 3 []) 4294967295 (hsl 3 (by omega))) fn_35 rfl (by repeat (first | exact Take.nil | exact Take.all _ | (apply Take.cons; focus (repeat (first | exact Pick.here | apply Pick.next))))) ?_
                        rintro v ho ⟨rfl, rfl⟩
                        rw [hn3, hf3]
                        refine wl_nil ?_
                        refine wp_take _ _ ?_
                        refine o_conv int_38 (by rw [Tryd.underlying2]; rfl) rfl (by first | exact IntWalk.u32_in _ (by omega) | rfl) ?_
                        refine o_bld (c := #[.int .i64 n0, .int .i64 n1, .int .i64 n2, .int .u32 n3]) bld_40 rfl rfl ?_
                        refine wl_nil ?_
                        refine wp_alt ?_ ?_
                        · refine o_storeN siz_40 rfl rfl rfl (by repeat (first | exact Upd.here | apply Upd.next)) (by first | exact Nat.le_of_ble_eq_true rfl | decide | (simp; done) | omega) (by first | rfl | simp) ?_
                          refine wl_nil ?_
                          refine wp_done ?_
                          exact w_again ⟨(), trivial, (by repeat (first | exact Sub.nil _ | refine Sub.cons rfl ?_)), (Take.sub (by repeat (first | exact Take.nil | exact Take.all _ | (apply Take.cons; focus (repeat (first | exact Pick.here | apply Pick.next))))))⟩
                        exact wp_stop
                      exact wp_stop
                    refine wp_alt ?_ ?_
                    · refine o_load (v := str (L4.getD 3 [])) lod_9 rfl (by repeat (first | exact At.here | (refine At.inA ?_; assumption) | apply At.next)) (hcur 3 _ (RW.cell (by omega))) ?_
                      refine wl_nil ?_
                      refine wp_alt ?_ ?_
                      · refine o_callv (slot_fn hSr 2 2147483647 (by omega) (hsl 2 (by omega)) (by omega)) fn_39 rfl rfl rfl (by repeat (first | exact Take.nil | exact Take.all _ | (apply Take.cons; focus (repeat (first | exact Pick.here | apply Pick.next))))) ?_
                        rintro v ho ⟨rfl, rfl⟩
                        rw [hn2, hf2]
                        refine wl_nil ?_
                        refine wp_alt ?_ ?_
                        · refine o_call (rd_value (L4.getD 3 []) 4294967295 (hsl 3 (by omega))) fn_35 rfl (by repeat (first | exact Take.nil | exact Take.all _ | (apply Take.cons; focus (repeat (first | exact Pick.here | apply Pick.next))))) ?_
                          rintro v ho ⟨rfl, rfl⟩
                          rw [hn3, hf3]
                          refine wl_nil ?_
                          refine wp_take _ _ ?_
                          refine o_conv int_38 (by rw [Tryd.underlying2]; rfl) rfl (by first | exact IntWalk.u32_in _ (by omega) | rfl) ?_
                          refine o_bld (c := #[.int .i64 n0, .int .i64 n1, .int .i64 n2, .int .u32 n3]) bld_40 rfl rfl ?_
                          refine wl_nil ?_
                          refine wp_alt ?_ ?_
                          · refine o_storeN siz_40 rfl rfl rfl (by repeat (first | exact Upd.here | apply Upd.next)) (by first | exact Nat.le_of_ble_eq_true rfl | decide | (simp; done) | omega) (by first | rfl | simp) ?_
                            refine wl_nil ?_
                            refine wp_done ?_
                            exact w_again ⟨(), trivial, (by repeat (first | exact Sub.nil _ | refine Sub.cons rfl ?_)), (Take.sub (by repeat (first | exact Take.nil | exact Take.all _ | (apply Take.cons; focus (repeat (first | exact Pick.here | apply Pick.next))))))⟩
                          exact wp_stop
                        exact wp_stop
                      exact wp_stop
                    exact wp_stop
                  refine wp_alt ?_ ?_
                  · refine o_load (v := str (L4.getD 3 [])) lod_9 rfl (by repeat (first | exact At.here | (refine At.inA ?_; assumption) | apply At.next)) (hcur 3 _ (RW.cell (by omega))) ?_
                    refine wl_nil ?_
                    refine wp_alt ?_ ?_
                    · refine o_callv (slot_fn hSr 1 2147483647 (by omega) (hsl 1 (by omega)) (by omega)) fn_39 rfl rfl rfl (by repeat (first | exact Take.nil | exact Take.all _ | (apply Take.cons; focus (repeat (first | exact Pick.here | apply Pick.next))))) ?_
                      rintro v ho ⟨rfl, rfl⟩
                      rw [hn1, hf1]
                      refine wl_nil ?_
                      refine wp_alt ?_ ?_
                      · refine o_callv (slot_fn hSr 2 2147483647 (by omega) (hsl 2 (by omega)) (by omega)) fn_39 rfl rfl rfl (by repeat (first | exact Take.nil | exact Take.all _ | (apply Take.cons; focus (repeat (first | exact Pick.here | apply Pick.next))))) ?_
                        rintro v ho ⟨rfl, rfl⟩
                        rw [hn2, hf2]
                        refine wl_nil ?_
                        refine wp_alt ?_ ?_
                        · refine o_call (rd_value (L4.getD 3 []) 4294967295 (hsl 3 (by omega))) fn_35 rfl (by repeat (first | exact Take.nil | exact Take.all _ | (apply Take.cons; focus (repeat (first | exact Pick.here | apply Pick.next))))) ?_
                          rintro v ho ⟨rfl, rfl⟩
                          rw [hn3, hf3]
                          refine wl_nil ?_
                          refine wp_take _ _ ?_
                          refine o_conv int_38 (by rw [Tryd.underlying2]; rfl) rfl (by first | exact IntWalk.u32_in _ (by omega) | rfl) ?_
                          refine o_bld (c := #[.int .i64 n0, .int .i64 n1, .int .i64 n2, .int .u32 n3]) bld_40 rfl rfl ?_
                          refine wl_nil ?_
                          refine wp_alt ?_ ?_
                          · refine o_storeN siz_40 rfl rfl rfl (by repeat (first | exact Upd.here | apply Upd.next)) (by first | exact Nat.le_of_ble_eq_true rfl | decide | (simp; done) | omega) (by first | rfl | simp) ?_
                            refine wl_nil ?_
                            refine wp_done ?_
                            exact w_again ⟨(), trivial, (by repeat (first | exact Sub.nil _ | refine Sub.cons rfl ?_)), (Take.sub (by repeat (first | exact Take.nil | exact Take.all _ | (apply Take.cons; focus (repeat (first | exact Pick.here | apply Pick.next))))))⟩
                          exact wp_stop
                        exact wp_stop
                      exact wp_stop
                    exact wp_stop
                  exact wp_stop
                refine wp_alt ?_ ?_
                · refine o_load (v := str (L4.getD 3 [])) lod_9 rfl (by repeat (first | exact At.here | (refine At.inA ?_; assumption) | apply At.next)) (hcur 3 _ (RW.cell (by omega))) ?_
                  refine wl_nil ?_
                  refine wp_alt ?_ ?_
                  · refine o_callv (slot_fn hSr 0 2147483647 (by omega) (hsl 0 (by omega)) (by omega)) fn_39 rfl rfl rfl (by repeat (first | exact Take.nil | exact Take.all _ | (apply Take.cons; focus (repeat (first | exact Pick.here | apply Pick.next))))) ?_
                    rintro v ho ⟨rfl, rfl⟩
                    rw [hn0, hf0]
                    refine wl_nil ?_
                    refine wp_alt ?_ ?_
                    · refine o_callv (slot_fn hSr 1 2147483647 (by omega) (hsl 1 (by omega)) (by omega)) fn_39 rfl rfl rfl (by repeat (first | exact Take.nil | exact Take.all _ | (apply Take.cons; focus (repeat (first | exact Pick.here | apply Pick.next))))) ?_
                      rintro v ho ⟨rfl, rfl⟩
                      rw [hn1, hf1]
                      refine wl_nil ?_
                      refine wp_alt ?_ ?_
                      · refine o_callv (slot_fn hSr 2 2147483647 (by omega) (hsl 2 (by omega)) (by omega)) fn_39 rfl rfl rfl (by repeat (first | exact Take.nil | exact Take.all _ | (apply Take.cons; focus (repeat (first | exact Pick.here | apply Pick.next))))) ?_
                        rintro v ho ⟨rfl, rfl⟩
                        rw [hn2, hf2]
                        refine wl_nil ?_
                        refine wp_alt ?_ ?_
                        · refine o_call (rd_value (L4.getD 3 []) 4294967295 (hsl 3 (by omega))) fn_35 rfl (by repeat (first | exact Take.nil | exact Take.all _ | (apply Take.cons; focus (repeat (first | exact Pick.here | apply Pick.next))))) ?_
                          rintro v ho ⟨rfl, rfl⟩
                          rw [hn3, hf3]
                          refine wl_nil ?_
                          refine wp_take _ _ ?_
                          refine o_conv int_38 (by rw [Tryd.underlying2]; rfl) rfl (by first | exact IntWalk.u32_in _ (by omega) | rfl) ?_
                          refine o_bld (c := #[.int .i64 n0, .int .i64 n1, .int .i64 n2, .int .u32 n3]) bld_40 rfl rfl ?_
                          refine wl_nil ?_
                          refine wp_alt ?_ ?_
                          · refine o_storeN siz_40 rfl rfl rfl (by repeat (first | exact Upd.here | apply Upd.next)) (by first | exact Nat.le_of_ble_eq_true rfl | decide | (simp; done) | omega) (by first | rfl | simp) ?_
                            refine wl_nil ?_
                            refine wp_done ?_
                            exact w_again ⟨(), trivial, (by repeat (first | exact Sub.nil _ | refine Sub.cons rfl ?_)), (Take.sub (by repeat (first | exact Take.nil | exact Take.all _ | (apply Take.cons; focus (repeat (first | exact Pick.here | apply Pick.next))))))⟩
                          exact wp_stop
                        exact wp_stop
                      exact wp_stop
                    exact wp_stop
                  exact wp_stop
                exact wp_stop
              refine wp_alt ?_ ?_
              · refine o_load (v := str (L4.getD 3 [])) lod_9 rfl (by repeat (first | exact At.here | (refine At.inA ?_; assumption) | apply At.next)) (hcur 3 _ (RW.cell (by omega))) ?_
                refine wl_nil ?_
                refine wp_alt ?_ ?_
                · refine o_callv (slot_fn hSr 0 2147483647 (by omega) (hsl 0 (by omega)) (by omega)) fn_39 rfl rfl rfl (by repeat (first | exact Take.nil | exact Take.all _ | (apply Take.cons; focus (repeat (first | exact Pick.here | apply Pick.next))))) ?_
                  rintro v ho ⟨rfl, rfl⟩
                  rw [hn0, hf0]
                  refine wl_nil ?_
                  refine wp_alt ?_ ?_
                  · refine o_callv (slot_fn hSr 1 2147483647 (by omega) (hsl 1 (by omega)) (by omega)) fn_39 rfl rfl rfl (by repeat (first | exact Take.nil | exact Take.all _ | (apply Take.cons; focus (repeat (first | exact Pick.here | apply Pick.next))))) ?_
                    rintro v ho ⟨rfl, rfl⟩
                    rw [hn1, hf1]
                    refine wl_nil ?_
                    refine wp_alt ?_ ?_
                    · refine o_callv (slot_fn hSr 2 2147483647 (by omega) (hsl 2 (by omega)) (by omega)) fn_39 rfl rfl rfl (by repeat (first | exact Take.nil | exact Take.all _ | (apply Take.cons; focus (repeat (first | exact Pick.here | apply Pick.next))))) ?_
                      rintro v ho ⟨rfl, rfl⟩
                      rw [hn2, hf2]
                      refine wl_nil ?_
                      refine wp_take _ _ ?_
                      refine o_load lod_57 rfl (by repeat (first | exact At.here | (refine At.inA ?_; assumption) | apply At.next)) rfl ?_
                      refine wl_nil ?_
                      refine wp_alt ?_ ?_
                      · refine o_call (rd_value (L4.getD 3 []) 4294967295 (hsl 3 (by omega))) fn_35 rfl (by repeat (first | exact Take.nil | exact Take.all _ | (apply Take.cons; focus (repeat (first | exact Pick.here | apply Pick.next))))) ?_
                        rintro v ho ⟨rfl, rfl⟩
                        rw [hn3, hf3]
                        refine wl_nil ?_
                        refine wp_take _ _ ?_
                        refine o_conv int_38 (by rw [Tryd.underlying2]; rfl) rfl (by first | exact IntWalk.u32_in _ (by omega) | rfl) ?_
                        refine o_bld (c := #[.int .i64 n0, .int .i64 n1, .int .i64 n2, .int .u32 n3]) bld_40 rfl rfl ?_
                        refine wl_nil ?_
                        refine wp_alt ?_ ?_
                        · refine o_storeN siz_40 rfl rfl rfl (by repeat (first | exact Upd.here | apply Upd.next)) (by first | exact Nat.le_of_ble_eq_true rfl | decide | (simp; done) | omega) (by first | rfl | simp) ?_
                          refine wl_nil ?_
                          refine wp_done ?_
                          exact w_again ⟨(), trivial, (by repeat (first | exact Sub.nil _ | refine Sub.cons rfl ?_)), (Take.sub (by repeat (first | exact Take.nil | exact Take.all _ | (apply Take.cons; focus (repeat (first | exact Pick.here | apply Pick.next))))))⟩
                        exact wp_stop
                      exact wp_stop
                    refine wp_alt ?_ ?_
                    · refine o_load lod_57 rfl (by repeat (first | exact At.here | (refine At.inA ?_; assumption) | apply At.next)) rfl ?_
                      refine wl_nil ?_
                      refine wp_alt ?_ ?_
                      · refine o_callv (slot_fn hSr 2 2147483647 (by omega) (hsl 2 (by omega)) (by omega)) fn_39 rfl rfl rfl (by repeat (first | exact Take.nil | exact Take.all _ | (apply Take.cons; focus (repeat (first | exact Pick.here | apply Pick.next))))) ?_
                        rintro v ho ⟨rfl, rfl⟩
                        rw [hn2, hf2]
                        refine wl_nil ?_
                        refine wp_alt ?_ ?_
                        · refine o_call (rd_value (L4.getD 3 []) 4294967295 (hsl 3 (by omega))) fn_35 rfl (by repeat (first | exact Take.nil | exact Take.all _ | (apply Take.cons; focus (repeat (first | exact Pick.here | apply Pick.next))))) ?_
                          rintro v ho ⟨rfl, rfl⟩
                          rw [hn3, hf3]
                          refine wl_nil ?_
                          refine wp_take _ _ ?_
                          refine o_conv int_38 (by rw [Tryd.underlying2]; rfl) rfl (by first | exact IntWalk.u32_in _ (by omega) | rfl) ?_
                          refine o_bld (c := #[.int .i64 n0, .int .i64 n1, .int .i64 n2, .int .u32 n3]) bld_40 rfl rfl ?_
                          refine wl_nil ?_
                          refine wp_alt ?_ ?_
                          · refine o_storeN siz_40 rfl rfl rfl (by repeat (first | exact Upd.here | apply Upd.next)) (by first | exact Nat.le_of_ble_eq_true rfl | decide | (simp; done) | omega) (by first | rfl | simp) ?_
                            refine wl_nil ?_
                            refine wp_done ?_
                            exact w_again ⟨(), trivial, (by repeat (first | exact Sub.nil _ | refine Sub.cons rfl ?_)), (Take.sub (by repeat (first | exact Take.nil | exact Take.all _ | (apply Take.cons; focus (repeat (first | exact Pick.here | apply Pick.next))))))⟩
                          exact wp_stop
                        exact wp_stop
                      exact wp_stop
                    exact wp_stop
                  refine wp_alt ?_ ?_
                  · refine o_load lod_57 rfl (by repeat (first | exact At.here | (refine At.inA ?_; assumption) | apply At.next)) rfl ?_
                    refine wl_nil ?_
                    refine wp_alt ?_ ?_
                    · refine o_callv (slot_fn hSr 1 2147483647 (by omega) (hsl 1 (by omega)) (by omega)) fn_39 rfl rfl rfl (by repeat (first | exact Take.nil | exact Take.all _ | (apply Take.cons; focus (repeat (first | exact Pick.here | apply Pick.next))))) ?_
                      rintro v ho ⟨rfl, rfl⟩
                      rw [hn1, hf1]
                      refine wl_nil ?_
                      refine wp_alt ?_ ?_
                      · refine o_callv (slot_fn hSr 2 2147483647 (by omega) (hsl 2 (by omega)) (by omega)) fn_39 rfl rfl rfl (by repeat (first | exact Take.nil | exact Take.all _ | (apply Take.cons; focus (repeat (first | exact Pick.here | apply Pick.next))))) ?_
                        rintro v ho ⟨rfl, rfl⟩
                        rw [hn2, hf2]
                        refine wl_nil ?_
                        refine wp_alt ?_ ?_
                        · refine o_call (rd_value (L4.getD 3 []) 4294967295 (hsl 3 (by omega))) fn_35 rfl (by repeat (first | exact Take.nil | exact Take.all _ | (apply Take.cons; focus (repeat (first | exact Pick.here | apply Pick.next))))) ?_
                          rintro v ho ⟨rfl, rfl⟩
                          rw [hn3, hf3]
                          refine wl_nil ?_
                          refine wp_take _ _ ?_
                          refine o_conv int_38 (by rw [Tryd.underlying2]; rfl) rfl (by first | exact IntWalk.u32_in _ (by omega) | rfl) ?_
                          refine o_bld (c := #[.int .i64 n0, .int .i64 n1, .int .i64 n2, .int .u32 n3]) bld_40 rfl rfl ?_
                          refine wl_nil ?_
                          refine wp_alt ?_ ?_
                          · refine o_storeN siz_40 rfl rfl rfl (by repeat (first | exact Upd.here | apply Upd.next)) (by first | exact Nat.le_of_ble_eq_true rfl | decide | (simp; done) | omega) (by first | rfl | simp) ?_
                            refine wl_nil ?_
                            refine wp_done ?_
                            exact w_again ⟨(), trivial, (by repeat (first | exact Sub.nil _ | refine Sub.cons rfl ?_)), (Take.sub (by repeat (first | exact Take.nil | exact Take.all _ | (apply Take.cons; focus (repeat (first | exact Pick.here | apply Pick.next))))))⟩
                          exact wp_stop
                        exact wp_stop
                      exact wp_stop
                    exact wp_stop
                  exact wp_stop
                refine wp_alt ?_ ?_
                · refine o_load lod_57 rfl (by repeat (first | exact At.here | (refine At.inA ?_; assumption) | apply At.next)) rfl ?_
                  refine wl_nil ?_
                  refine wp_alt ?_ ?_
                  · refine o_callv (slot_fn hSr 0 2147483647 (by omega) (hsl 0 (by omega)) (by omega)) fn_39 rfl rfl rfl (by repeat (first | exact Take.nil | exact Take.all _ | (apply Take.cons; focus (repeat (first | exact Pick.here | apply Pick.next))))) ?_
                    rintro v ho ⟨rfl, rfl⟩
                    rw [hn0, hf0]
                    refine wl_nil ?_
                    refine wp_alt ?_ ?_
                    · refine o_callv (slot_fn hSr 1 2147483647 (by omega) (hsl 1 (by omega)) (by omega)) fn_39 rfl rfl rfl (by repeat (first | exact Take.nil | exact Take.all _ | (apply Take.cons; focus (repeat (first | exact Pick.here | apply Pick.next))))) ?_
                      rintro v ho ⟨rfl, rfl⟩
                      rw [hn1, hf1]
                      refine wl_nil ?_
                      refine wp_alt ?_ ?_
                      · refine o_callv (slot_fn hSr 2 2147483647 (by omega) (hsl 2 (by omega)) (by omega)) fn_39 rfl rfl rfl (by repeat (first | exact Take.nil | exact Take.all _ | (apply Take.cons; focus (repeat (first | exact Pick.here | apply Pick.next))))) ?_
                        rintro v ho ⟨rfl, rfl⟩
                        rw [hn2, hf2]
                        refine wl_nil ?_
                        refine wp_alt ?_ ?_
                        · refine o_call (rd_value (L4.getD 3 []) 4294967295 (hsl 3 (by omega))) fn_35 rfl (by repeat (first | exact Take.nil | exact Take.all _ | (apply Take.cons; focus (repeat (first | exact Pick.here | apply Pick.next))))) ?_
                          rintro v ho ⟨rfl, rfl⟩
                          rw [hn3, hf3]
                          refine wl_nil ?_
                          refine wp_take _ _ ?_
                          refine o_conv int_38 (by rw [Tryd.underlying2]; rfl) rfl (by first | exact IntWalk.u32_in _ (by omega) | rfl) ?_
                          refine o_bld (c := #[.int .i64 n0, .int .i64 n1, .int .i64 n2, .int .u32 n3]) bld_40 rfl rfl ?_
                          refine wl_nil ?_
                          refine wp_alt ?_ ?_
                          · refine o_storeN siz_40 rfl rfl rfl (by repeat (first | exact Upd.here | apply Upd.next)) (by first | exact Nat.le_of_ble_eq_true rfl | decide | (simp; done) | omega) (by first | rfl | simp) ?_
                            refine wl_nil ?_
                            refine wp_done ?_
                            exact w_again ⟨(), trivial, (by repeat (first | exact Sub.nil _ | refine Sub.cons rfl ?_)), (Take.sub (by repeat (first | exact Take.nil | exact Take.all _ | (apply Take.cons; focus (repeat (first | exact Pick.here | apply Pick.next))))))⟩
                          exact wp_stop
                        exact wp_stop
                      exact wp_stop
                    exact wp_stop
                  exact wp_stop
                exact wp_stop
              exact wp_stop
            exact wp_stop
          rintro ⟨⟩ -
          have hfl := slotflag h1 h2 h3 (by rw [hL4]; exact h4) bad
          rw [hL4, hf0, hf1, hf2, hf3] at hfl
          rw [hfl]
          have hq : slotW (cutB 47 (W.headD [])) = (n0, n1, n2, n3) := by rw [hL4]; unfold slotW; rw [hn0, hn1, hn2, hn3]
          exact w_ret (ret1c rfl lod_40 rfl (by repeat (first | exact At.here | (refine At.inA ?_; assumption) | apply At.next)) (Nat.le_of_ble_eq_true rfl) rfl) ⟨vw', (n0, n1, n2, n3), rfl, fun s hs => hq ▸ slotP_four h1 h2 h3 hs, hw', rfl⟩ (Take.sub (by repeat (first | exact Take.nil | exact Take.all _ | (apply Take.cons; focus (repeat (first | exact Pick.here | apply Pick.next))))))

end Go.Proofs.YtmcopafdooejjaaDoor
