/- Contracts: the document's slot and weather; the program's rows of weather. No condition but on the sizes. -/
import Derived.Test.YtmcopafdooejjaaDoorTy
import Derived.Test.YtmcopafdooejjaaDoorHf
import Derived.Test.YtmcopafdooejjaaDoorEm
namespace Go.Proofs.YtmcopafdooejjaaDoor
open Go.Eng
set_option linter.unusedVariables false
set_option linter.unusedSimpArgs false
set_option maxRecDepth 20000
attribute [local irreducible] WL WT
theorem ref_slot (w : List UInt8) (hl : w.length ≤ 1000000) : Ctr Tryd.prog 28 [str w] ([]) (fun v ho => ∃ q, v = .tuple #[.agg (slotC q).toArray, .bool (slotP w).isSome] ∧ (∀ s, slotP w = some s → q = s) ∧ ho = []) := by
  refine spec_of Tryd.func28 rfl rfl fun w0 L => ?_
  refine w_seq ?_
  refine w_region rfl ?_
  refine o_alloc zer_55 (fun b1 => ?_)
  refine o_asg rfl ?_
  refine w_nil ?_
  refine w_seq ?_
  refine w_seq ?_
  refine w_region rfl ?_
  refine o_mov rfl ?_
  refine o_eqT rfl rfl ?_
  refine w_nil ?_
  refine w_if_d rfl (fun h1 => ?_) (fun h1 => ?_)
  · have hn : slotP w = some (0, 0, 0, 0) := by rw [h1]; exact slotP_dot
    refine w_seq ?_
    refine w_region rfl ?_
    refine o_bld bld_55 rfl rfl ?_
    refine o_storeN siz_55 rfl rfl rfl (by repeat (first | exact Upd.here | apply Upd.next)) (by first | exact Nat.le_of_ble_eq_true rfl | decide | (simp; done) | omega) (by first | rfl | simp) ?_
    refine o_asg rfl ?_
    refine w_nil ?_
    exact w_ret (ret2c rfl lod_55 rfl (by repeat (first | exact At.here | (refine At.inA ?_; assumption) | apply At.next)) (Nat.le_of_ble_eq_true rfl) rfl rfl) ⟨(0, 0, 0, 0), by rw [hn]; rfl, fun s hs => (by rw [hn] at hs; exact Option.some.inj hs), rfl⟩ (Take.sub (by repeat (first | exact Take.nil | exact Take.all _ | (apply Take.cons; focus (repeat (first | exact Pick.here | apply Pick.next))))))
  · refine w_skip ?_
    refine w_seq ?_
    refine w_seq ?_
    refine w_region rfl ?_
    refine o_mov rfl ?_
    refine o_eqT rfl rfl ?_
    refine w_nil ?_
    refine w_if_d rfl (fun h2 => ?_) (fun h2 => ?_)
    · have hn : slotP w = some (1, 0, 0, 0) := by rw [h2]; exact slotP_x
      refine w_seq ?_
      refine w_region rfl ?_
      refine o_bld bld_55 rfl rfl ?_
      refine o_storeN siz_55 rfl rfl rfl (by repeat (first | exact Upd.here | apply Upd.next)) (by first | exact Nat.le_of_ble_eq_true rfl | decide | (simp; done) | omega) (by first | rfl | simp) ?_
      refine o_asg rfl ?_
      refine w_nil ?_
      exact w_ret (ret2c rfl lod_55 rfl (by repeat (first | exact At.here | (refine At.inA ?_; assumption) | apply At.next)) (Nat.le_of_ble_eq_true rfl) rfl rfl) ⟨(1, 0, 0, 0), by rw [hn]; rfl, fun s hs => (by rw [hn] at hs; exact Option.some.inj hs), rfl⟩ (Take.sub (by repeat (first | exact Take.nil | exact Take.all _ | (apply Take.cons; focus (repeat (first | exact Pick.here | apply Pick.next))))))
    · refine w_skip ?_
      refine w_seq ?_
      refine w_seq ?_
      refine w_region rfl ?_
      refine o_mov rfl ?_
      refine o_eqT rfl rfl ?_
      refine w_nil ?_
      refine w_if_d rfl (fun h3 => ?_) (fun h3 => ?_)
      · have hn : slotP w = some (0, 1, 0, 0) := by rw [h3]; exact slotP_a
        refine w_seq ?_
        refine w_region rfl ?_
        refine o_bld bld_55 rfl rfl ?_
        refine o_storeN siz_55 rfl rfl rfl (by repeat (first | exact Upd.here | apply Upd.next)) (by first | exact Nat.le_of_ble_eq_true rfl | decide | (simp; done) | omega) (by first | rfl | simp) ?_
        refine o_asg rfl ?_
        refine w_nil ?_
        exact w_ret (ret2c rfl lod_55 rfl (by repeat (first | exact At.here | (refine At.inA ?_; assumption) | apply At.next)) (Nat.le_of_ble_eq_true rfl) rfl rfl) ⟨(0, 1, 0, 0), by rw [hn]; rfl, fun s hs => (by rw [hn] at hs; exact Option.some.inj hs), rfl⟩ (Take.sub (by repeat (first | exact Take.nil | exact Take.all _ | (apply Take.cons; focus (repeat (first | exact Pick.here | apply Pick.next))))))
      · refine w_skip ?_
        refine w_seq ?_
        refine w_region rfl ?_
        refine o_mov rfl ?_
        refine o_call (ref_Cut w 47 hl) fn_12 rfl (by repeat (first | exact Take.nil | exact Take.all _ | (apply Take.cons; focus (repeat (first | exact Pick.here | apply Pick.next))))) ?_
        rintro vs ho ⟨Hs_, hS, rfl⟩
        have hsl : ∀ i, i < (cutB 47 w).length → ((cutB 47 w).getD i []).length ≤ 1000000 := fun i hi => by have := cutB_word (c := 47) (l := w) (w := (cutB 47 w).getD i []) (by rw [List.getD_eq_getElem?_getD, List.getElem?_eq_getElem hi]; exact List.getElem_mem hi); omega
        refine o_bslN [_, _, _, _] slc_66 zer_2 (Nat.le_of_ble_eq_true rfl) rfl rfl (fun b3 => ?_)
        refine o_call (ref_numbers hS.rd (Ints.block (k := .i64) (xs := slotM) (by decide)) hsl (by decide)) fn_24 rfl (by repeat (first | exact Take.nil | exact Take.all _ | (apply Take.cons; focus (repeat (first | exact Pick.here | apply Pick.next))))) ?_
        rintro v ho ⟨v1, HN, rfl, hN, rfl⟩
        refine o_mov rfl ?_
        refine o_ext rfl rfl ?_
        refine o_ext rfl rfl ?_
        refine o_asg rfl ?_
        refine o_asg rfl ?_
        refine w_nil ?_
        by_cases hok : numsOk (cutB 47 w) slotM
        · rw [decide_eq_true hok]
          refine w_seq ?_
          refine w_seq ?_
          refine w_region rfl ?_
          refine o_mov rfl ?_
          refine o_not rfl ?_
          refine w_nil ?_
          refine w_if_f rfl ?_
          have hN := hN hok
          have hlen : (cutB 47 w).length = 4 := hok.1
          have hn : slotP w = some (slotW (cutB 47 w)) := by rw [slotP_else h1 h2 h3, if_pos hok]
          have hnl := numsL_len (cutB 47 w) slotM
          have g0 : (numsL (cutB 47 w) slotM).getD 0 0 = (numP ((cutB 47 w).getD 0 []) 2147483647).getD 0 := numsL_get (by omega)
          have g1 : (numsL (cutB 47 w) slotM).getD 1 0 = (numP ((cutB 47 w).getD 1 []) 2147483647).getD 0 := numsL_get (by omega)
          have g2 : (numsL (cutB 47 w) slotM).getD 2 0 = (numP ((cutB 47 w).getD 2 []) 2147483647).getD 0 := numsL_get (by omega)
          have g3 : (numsL (cutB 47 w) slotM).getD 3 0 = (numP ((cutB 47 w).getD 3 []) 4294967295).getD 0 := numsL_get (by omega)
          have b3 := numP_get ((cutB 47 w).getD 3 []) (show (0 : Int) ≤ 4294967295 by omega)
          obtain ⟨n0, e0⟩ : ∃ n, (numP ((cutB 47 w).getD 0 []) 2147483647).getD 0 = n := ⟨_, rfl⟩
          obtain ⟨n1, e1⟩ : ∃ n, (numP ((cutB 47 w).getD 1 []) 2147483647).getD 0 = n := ⟨_, rfl⟩
          obtain ⟨n2, e2⟩ : ∃ n, (numP ((cutB 47 w).getD 2 []) 2147483647).getD 0 = n := ⟨_, rfl⟩
          obtain ⟨n3, e3⟩ : ∃ n, (numP ((cutB 47 w).getD 3 []) 4294967295).getD 0 = n := ⟨_, rfl⟩
          rw [e0] at g0
          rw [e1] at g1
          rw [e2] at g2
          rw [e3] at g3 b3
          have hq : slotW (cutB 47 w) = (n0, n1, n2, n3) := by unfold slotW; rw [e0, e1, e2, e3]
          refine w_skip ?_
          refine w_seq ?_
          refine w_line [(0, true), (1, true), (2, true), (3, true), (4, true), (5, true), (6, true), (7, true), (8, true), (9, true), (10, true), (11, true), (12, true), (13, true), (14, false), (15, true)] mixed (by kernel_rfl) ?_
          refine o_mov rfl ?_
          refine o_idxI hN.ints (by repeat (first | exact Has.here | apply Has.next)) slc_66 rfl rfl ⟨by omega, by omega⟩ (fun bb0 ff0 ar0 TT0 fr0 hm0 hg0 => ?_)
          refine o_load (v := .int .i64 n0) lod_2 rfl hm0 (g0 ▸ hg0) ?_
          refine o_mov rfl ?_
          refine o_idxI hN.ints (by repeat (first | exact Has.here | apply Has.next)) slc_66 rfl rfl ⟨by omega, by omega⟩ (fun bb1 ff1 ar1 TT1 fr1 hm1 hg1 => ?_)
          refine o_load (v := .int .i64 n1) lod_2 rfl hm1 (g1 ▸ hg1) ?_
          refine o_mov rfl ?_
          refine o_idxI hN.ints (by repeat (first | exact Has.here | apply Has.next)) slc_66 rfl rfl ⟨by omega, by omega⟩ (fun bb2 ff2 ar2 TT2 fr2 hm2 hg2 => ?_)
          refine o_load (v := .int .i64 n2) lod_2 rfl hm2 (g2 ▸ hg2) ?_
          refine o_mov rfl ?_
          refine o_idxI hN.ints (by repeat (first | exact Has.here | apply Has.next)) slc_66 rfl rfl ⟨by omega, by omega⟩ (fun bb3 ff3 ar3 TT3 fr3 hm3 hg3 => ?_)
          refine o_load (v := .int .i64 n3) lod_2 rfl hm3 (g3 ▸ hg3) ?_
          refine o_conv int_38 (by rw [Tryd.underlying2]; rfl) rfl (by first | exact IntWalk.u32_in _ (by omega) | rfl) ?_
          refine o_bld (c := #[.int .i64 n0, .int .i64 n1, .int .i64 n2, .int .u32 n3]) bld_55 rfl rfl ?_
          refine o_storeN siz_55 rfl rfl rfl (by repeat (first | exact Upd.here | apply Upd.next)) (by first | exact Nat.le_of_ble_eq_true rfl | decide | (simp; done) | omega) (by first | rfl | simp) ?_
          refine o_asg rfl ?_
          refine w_nil ?_
          exact w_ret (ret2c rfl lod_55 rfl (by repeat (first | exact At.here | (refine At.inA ?_; assumption) | apply At.next)) (Nat.le_of_ble_eq_true rfl) rfl rfl) ⟨(n0, n1, n2, n3), by rw [hn]; rfl, fun s hs => (by rw [hn] at hs; rw [← hq]; exact Option.some.inj hs), rfl⟩ (Take.sub (by repeat (first | exact Take.nil | exact Take.all _ | (apply Take.cons; focus (repeat (first | exact Pick.here | apply Pick.next))))))
        · rw [decide_eq_false hok]
          refine w_seq ?_
          refine w_seq ?_
          refine w_region rfl ?_
          refine o_mov rfl ?_
          refine o_not rfl ?_
          refine w_nil ?_
          refine w_if_t rfl ?_
          have hn : slotP w = none := by rw [slotP_else h1 h2 h3, if_neg hok]
          refine w_seq ?_
          refine w_region rfl ?_
          refine o_bld bld_55 rfl rfl ?_
          refine o_storeN siz_55 rfl rfl rfl (by repeat (first | exact Upd.here | apply Upd.next)) (by first | exact Nat.le_of_ble_eq_true rfl | decide | (simp; done) | omega) (by first | rfl | simp) ?_
          refine o_asg rfl ?_
          refine w_nil ?_
          exact w_ret (ret2c rfl lod_55 rfl (by repeat (first | exact At.here | (refine At.inA ?_; assumption) | apply At.next)) (Nat.le_of_ble_eq_true rfl) rfl rfl) ⟨(0, 0, 0, 0), by rw [hn]; rfl, fun s hs => (by rw [hn] at hs; cases hs), rfl⟩ (Take.sub (by repeat (first | exact Take.nil | exact Take.all _ | (apply Take.cons; focus (repeat (first | exact Pick.here | apply Pick.next))))))

theorem rw_Draw (k : SkyP) (x : Int) (f : Bool) (hx : 0 ≤ x ∧ x ≤ 4294967295) : Ctr Tryd.prog 46 [.agg (rC k (x, f))] ([]) (fun v ho => v = .tuple #[.agg (rC k (drawP x, f)), .int .i64 (drawP x / 65536)] ∧ ho = []) := by
  refine spec_of Tryd.func46 rfl rfl fun w0 L => ?_
  have hd := drawP_in x
  refine w_seq ?_
  refine w_region rfl ?_
  refine o_box rfl (fun b1 => ?_)
  refine o_alloc zer_79 (fun b2 => ?_)
  refine o_asg rfl ?_
  refine w_nil ?_
  refine w_seq ?_
  refine w_region rfl ?_
  refine o_fld fld_79_1 rfl rfl ?_
  refine o_load lod_77 rfl (by repeat (first | exact At.here | (refine At.inA ?_; assumption) | apply At.next)) rfl ?_
  refine o_mul rfl rfl (by first | exact IntWalk.u64_in _ (by omega) | rfl) ?_
  refine o_add rfl rfl (by first | exact IntWalk.u64_in _ (by omega) | rfl) ?_
  refine o_rem (c := drawP x) rfl rfl (by decide) (draw_u64 hx) ?_
  refine o_fld fld_79_1 rfl rfl ?_
  refine o_store siz_77 rfl rfl rfl (by repeat (first | exact Upd.here | apply Upd.next)) rfl (by simp) ?_
  refine w_nil ?_
  refine w_seq ?_
  refine w_cut_x (X := Unit) (fun _ => [(2, .pointer (some ⟨b2, 0, none⟩)), (3, .int .i64 (drawP x / 65536))]) (fun _ => [[(b2, .cells (rC k (drawP x, f)) 79 (0, 0))]]) (fun _ => True) ?_ ?_
  · refine w_plan (takes [0, 1] (.alt 2 (takes [3, 4] (.alt 5 (takes [6] .done) .stop)) (.alt 5 (takes [2, 3, 4, 6] .done) .stop))) mixed (by kernel_rfl) ?_
    refine wp_take _ _ ?_
    refine o_loadW lod_79 rfl (by repeat (first | exact At.here | (refine At.inA ?_; assumption) | apply At.next)) rfl ?_
    refine o_fld fld_79_1 rfl rfl ?_
    refine wl_nil ?_
    refine wp_alt ?_ ?_
    · refine o_load lod_77 rfl (by repeat (first | exact At.here | (refine At.inA ?_; assumption) | apply At.next)) rfl ?_
      refine wl_nil ?_
      refine wp_take _ _ ?_
      refine o_quo rfl rfl (by decide) (quo_nnu (by omega) (by decide) (by omega)) ?_
      refine o_conv int_3 (by rw [Tryd.underlying77]; rfl) rfl (by first | exact IntWalk.i64_in _ (by omega) | rfl) ?_
      refine wl_nil ?_
      refine wp_alt ?_ ?_
      · refine o_storeW siz_79 rfl rfl rfl (by repeat (first | exact Upd.here | apply Upd.next)) rfl rfl ?_
        refine wl_nil ?_
        refine wp_take _ _ ?_
        refine o_asg rfl ?_
        refine wl_nil ?_
        refine wp_done ?_
        exact w_again ⟨(), trivial, (by repeat (first | exact Sub.nil _ | refine Sub.cons rfl ?_)), (Take.sub (by repeat (first | exact Take.nil | exact Take.all _ | (apply Take.cons; focus (repeat (first | exact Pick.here | apply Pick.next))))))⟩
      exact wp_stop
    refine wp_alt ?_ ?_
    · refine o_storeW siz_79 rfl rfl rfl (by repeat (first | exact Upd.here | apply Upd.next)) rfl rfl ?_
      refine wl_nil ?_
      refine wp_take _ _ ?_
      refine o_load lod_77 rfl (by repeat (first | exact At.here | (refine At.inA ?_; assumption) | apply At.next)) rfl ?_
      refine o_quo rfl rfl (by decide) (quo_nnu (by omega) (by decide) (by omega)) ?_
      refine o_conv int_3 (by rw [Tryd.underlying77]; rfl) rfl (by first | exact IntWalk.i64_in _ (by omega) | rfl) ?_
      refine o_asg rfl ?_
      refine wl_nil ?_
      refine wp_done ?_
      exact w_again ⟨(), trivial, (by repeat (first | exact Sub.nil _ | refine Sub.cons rfl ?_)), (Take.sub (by repeat (first | exact Take.nil | exact Take.all _ | (apply Take.cons; focus (repeat (first | exact Pick.here | apply Pick.next))))))⟩
    exact wp_stop
  rintro ⟨⟩ -
  exact w_ret (ret2w rfl lod_79 rfl (by repeat (first | exact At.here | (refine At.inA ?_; assumption) | apply At.next)) rfl rfl) ⟨rfl, rfl⟩ (Take.sub (by repeat (first | exact Take.nil | exact Take.all _ | (apply Take.cons; focus (repeat (first | exact Pick.here | apply Pick.next))))))

theorem rw_Lost (k : SkyP) (x : Int) (f : Bool) (hx : 0 ≤ x ∧ x ≤ 4294967295) : Ctr Tryd.prog 29 [.agg (rC k (x, f))] ([]) (fun v ho => v = .tuple #[.agg (rC k (lostP k (x, f)).1), .bool (lostP k (x, f)).2] ∧ ho = []) := by
  refine spec_of Tryd.func29 rfl rfl fun w0 L => ?_
  cases f
  · refine w_seq ?_
    refine w_region rfl ?_
    refine o_box rfl (fun b1 => ?_)
    refine o_alloc zer_79 (fun b2 => ?_)
    refine o_asg rfl ?_
    refine w_nil ?_
    refine w_seq ?_
    refine w_region rfl ?_
    refine o_loadW lod_79 rfl (by repeat (first | exact At.here | (refine At.inA ?_; assumption) | apply At.next)) rfl ?_
    refine o_call (rw_Draw k x false hx) fn_46 rfl (by repeat (first | exact Take.nil | exact Take.all _ | (apply Take.cons; focus (repeat (first | exact Pick.here | apply Pick.next))))) ?_
    rintro v ho ⟨rfl, rfl⟩
    refine o_mov rfl ?_
    refine o_ext rfl rfl ?_
    refine o_ext rfl rfl ?_
    refine o_storeW siz_79 rfl rfl rfl (by repeat (first | exact Upd.here | apply Upd.next)) rfl rfl ?_
    refine o_asg rfl ?_
    refine w_nil ?_
    refine w_seq ?_
    refine w_seq ?_
    refine w_region rfl ?_
    refine o_fld fld_79_2 rfl rfl ?_
    refine o_load (v := .bool true) lod_4 rfl (by repeat (first | exact At.here | (refine At.inA ?_; assumption) | apply At.next)) rfl ?_
    refine o_mov rfl ?_
    refine o_yes rfl rfl ?_
    refine o_mov rfl ?_
    refine o_yes rfl rfl ?_
    refine o_fld fld_79_0 rfl rfl ?_
    refine o_yes rfl rfl ?_
    refine o_fld fld_76_0 rfl rfl ?_
    refine o_yes rfl rfl ?_
    refine o_load lod_3 rfl (by repeat (first | exact At.here | (refine At.inA ?_; assumption) | apply At.next)) rfl ?_
    refine o_yes rfl rfl ?_
    refine o_lt_s rfl rfl (fun hc => ?_) (fun hc => ?_)
    · refine o_pick_t rfl rfl ?_
      refine w_nil ?_
      refine w_if_t rfl ?_
      refine w_region rfl ?_
      refine o_fld fld_79_2 rfl rfl ?_
      refine o_store siz_4 rfl rfl rfl (by repeat (first | exact Upd.here | apply Upd.next)) rfl (by simp) ?_
      refine w_nil ?_
      refine w_seq ?_
      refine w_region rfl ?_
      refine o_loadW lod_79 rfl (by repeat (first | exact At.here | (refine At.inA ?_; assumption) | apply At.next)) rfl ?_
      refine o_call (rw_Draw k (drawP x) true (drawP_in _)) fn_46 rfl (by repeat (first | exact Take.nil | exact Take.all _ | (apply Take.cons; focus (repeat (first | exact Pick.here | apply Pick.next))))) ?_
      rintro v ho ⟨rfl, rfl⟩
      refine o_mov rfl ?_
      refine o_ext rfl rfl ?_
      refine o_ext rfl rfl ?_
      refine o_storeW siz_79 rfl rfl rfl (by repeat (first | exact Upd.here | apply Upd.next)) rfl rfl ?_
      refine o_asg rfl ?_
      refine w_nil ?_
      refine w_seq ?_
      refine w_seq ?_
      refine w_region rfl ?_
      refine o_fld fld_79_2 rfl rfl ?_
      refine o_load (v := .bool false) lod_4 rfl (by repeat (first | exact At.here | (refine At.inA ?_; assumption) | apply At.next)) rfl ?_
      refine w_nil ?_
      refine w_if_f rfl ?_
      refine w_skip ?_
      refine w_seq ?_
      refine w_cut_x (X := Unit) (fun _ => [(2, .pointer (some ⟨b2, 0, none⟩)), (3, .bool (decide (drawP (drawP x) / 65536 < k.foul)))]) (fun _ => [[(b2, .cells (rC k (drawP (drawP x), true)) 79 (0, 0))]]) (fun _ => True) ?_ ?_
      · refine w_plan (takes [0, 1, 2, 3] (.alt 4 (takes [5] (.alt 6 (takes [7] .done) .stop)) (.alt 6 (takes [4, 5, 7] .done) .stop))) mixed (by kernel_rfl) ?_
        refine wp_take _ _ ?_
        refine o_loadW lod_79 rfl (by repeat (first | exact At.here | (refine At.inA ?_; assumption) | apply At.next)) rfl ?_
        refine o_mov rfl ?_
        refine o_fld fld_79_0 rfl rfl ?_
        refine o_fld fld_76_3 rfl rfl ?_
        refine wl_nil ?_
        refine wp_alt ?_ ?_
        · refine o_load lod_3 rfl (by repeat (first | exact At.here | (refine At.inA ?_; assumption) | apply At.next)) rfl ?_
          refine wl_nil ?_
          refine wp_take _ _ ?_
          refine o_lt rfl rfl ?_
          refine wl_nil ?_
          refine wp_alt ?_ ?_
          · refine o_storeW siz_79 rfl rfl rfl (by repeat (first | exact Upd.here | apply Upd.next)) rfl rfl ?_
            refine wl_nil ?_
            refine wp_take _ _ ?_
            refine o_asg rfl ?_
            refine wl_nil ?_
            refine wp_done ?_
            exact w_again ⟨(), trivial, (by repeat (first | exact Sub.nil _ | refine Sub.cons rfl ?_)), (Take.sub (by repeat (first | exact Take.nil | exact Take.all _ | (apply Take.cons; focus (repeat (first | exact Pick.here | apply Pick.next))))))⟩
          exact wp_stop
        refine wp_alt ?_ ?_
        · refine o_storeW siz_79 rfl rfl rfl (by repeat (first | exact Upd.here | apply Upd.next)) rfl rfl ?_
          refine wl_nil ?_
          refine wp_take _ _ ?_
          refine o_load lod_3 rfl (by repeat (first | exact At.here | (refine At.inA ?_; assumption) | apply At.next)) rfl ?_
          refine o_lt rfl rfl ?_
          refine o_asg rfl ?_
          refine wl_nil ?_
          refine wp_done ?_
          exact w_again ⟨(), trivial, (by repeat (first | exact Sub.nil _ | refine Sub.cons rfl ?_)), (Take.sub (by repeat (first | exact Take.nil | exact Take.all _ | (apply Take.cons; focus (repeat (first | exact Pick.here | apply Pick.next))))))⟩
        exact wp_stop
      rintro ⟨⟩ -
      have hlo := lost_of (turn_yes (k := k) (x := x) (f := false) hc)
      exact w_ret (ret2w rfl lod_79 rfl (by repeat (first | exact At.here | (refine At.inA ?_; assumption) | apply At.next)) rfl rfl) ⟨by rw [hlo]; rfl, rfl⟩ (Take.sub (by repeat (first | exact Take.nil | exact Take.all _ | (apply Take.cons; focus (repeat (first | exact Pick.here | apply Pick.next))))))
    · refine o_pick_t rfl rfl ?_
      refine w_nil ?_
      refine w_if_f rfl ?_
      refine w_seq ?_
      refine w_region rfl ?_
      refine o_fld fld_79_2 rfl rfl ?_
      refine o_load (v := .bool true) lod_4 rfl (by repeat (first | exact At.here | (refine At.inA ?_; assumption) | apply At.next)) rfl ?_
      refine o_not rfl ?_
      refine o_mov rfl ?_
      refine o_no rfl rfl rfl ?_
      refine o_no rfl rfl rfl ?_
      refine o_no rfl rfl rfl ?_
      refine o_no rfl rfl rfl ?_
      refine o_no rfl rfl rfl ?_
      refine o_pick_f rfl rfl ?_
      refine w_nil ?_
      refine w_if_f rfl ?_
      refine w_skip ?_
      refine w_seq ?_
      refine w_region rfl ?_
      refine o_loadW lod_79 rfl (by repeat (first | exact At.here | (refine At.inA ?_; assumption) | apply At.next)) rfl ?_
      refine o_call (rw_Draw k (drawP x) false (drawP_in _)) fn_46 rfl (by repeat (first | exact Take.nil | exact Take.all _ | (apply Take.cons; focus (repeat (first | exact Pick.here | apply Pick.next))))) ?_
      rintro v ho ⟨rfl, rfl⟩
      refine o_mov rfl ?_
      refine o_ext rfl rfl ?_
      refine o_ext rfl rfl ?_
      refine o_storeW siz_79 rfl rfl rfl (by repeat (first | exact Upd.here | apply Upd.next)) rfl rfl ?_
      refine o_asg rfl ?_
      refine w_nil ?_
      refine w_seq ?_
      refine w_seq ?_
      refine w_region rfl ?_
      refine o_fld fld_79_2 rfl rfl ?_
      refine o_load (v := .bool true) lod_4 rfl (by repeat (first | exact At.here | (refine At.inA ?_; assumption) | apply At.next)) rfl ?_
      refine w_nil ?_
      refine w_if_t rfl ?_
      refine w_seq ?_
      refine w_cut_x (X := Unit) (fun _ => [(2, .pointer (some ⟨b2, 0, none⟩)), (3, .bool (decide (drawP (drawP x) / 65536 < k.fair)))]) (fun _ => [[(b2, .cells (rC k (drawP (drawP x), false)) 79 (0, 0))]]) (fun _ => True) ?_ ?_
      · refine w_plan (takes [0, 1, 2, 3] (.alt 4 (takes [5] (.alt 6 (takes [7] .done) .stop)) (.alt 6 (takes [4, 5, 7] .done) .stop))) mixed (by kernel_rfl) ?_
        refine wp_take _ _ ?_
        refine o_loadW lod_79 rfl (by repeat (first | exact At.here | (refine At.inA ?_; assumption) | apply At.next)) rfl ?_
        refine o_mov rfl ?_
        refine o_fld fld_79_0 rfl rfl ?_
        refine o_fld fld_76_2 rfl rfl ?_
        refine wl_nil ?_
        refine wp_alt ?_ ?_
        · refine o_load lod_3 rfl (by repeat (first | exact At.here | (refine At.inA ?_; assumption) | apply At.next)) rfl ?_
          refine wl_nil ?_
          refine wp_take _ _ ?_
          refine o_lt rfl rfl ?_
          refine wl_nil ?_
          refine wp_alt ?_ ?_
          · refine o_storeW siz_79 rfl rfl rfl (by repeat (first | exact Upd.here | apply Upd.next)) rfl rfl ?_
            refine wl_nil ?_
            refine wp_take _ _ ?_
            refine o_asg rfl ?_
            refine wl_nil ?_
            refine wp_done ?_
            exact w_again ⟨(), trivial, (by repeat (first | exact Sub.nil _ | refine Sub.cons rfl ?_)), (Take.sub (by repeat (first | exact Take.nil | exact Take.all _ | (apply Take.cons; focus (repeat (first | exact Pick.here | apply Pick.next))))))⟩
          exact wp_stop
        refine wp_alt ?_ ?_
        · refine o_storeW siz_79 rfl rfl rfl (by repeat (first | exact Upd.here | apply Upd.next)) rfl rfl ?_
          refine wl_nil ?_
          refine wp_take _ _ ?_
          refine o_load lod_3 rfl (by repeat (first | exact At.here | (refine At.inA ?_; assumption) | apply At.next)) rfl ?_
          refine o_lt rfl rfl ?_
          refine o_asg rfl ?_
          refine wl_nil ?_
          refine wp_done ?_
          exact w_again ⟨(), trivial, (by repeat (first | exact Sub.nil _ | refine Sub.cons rfl ?_)), (Take.sub (by repeat (first | exact Take.nil | exact Take.all _ | (apply Take.cons; focus (repeat (first | exact Pick.here | apply Pick.next))))))⟩
        exact wp_stop
      rintro ⟨⟩ -
      have hlo := lost_of (turn_no (k := k) (x := x) (f := false) hc)
      exact w_ret (ret2w rfl lod_79 rfl (by repeat (first | exact At.here | (refine At.inA ?_; assumption) | apply At.next)) rfl rfl) ⟨by rw [hlo]; rfl, rfl⟩ (Take.sub (by repeat (first | exact Take.nil | exact Take.all _ | (apply Take.cons; focus (repeat (first | exact Pick.here | apply Pick.next))))))
  · refine w_seq ?_
    refine w_region rfl ?_
    refine o_box rfl (fun b6 => ?_)
    refine o_alloc zer_79 (fun b7 => ?_)
    refine o_asg rfl ?_
    refine w_nil ?_
    refine w_seq ?_
    refine w_region rfl ?_
    refine o_loadW lod_79 rfl (by repeat (first | exact At.here | (refine At.inA ?_; assumption) | apply At.next)) rfl ?_
    refine o_call (rw_Draw k x true hx) fn_46 rfl (by repeat (first | exact Take.nil | exact Take.all _ | (apply Take.cons; focus (repeat (first | exact Pick.here | apply Pick.next))))) ?_
    rintro v ho ⟨rfl, rfl⟩
    refine o_mov rfl ?_
    refine o_ext rfl rfl ?_
    refine o_ext rfl rfl ?_
    refine o_storeW siz_79 rfl rfl rfl (by repeat (first | exact Upd.here | apply Upd.next)) rfl rfl ?_
    refine o_asg rfl ?_
    refine w_nil ?_
    refine w_seq ?_
    refine w_seq ?_
    refine w_region rfl ?_
    refine o_fld fld_79_2 rfl rfl ?_
    refine o_load (v := .bool false) lod_4 rfl (by repeat (first | exact At.here | (refine At.inA ?_; assumption) | apply At.next)) rfl ?_
    refine o_mov rfl ?_
    refine o_no rfl rfl rfl ?_
    refine o_no rfl rfl rfl ?_
    refine o_no rfl rfl rfl ?_
    refine o_no rfl rfl rfl ?_
    refine o_no rfl rfl rfl ?_
    refine o_pick_f rfl rfl ?_
    refine w_nil ?_
    refine w_if_f rfl ?_
    refine w_seq ?_
    refine w_region rfl ?_
    refine o_fld fld_79_2 rfl rfl ?_
    refine o_load (v := .bool false) lod_4 rfl (by repeat (first | exact At.here | (refine At.inA ?_; assumption) | apply At.next)) rfl ?_
    refine o_not rfl ?_
    refine o_mov rfl ?_
    refine o_yes rfl rfl ?_
    refine o_mov rfl ?_
    refine o_yes rfl rfl ?_
    refine o_fld fld_79_0 rfl rfl ?_
    refine o_yes rfl rfl ?_
    refine o_fld fld_76_1 rfl rfl ?_
    refine o_yes rfl rfl ?_
    refine o_load lod_3 rfl (by repeat (first | exact At.here | (refine At.inA ?_; assumption) | apply At.next)) rfl ?_
    refine o_yes rfl rfl ?_
    refine o_lt_s rfl rfl (fun hc => ?_) (fun hc => ?_)
    · refine o_pick_t rfl rfl ?_
      refine w_nil ?_
      refine w_if_t rfl ?_
      refine w_region rfl ?_
      refine o_fld fld_79_2 rfl rfl ?_
      refine o_store siz_4 rfl rfl rfl (by repeat (first | exact Upd.here | apply Upd.next)) rfl (by simp) ?_
      refine w_nil ?_
      refine w_seq ?_
      refine w_region rfl ?_
      refine o_loadW lod_79 rfl (by repeat (first | exact At.here | (refine At.inA ?_; assumption) | apply At.next)) rfl ?_
      refine o_call (rw_Draw k (drawP x) false (drawP_in _)) fn_46 rfl (by repeat (first | exact Take.nil | exact Take.all _ | (apply Take.cons; focus (repeat (first | exact Pick.here | apply Pick.next))))) ?_
      rintro v ho ⟨rfl, rfl⟩
      refine o_mov rfl ?_
      refine o_ext rfl rfl ?_
      refine o_ext rfl rfl ?_
      refine o_storeW siz_79 rfl rfl rfl (by repeat (first | exact Upd.here | apply Upd.next)) rfl rfl ?_
      refine o_asg rfl ?_
      refine w_nil ?_
      refine w_seq ?_
      refine w_seq ?_
      refine w_region rfl ?_
      refine o_fld fld_79_2 rfl rfl ?_
      refine o_load (v := .bool true) lod_4 rfl (by repeat (first | exact At.here | (refine At.inA ?_; assumption) | apply At.next)) rfl ?_
      refine w_nil ?_
      refine w_if_t rfl ?_
      refine w_seq ?_
      refine w_cut_x (X := Unit) (fun _ => [(2, .pointer (some ⟨b7, 0, none⟩)), (3, .bool (decide (drawP (drawP x) / 65536 < k.fair)))]) (fun _ => [[(b7, .cells (rC k (drawP (drawP x), false)) 79 (0, 0))]]) (fun _ => True) ?_ ?_
      · refine w_plan (takes [0, 1, 2, 3] (.alt 4 (takes [5] (.alt 6 (takes [7] .done) .stop)) (.alt 6 (takes [4, 5, 7] .done) .stop))) mixed (by kernel_rfl) ?_
        refine wp_take _ _ ?_
        refine o_loadW lod_79 rfl (by repeat (first | exact At.here | (refine At.inA ?_; assumption) | apply At.next)) rfl ?_
        refine o_mov rfl ?_
        refine o_fld fld_79_0 rfl rfl ?_
        refine o_fld fld_76_2 rfl rfl ?_
        refine wl_nil ?_
        refine wp_alt ?_ ?_
        · refine o_load lod_3 rfl (by repeat (first | exact At.here | (refine At.inA ?_; assumption) | apply At.next)) rfl ?_
          refine wl_nil ?_
          refine wp_take _ _ ?_
          refine o_lt rfl rfl ?_
          refine wl_nil ?_
          refine wp_alt ?_ ?_
          · refine o_storeW siz_79 rfl rfl rfl (by repeat (first | exact Upd.here | apply Upd.next)) rfl rfl ?_
            refine wl_nil ?_
            refine wp_take _ _ ?_
            refine o_asg rfl ?_
            refine wl_nil ?_
            refine wp_done ?_
            exact w_again ⟨(), trivial, (by repeat (first | exact Sub.nil _ | refine Sub.cons rfl ?_)), (Take.sub (by repeat (first | exact Take.nil | exact Take.all _ | (apply Take.cons; focus (repeat (first | exact Pick.here | apply Pick.next))))))⟩
          exact wp_stop
        refine wp_alt ?_ ?_
        · refine o_storeW siz_79 rfl rfl rfl (by repeat (first | exact Upd.here | apply Upd.next)) rfl rfl ?_
          refine wl_nil ?_
          refine wp_take _ _ ?_
          refine o_load lod_3 rfl (by repeat (first | exact At.here | (refine At.inA ?_; assumption) | apply At.next)) rfl ?_
          refine o_lt rfl rfl ?_
          refine o_asg rfl ?_
          refine wl_nil ?_
          refine wp_done ?_
          exact w_again ⟨(), trivial, (by repeat (first | exact Sub.nil _ | refine Sub.cons rfl ?_)), (Take.sub (by repeat (first | exact Take.nil | exact Take.all _ | (apply Take.cons; focus (repeat (first | exact Pick.here | apply Pick.next))))))⟩
        exact wp_stop
      rintro ⟨⟩ -
      have hlo := lost_of (turn_yes (k := k) (x := x) (f := true) hc)
      exact w_ret (ret2w rfl lod_79 rfl (by repeat (first | exact At.here | (refine At.inA ?_; assumption) | apply At.next)) rfl rfl) ⟨by rw [hlo]; rfl, rfl⟩ (Take.sub (by repeat (first | exact Take.nil | exact Take.all _ | (apply Take.cons; focus (repeat (first | exact Pick.here | apply Pick.next))))))
    · refine o_pick_t rfl rfl ?_
      refine w_nil ?_
      refine w_if_f rfl ?_
      refine w_skip ?_
      refine w_seq ?_
      refine w_region rfl ?_
      refine o_loadW lod_79 rfl (by repeat (first | exact At.here | (refine At.inA ?_; assumption) | apply At.next)) rfl ?_
      refine o_call (rw_Draw k (drawP x) true (drawP_in _)) fn_46 rfl (by repeat (first | exact Take.nil | exact Take.all _ | (apply Take.cons; focus (repeat (first | exact Pick.here | apply Pick.next))))) ?_
      rintro v ho ⟨rfl, rfl⟩
      refine o_mov rfl ?_
      refine o_ext rfl rfl ?_
      refine o_ext rfl rfl ?_
      refine o_storeW siz_79 rfl rfl rfl (by repeat (first | exact Upd.here | apply Upd.next)) rfl rfl ?_
      refine o_asg rfl ?_
      refine w_nil ?_
      refine w_seq ?_
      refine w_seq ?_
      refine w_region rfl ?_
      refine o_fld fld_79_2 rfl rfl ?_
      refine o_load (v := .bool false) lod_4 rfl (by repeat (first | exact At.here | (refine At.inA ?_; assumption) | apply At.next)) rfl ?_
      refine w_nil ?_
      refine w_if_f rfl ?_
      refine w_skip ?_
      refine w_seq ?_
      refine w_cut_x (X := Unit) (fun _ => [(2, .pointer (some ⟨b7, 0, none⟩)), (3, .bool (decide (drawP (drawP x) / 65536 < k.foul)))]) (fun _ => [[(b7, .cells (rC k (drawP (drawP x), true)) 79 (0, 0))]]) (fun _ => True) ?_ ?_
      · refine w_plan (takes [0, 1, 2, 3] (.alt 4 (takes [5] (.alt 6 (takes [7] .done) .stop)) (.alt 6 (takes [4, 5, 7] .done) .stop))) mixed (by kernel_rfl) ?_
        refine wp_take _ _ ?_
        refine o_loadW lod_79 rfl (by repeat (first | exact At.here | (refine At.inA ?_; assumption) | apply At.next)) rfl ?_
        refine o_mov rfl ?_
        refine o_fld fld_79_0 rfl rfl ?_
        refine o_fld fld_76_3 rfl rfl ?_
        refine wl_nil ?_
        refine wp_alt ?_ ?_
        · refine o_load lod_3 rfl (by repeat (first | exact At.here | (refine At.inA ?_; assumption) | apply At.next)) rfl ?_
          refine wl_nil ?_
          refine wp_take _ _ ?_
          refine o_lt rfl rfl ?_
          refine wl_nil ?_
          refine wp_alt ?_ ?_
          · refine o_storeW siz_79 rfl rfl rfl (by repeat (first | exact Upd.here | apply Upd.next)) rfl rfl ?_
            refine wl_nil ?_
            refine wp_take _ _ ?_
            refine o_asg rfl ?_
            refine wl_nil ?_
            refine wp_done ?_
            exact w_again ⟨(), trivial, (by repeat (first | exact Sub.nil _ | refine Sub.cons rfl ?_)), (Take.sub (by repeat (first | exact Take.nil | exact Take.all _ | (apply Take.cons; focus (repeat (first | exact Pick.here | apply Pick.next))))))⟩
          exact wp_stop
        refine wp_alt ?_ ?_
        · refine o_storeW siz_79 rfl rfl rfl (by repeat (first | exact Upd.here | apply Upd.next)) rfl rfl ?_
          refine wl_nil ?_
          refine wp_take _ _ ?_
          refine o_load lod_3 rfl (by repeat (first | exact At.here | (refine At.inA ?_; assumption) | apply At.next)) rfl ?_
          refine o_lt rfl rfl ?_
          refine o_asg rfl ?_
          refine wl_nil ?_
          refine wp_done ?_
          exact w_again ⟨(), trivial, (by repeat (first | exact Sub.nil _ | refine Sub.cons rfl ?_)), (Take.sub (by repeat (first | exact Take.nil | exact Take.all _ | (apply Take.cons; focus (repeat (first | exact Pick.here | apply Pick.next))))))⟩
        exact wp_stop
      rintro ⟨⟩ -
      have hlo := lost_of (turn_no (k := k) (x := x) (f := true) hc)
      exact w_ret (ret2w rfl lod_79 rfl (by repeat (first | exact At.here | (refine At.inA ?_; assumption) | apply At.next)) rfl rfl) ⟨by rw [hlo]; rfl, rfl⟩ (Take.sub (by repeat (first | exact Take.nil | exact Take.all _ | (apply Take.cons; focus (repeat (first | exact Pick.here | apply Pick.next))))))

end Go.Proofs.YtmcopafdooejjaaDoor
