/- Contracts: rows of weather, a new weather, a tone, a storm, by the program. No condition but on the sizes. -/
import Derived.Test.YtmcopafdooejjaaDoorTy
import Derived.Test.YtmcopafdooejjaaDoorHg
import Derived.Test.YtmcopafdooejjaaDoorFy
import Derived.Test.YtmcopafdooejjaaDoorPv
namespace Go.Proofs.YtmcopafdooejjaaDoor
open Go.Eng
set_option linter.unusedVariables false
set_option linter.unusedSimpArgs false
set_option maxRecDepth 20000
attribute [local irreducible] WL WT
theorem w_Row {p : Nat} {T : TypeId} (k : SkyP) (s : Int × Bool) (m : Nat) (hs : 0 ≤ s.1 ∧ s.1 ≤ 4294967295) (hm : m ≤ 64) : Ctr Tryd.prog 41 [.pointer (some ⟨p, 0, none⟩), .int .i64 m] ([[(p, .cells (wC k s) T (0, 0))]]) (fun v ho => ∃ H, Own H v 40 4 m (slotsC (rowP k m s).2) ∧ ho = [H, [(p, .cells (wC k (rowP k m s).1) T (0, 0))]]) := by
  refine spec_of Tryd.func41 rfl rfl fun w0 L => ?_
  refine w_seq ?_
  refine w_region rfl ?_
  refine o_asg rfl ?_
  refine w_nil ?_
  refine w_seq ?_
  refine w_seq ?_
  refine w_region rfl ?_
  refine o_mov rfl ?_
  refine o_pnil Tryd.underlying94 rfl rfl ?_
  refine w_nil ?_
  refine w_if_f rfl ?_
  refine w_skip ?_
  refine w_seq ?_
  refine w_region rfl ?_
  refine o_asg rfl ?_
  refine w_nil ?_
  refine w_seq ?_
  refine w_seq ?_
  refine w_region rfl ?_
  refine o_mov rfl ?_
  refine o_max rfl rfl ?_
  refine o_min rfl rfl ?_
  rw [show (if (64 : Int) < (if (0 : Int) > (m : Int) then 0 else (m : Int)) then 64 else (if (0 : Int) > (m : Int) then 0 else (m : Int))) = (m : Int) from by rw [if_neg (show ¬ (0 : Int) > (m : Int) by omega), if_neg (by omega)]]
  refine o_mov rfl ?_
  refine w_nil ?_
  refine w_emp ?_
  refine w_block ?_
  refine w_loop (X := Nat × Value × Hp) (fun x => [(0, .pointer (some ⟨p, 0, none⟩)), (5, x.2.1), (11, .int .i64 m), (12, .int .i64 x.1)]) (fun x => [x.2.2, [(p, .cells (wC k (rowP k x.1 s).1) T (0, 0))]]) (fun x => x.1 ≤ m ∧ Own x.2.2 x.2.1 40 4 x.1 (slotsC (rowP k x.1 s).2)) (fun x => m - x.1) (0, .slice none 0 0, []) ⟨by simp, Own.nil _ _⟩ (by repeat (first | exact Sub.nil _ | refine Sub.cons rfl ?_)) (Take.sub (by repeat (first | exact Take.nil | exact Take.all _ | (apply Take.cons; focus (repeat (first | exact Pick.here | apply Pick.next)))))) ?_
  rintro ⟨i, u, H⟩ ⟨hi, hO⟩
  refine w_seq ?_
  refine w_region rfl ?_
  refine o_lt rfl rfl ?_
  refine w_nil ?_
  refine w_seq ?_
  refine w_if_d rfl (fun hlt => ?_) (fun hlt => ?_)
  · simp only at hi hO hlt ⊢
    have hin := rowP_in k hs i
    have hst := fun a b x y => rowP_step (k := k) (m := i) (s := s) (a := a) (b := b) (x := x) (y := y)
    obtain ⟨⟨x, f⟩, hs0⟩ : ∃ q, (rowP k i s).1 = q := ⟨_, rfl⟩
    rw [hs0] at hin hst ⊢
    obtain ⟨⟨⟨x1, f1⟩, y1⟩, hl1⟩ : ∃ q, lostP k (x, f) = q := ⟨_, rfl⟩
    have hin1 := lostP_in1 hl1
    obtain ⟨⟨⟨x2, f2⟩, y2⟩, hl2⟩ : ∃ q, lostP k (x1, f1) = q := ⟨_, rfl⟩
    obtain ⟨e1, e2⟩ := hst _ _ _ _ hl1 hl2
    have hb1 := bitP_in y1
    have hb2 := bitP_in y2
    refine w_skip ?_
    refine w_seq ?_
    refine w_block ?_
    refine w_seq ?_
    refine w_region rfl ?_
    refine o_mov rfl ?_
    refine o_call (w_Lost k x f hin) fn_61 rfl (by repeat (first | exact Take.nil | exact Take.all _ | (apply Take.cons; focus (repeat (first | exact Pick.here | apply Pick.next))))) ?_
    rintro v ho ⟨rfl, rfl⟩
    rw [hl1]
    refine o_call (w_bit y1) fn_60 rfl (by repeat (first | exact Take.nil | exact Take.all _ | (apply Take.cons; focus (repeat (first | exact Pick.here | apply Pick.next))))) ?_
    rintro v ho ⟨rfl, rfl⟩
    refine o_asg rfl ?_
    refine w_nil ?_
    refine w_region rfl ?_
    refine o_mov rfl ?_
    refine o_mov rfl ?_
    refine o_mov rfl ?_
    refine o_call (w_Lost k x1 f1 hin1) fn_61 rfl (by repeat (first | exact Take.nil | exact Take.all _ | (apply Take.cons; focus (repeat (first | exact Pick.here | apply Pick.next))))) ?_
    rintro v ho ⟨rfl, rfl⟩
    rw [hl2]
    refine o_call (w_bit y2) fn_60 rfl (by repeat (first | exact Take.nil | exact Take.all _ | (apply Take.cons; focus (repeat (first | exact Pick.here | apply Pick.next))))) ?_
    rintro v ho ⟨rfl, rfl⟩
    refine o_bld (c := #[.int .i64 (bitP y1), .int .i64 (bitP y2), .int .i64 0, .int .u32 0]) bld_40 rfl rfl ?_
    refine o_bslN [_] slc_35 zer_40 (Nat.le_of_ble_eq_true rfl) rfl rfl (fun b5 => ?_)
    refine o_appS [.int .i64 (bitP y1), .int .i64 (bitP y2), .int .i64 0, .int .u32 0] slc_35 zer_40 rfl rfl rfl hO (by repeat (first | exact Pick.here | apply Pick.next)) rfl (by repeat (first | exact Has.here | apply Has.next)) rfl (Nat.le_of_ble_eq_true rfl) (by simp only [maxLen]; omega) (by omega) (fun v2 H2 hO2 => ?_)
    refine o_asg rfl ?_
    refine w_nil ?_
    refine w_inB ?_
    refine w_region rfl ?_
    refine o_add rfl rfl (by first | exact IntWalk.i64_in _ (by omega) | rfl) ?_
    refine o_mov rfl ?_
    refine w_nil ?_
    exact w_again ⟨(i + 1, v2, H2), ⟨by simp only; omega, by simp only; rw [e2, slotsC_app]; exact hO2⟩, (by simp only; omega), (by repeat (first | exact Sub.nil _ | refine Sub.cons rfl ?_)), (by simp only; rw [e1]; exact Take.sub (by repeat (first | exact Take.nil | exact Take.all _ | (apply Take.cons; focus (repeat (first | exact Pick.here | apply Pick.next))))))⟩
  · simp only at hi hO hlt ⊢
    obtain rfl : i = m := by omega
    refine w_exit rfl ?_
    refine w_seq ?_
    refine w_region rfl ?_
    refine o_mov rfl ?_
    refine o_asg rfl ?_
    refine w_nil ?_
    exact w_ret (ret1 rfl rfl) ⟨H, hO, rfl⟩ (Take.sub (by repeat (first | exact Take.nil | exact Take.all _ | (apply Take.cons; focus (repeat (first | exact Pick.here | apply Pick.next))))))

theorem w_Check (k : SkyP) (hk : skyOk k) : Ctr Tryd.prog 59 [.agg (skyC k)] ([]) (fun v ho => v = .int .i64 0 ∧ ho = []) := by
  refine spec_of Tryd.func59 rfl rfl fun w0 L => ?_
  refine w_seq ?_
  refine w_region rfl ?_
  refine o_box rfl (fun b1 => ?_)
  refine o_asg rfl ?_
  refine w_nil ?_
  refine w_seq ?_
  refine w_seq ?_
  refine w_region rfl ?_
  refine o_fld fld_93_0 rfl rfl ?_
  refine o_load lod_3 rfl (by repeat (first | exact At.here | (refine At.inA ?_; assumption) | apply At.next)) rfl ?_
  refine o_fld fld_93_1 rfl rfl ?_
  refine o_load lod_3 rfl (by repeat (first | exact At.here | (refine At.inA ?_; assumption) | apply At.next)) rfl ?_
  refine o_fld fld_93_2 rfl rfl ?_
  refine o_load lod_3 rfl (by repeat (first | exact At.here | (refine At.inA ?_; assumption) | apply At.next)) rfl ?_
  refine o_fld fld_93_3 rfl rfl ?_
  refine o_load lod_3 rfl (by repeat (first | exact At.here | (refine At.inA ?_; assumption) | apply At.next)) rfl ?_
  refine o_bld (c := ints .i64 (skyL k)) bld_121 rfl rfl ?_
  refine o_mov rfl ?_
  refine w_nil ?_
  refine w_block ?_
  refine w_loop (X := Nat) (fun i => [(13, .agg (ints .i64 (skyL k))), (14, .int .i64 i)]) (fun _ => []) (fun i => i ≤ 4) (fun i => 4 - i) 0 (by omega) (by repeat (first | exact Sub.nil _ | refine Sub.cons rfl ?_)) (Take.sub (by repeat (first | exact Take.nil | exact Take.all _ | (apply Take.cons; focus (repeat (first | exact Pick.here | apply Pick.next)))))) ?_
  intro i hi
  refine w_seq ?_
  refine w_region rfl ?_
  refine o_lt rfl rfl ?_
  refine w_nil ?_
  refine w_seq ?_
  refine w_if_d rfl (fun hl => ?_) (fun hl => ?_)
  · have hb := skyL_in hk i
    refine w_skip ?_
    refine w_seq ?_
    refine w_block ?_
    refine w_seq ?_
    refine w_region rfl ?_
    refine o_idxV are_121 siz_3 lod_3 rfl rfl ⟨by omega, by omega⟩ (show (ints .i64 (skyL k))[((i : Int)).toNat]? = some (.int .i64 ((skyL k).getD i 0)) from ints_get (by simp [skyL]; omega)) ?_
    refine o_asg rfl ?_
    refine w_nil ?_
    refine w_seq ?_
    refine w_region rfl ?_
    refine o_mov rfl ?_
    refine o_lt_f rfl rfl (by omega) ?_
    refine o_mov rfl ?_
    refine o_yes rfl rfl ?_
    refine o_mov rfl ?_
    refine o_yes rfl rfl ?_
    refine o_gt_f rfl rfl (by omega) ?_
    refine o_pick_f rfl rfl ?_
    refine w_nil ?_
    refine w_if_f rfl ?_
    refine w_skip ?_
    refine w_inB ?_
    refine w_region rfl ?_
    refine o_add rfl rfl (by first | exact IntWalk.i64_in _ (by omega) | rfl) ?_
    refine o_mov rfl ?_
    refine w_nil ?_
    exact w_again ⟨(i + 1), (by omega), (by omega), (by repeat (first | exact Sub.nil _ | refine Sub.cons rfl ?_)), (Take.sub (by repeat (first | exact Take.nil | exact Take.all _ | (apply Take.cons; focus (repeat (first | exact Pick.here | apply Pick.next))))))⟩
  · refine w_exit rfl ?_
    refine w_seq ?_
    refine w_region rfl ?_
    refine o_asg rfl ?_
    refine w_nil ?_
    exact w_ret (ret1 rfl rfl) ⟨rfl, rfl⟩ (Take.sub (by repeat (first | exact Take.nil | exact Take.all _ | (apply Take.cons; focus (repeat (first | exact Pick.here | apply Pick.next))))))

theorem w_New (k : SkyP) (hk : skyOk k) (x : Int) : Ctr Tryd.prog 40 [.agg (skyC k), .int .u32 x] ([]) (fun v ho => ∃ b, v = .tuple #[.pointer (some ⟨b, 0, none⟩), .int .i64 0] ∧ ho = [[(b, .cells (wC k (x, false)) 110 (0, 0))]]) := by
  refine spec_of Tryd.func40 rfl rfl fun w0 L => ?_
  refine w_seq ?_
  refine w_region rfl ?_
  refine o_box rfl (fun b1 => ?_)
  refine o_asg rfl ?_
  refine o_asg rfl ?_
  refine w_nil ?_
  refine w_seq ?_
  refine w_seq ?_
  refine w_region rfl ?_
  refine o_loadW lod_93 rfl (by repeat (first | exact At.here | (refine At.inA ?_; assumption) | apply At.next)) rfl ?_
  refine o_call (w_Check k hk) fn_59 rfl (by repeat (first | exact Take.nil | exact Take.all _ | (apply Take.cons; focus (repeat (first | exact Pick.here | apply Pick.next))))) ?_
  rintro v ho ⟨rfl, rfl⟩
  refine o_asg rfl ?_
  refine w_nil ?_
  refine w_seq ?_
  refine w_region rfl ?_
  refine o_mov rfl ?_
  refine o_ne rfl rfl ?_
  refine w_nil ?_
  refine w_if_f rfl ?_
  refine w_skip ?_
  refine w_seq ?_
  refine w_region rfl ?_
  refine o_loadW lod_93 rfl (by repeat (first | exact At.here | (refine At.inA ?_; assumption) | apply At.next)) rfl ?_
  refine o_mov rfl ?_
  refine o_bld (c := wC k (x, false)) bld_110 rfl rfl ?_
  refine o_box rfl (fun b3 => ?_)
  refine o_asg rfl ?_
  refine o_asg rfl ?_
  refine w_nil ?_
  exact w_ret (ret2 rfl rfl rfl) ⟨_, rfl, rfl⟩ (Take.sub (by repeat (first | exact Take.nil | exact Take.all _ | (apply Take.cons; focus (repeat (first | exact Pick.here | apply Pick.next))))))

theorem rd_tone {p : Nat} {T : TypeId} {vw : Value} {Hw : Hp} {W : List (List UInt8)} (hw : RW Hw vw W) (hwl : ∀ w ∈ W, w.length ≤ 1000000) : Ctr Tryd.prog 18 [.pointer (some ⟨p, 0, none⟩)] ([[(p, .cells #[vw, .bool false] T (0, 0))], Hw]) (fun v ho => ∃ vw' W' bad' xs H, OwnI H v 54 .i16 xs ∧ RW Hw vw' W' ∧ Res (if numsOk W toneM ∧ num W toneM 2 ≠ 0 then some (toneL (num W toneM 0) (num W toneM 1) (num W toneM 2) (num W toneM 3).toNat) else none) bad' W' xs ∧ ho = [H, [(p, .cells #[vw', .bool bad'] T (0, 0))], Hw]) := by
  refine spec_of Tryd.func18 rfl rfl fun w0 L => ?_
  refine w_seq ?_
  refine w_region rfl ?_
  refine o_asg rfl ?_
  refine w_nil ?_
  refine w_seq ?_
  refine w_region rfl ?_
  refine o_mov rfl ?_
  refine o_call (rd_number hw (hd_len hwl) (most := 32767) (by omega)) fn_19 rfl (by repeat (first | exact Take.nil | exact Take.all _ | (apply Take.cons; focus (repeat (first | exact Pick.here | apply Pick.next))))) ?_
  rintro v ho ⟨vw0, rfl, hw0, rfl⟩
  have hg0 := numP_get (W.headD []) (show (0 : Int) ≤ 32767 by omega)
  obtain ⟨n0, hn0⟩ : ∃ n, (numP (W.headD []) 32767).getD 0 = n := ⟨_, rfl⟩
  obtain ⟨f0, hf0⟩ : ∃ f, (numP (W.headD []) 32767).isNone = f := ⟨_, rfl⟩
  rw [hn0] at hg0
  rw [hn0, hf0]
  refine o_mov rfl ?_
  refine o_call (rd_number hw0 (hd_len (tl_len hwl)) (most := 65535) (by omega)) fn_19 rfl (by repeat (first | exact Take.nil | exact Take.all _ | (apply Take.cons; focus (repeat (first | exact Pick.here | apply Pick.next))))) ?_
  rintro v ho ⟨vw1, rfl, hw1, rfl⟩
  have hg1 := numP_get (W.tail.headD []) (show (0 : Int) ≤ 65535 by omega)
  obtain ⟨n1, hn1⟩ : ∃ n, (numP (W.tail.headD []) 65535).getD 0 = n := ⟨_, rfl⟩
  obtain ⟨f1, hf1⟩ : ∃ f, (numP (W.tail.headD []) 65535).isNone = f := ⟨_, rfl⟩
  rw [hn1] at hg1
  rw [hn1, hf1]
  refine o_mov rfl ?_
  refine o_call (rd_number hw1 (hd_len (tl_len (tl_len hwl))) (most := 65535) (by omega)) fn_19 rfl (by repeat (first | exact Take.nil | exact Take.all _ | (apply Take.cons; focus (repeat (first | exact Pick.here | apply Pick.next))))) ?_
  rintro v ho ⟨vw2, rfl, hw2, rfl⟩
  have hg2 := numP_get (W.tail.tail.headD []) (show (0 : Int) ≤ 65535 by omega)
  obtain ⟨n2, hn2⟩ : ∃ n, (numP (W.tail.tail.headD []) 65535).getD 0 = n := ⟨_, rfl⟩
  obtain ⟨f2, hf2⟩ : ∃ f, (numP (W.tail.tail.headD []) 65535).isNone = f := ⟨_, rfl⟩
  rw [hn2] at hg2
  rw [hn2, hf2]
  refine o_mov rfl ?_
  refine o_call (rd_number hw2 (hd_len (tl_len (tl_len (tl_len hwl)))) (most := 4096) (by omega)) fn_19 rfl (by repeat (first | exact Take.nil | exact Take.all _ | (apply Take.cons; focus (repeat (first | exact Pick.here | apply Pick.next))))) ?_
  rintro v ho ⟨vw3, rfl, hw3, rfl⟩
  have hg3 := numP_get (W.tail.tail.tail.headD []) (show (0 : Int) ≤ 4096 by omega)
  obtain ⟨n3, hn3⟩ : ∃ n, (numP (W.tail.tail.tail.headD []) 4096).getD 0 = n := ⟨_, rfl⟩
  obtain ⟨f3, hf3⟩ : ∃ f, (numP (W.tail.tail.tail.headD []) 4096).isNone = f := ⟨_, rfl⟩
  rw [hn3] at hg3
  rw [hn3, hf3]
  refine o_asg rfl ?_
  refine o_asg rfl ?_
  refine o_asg rfl ?_
  refine o_asg rfl ?_
  refine w_nil ?_
  have hflag : numsF W toneM = ((((false || f0) || f1) || f2) || f3) := by rw [← hf0, ← hf1, ← hf2, ← hf3]; simp [numsF, toneM, Bool.or_assoc]
  have hok := numsF_ok toneM W
  obtain ⟨bf, hbf⟩ : ∃ b, ((((false || f0) || f1) || f2) || f3) = b := ⟨_, rfl⟩
  rw [hbf] at hflag ⊢
  cases bf
  · refine w_seq ?_
    refine w_seq ?_
    refine w_region rfl ?_
    refine o_mov rfl ?_
    refine o_nilc rfl ?_
    refine o_fld fld_46_1 rfl rfl ?_
    refine o_load (v := .bool false) lod_4 rfl (by repeat (first | exact At.here | (refine At.inA ?_; assumption) | apply At.next)) rfl ?_
    refine o_mov rfl ?_
    refine o_yes rfl rfl ?_
    refine o_mov rfl ?_
    refine o_yes rfl rfl ?_
    refine o_eq_s rfl rfl (fun hd0 => ?_) (fun hd0 => ?_)
    · refine o_pick_f rfl rfl ?_
      refine w_nil ?_
      refine w_if_t rfl ?_
      refine w_emp ?_
      refine w_seq ?_
      refine w_region rfl ?_
      refine o_mov rfl ?_
      refine o_nilc rfl ?_
      refine o_fld fld_46_1 rfl rfl ?_
      refine o_store siz_4 rfl rfl rfl (by repeat (first | exact Upd.here | apply Upd.next)) rfl (by simp) ?_
      refine w_nil ?_
      refine w_seq ?_
      refine w_region rfl ?_
      refine o_asg rfl ?_
      refine w_nil ?_
      exact w_ret (ret1 rfl rfl) ⟨vw3, _, true, [], [], OwnI.nil _ _, hw3, Res.bad (if_neg (fun h => h.2 (by rw [num_get h.1 (show 2 < toneM.length by decide)]; simp only [headD_get, getD_tail] at hn2; rw [show toneM.getD 2 0 = 65535 from rfl, hn2]; exact hd0))), rfl⟩ (Take.sub (by repeat (first | exact Take.nil | exact Take.all _ | (apply Take.cons; focus (repeat (first | exact Pick.here | apply Pick.next))))))
    · refine o_pick_f rfl rfl ?_
      refine w_nil ?_
      refine w_if_f rfl ?_
      obtain ⟨c, rfl⟩ : ∃ c : Nat, n3 = (c : Int) := ⟨n3.toNat, by omega⟩
      have htl := toneL_len n0 n1 n2 c
      refine w_skip ?_
      refine w_seq ?_
      refine w_region rfl ?_
      refine o_mov rfl ?_
      refine o_mks slc_33 zer_54 rfl rfl (by omega) (by omega) (by omega) (by omega) (fun b5 => ?_)
      rw [Int.toNat_natCast, show madeCells _ (c * 1) = ints .i16 (List.replicate c 0) from by rw [Nat.mul_one]; exact ints_made _ _]
      refine o_asg rfl ?_
      refine w_nil ?_
      refine w_seq ?_
      refine w_seq ?_
      refine w_region rfl ?_
      refine o_mov rfl ?_
      refine o_len slc_33 rfl ?_
      refine o_mov rfl ?_
      refine w_nil ?_
      refine w_block ?_
      refine w_loop (X := Nat) (fun i => [(0, .pointer (some ⟨p, 0, none⟩)), (3, .int .i64 n0), (4, .int .i64 n1), (5, .int .i64 n2), (7, .slice (some ⟨b5, 0, none⟩) c c), (33, .int .i64 c), (34, .int .i64 i)]) (fun i => [[(b5, .cells (ints .i16 ((toneL n0 n1 n2 c).take i ++ List.replicate (c - i) 0)) 54 (0, 0))], [(p, .cells #[vw3, .bool false] T (0, 0))], Hw]) (fun i => i ≤ c) (fun i => c - i) 0 (by omega) (by repeat (first | exact Sub.nil _ | refine Sub.cons rfl ?_)) (Take.sub (by repeat (first | exact Take.nil | exact Take.all _ | (apply Take.cons; focus (repeat (first | exact Pick.here | apply Pick.next)))))) ?_
      intro i hi
      refine w_seq ?_
      refine w_region rfl ?_
      refine o_lt rfl rfl ?_
      refine w_nil ?_
      refine w_seq ?_
      refine w_if_d rfl (fun hlt => ?_) (fun hlt => ?_)
      · have hp := mul32_in (a := (i : Int)) (b := n1) (by omega) (by omega)
        have hs := sin_in ((i : Int) * n1) (show 0 < n2 by omega)
        have ht := toneI_in (a := n0) (n := n1) (d := n2) (i := i) (by omega) (by omega)
        refine w_skip ?_
        refine w_seq ?_
        refine w_block ?_
        refine w_seq ?_
        refine w_region rfl ?_
        refine o_mov rfl ?_
        refine o_asg rfl ?_
        refine w_nil ?_
        refine w_seq ?_
        refine w_region rfl ?_
        refine o_mov rfl ?_
        refine o_mov rfl ?_
        refine o_mul (c := (i : Int) * n1) rfl rfl (IntWalk.i64_in _ (by omega)) ?_
        refine o_mov rfl ?_
        refine o_call (wave_Sine ((i : Int) * n1) n2 (by omega) (by omega)) fn_36 rfl (by repeat (first | exact Take.nil | exact Take.all _ | (apply Take.cons; focus (repeat (first | exact Pick.here | apply Pick.next))))) ?_
        rintro v ho ⟨rfl, rfl⟩
        refine o_mov rfl ?_
        refine o_ext rfl rfl ?_
        refine o_ext rfl rfl ?_
        refine o_asg rfl ?_
        refine o_asg rfl ?_
        refine w_nil ?_
        refine w_region rfl ?_
        refine o_mov rfl ?_
        refine o_mov rfl ?_
        refine o_mov rfl ?_
        refine o_conv int_21 (by rw [Tryd.underlying3]; rfl) rfl (by first | exact IntWalk.i32_in _ (by omega) | rfl) ?_
        refine o_mov rfl ?_
        refine o_call (fix_Mul15 n0 (sinI ((i : Int) * n1) n2) (by omega) (by omega)) fn_37 rfl (by repeat (first | exact Take.nil | exact Take.all _ | (apply Take.cons; focus (repeat (first | exact Pick.here | apply Pick.next))))) ?_
        rintro v ho ⟨rfl, rfl⟩
        rw [show clampI (roundI (n0 * sinI ((i : Int) * n1) n2) 15) (-2147483648) 2147483647 = toneI n0 n1 n2 i from rfl]
        refine o_conv int_54 (by rw [Tryd.underlying21]; rfl) rfl (by first | exact IntWalk.i16_in _ (by omega) | rfl) ?_
        rw [show toneI n0 n1 n2 i = (toneL n0 n1 n2 c).getD i 0 from (toneL_get (by omega)).symm]
        refine o_idx slc_33 (off := i) rfl rfl ⟨by omega, by omega⟩ (by simp) ?_
        refine o_storeI siz_54 rfl rfl (by repeat (first | exact Upd.here | apply Upd.next)) (by simp only [List.length_append, List.length_take, List.length_replicate]; omega) ?_
        refine w_nil ?_
        refine w_inB ?_
        refine w_region rfl ?_
        rw [fill_step htl (by omega)]
        refine o_add rfl rfl (by first | exact IntWalk.i64_in _ (by omega) | rfl) ?_
        refine o_mov rfl ?_
        refine w_nil ?_
        exact w_again ⟨(i + 1), (by omega), (by omega), (by repeat (first | exact Sub.nil _ | refine Sub.cons rfl ?_)), (Take.sub (by repeat (first | exact Take.nil | exact Take.all _ | (apply Take.cons; focus (repeat (first | exact Pick.here | apply Pick.next))))))⟩
      · obtain rfl : i = c := by omega
        rw [List.take_of_length_le (Nat.le_of_eq htl), Nat.sub_self, List.replicate_zero, List.append_nil]
        have hOut : OwnI [(b5, .cells (ints .i16 (toneL n0 n1 n2 i)) 54 (0, 0))] (.slice (some ⟨b5, 0, none⟩) i i) 54 .i16 (toneL n0 n1 n2 i) := by have := OwnI.mk_ (b := b5) (el := 54) (k := .i16) (xs := toneL n0 n1 n2 i) (by simp only [maxLen]; omega); rwa [htl] at this
        refine w_exit rfl ?_
        refine w_seq ?_
        refine w_region rfl ?_
        refine o_mov rfl ?_
        refine o_asg rfl ?_
        refine w_nil ?_
        exact w_ret (ret1 rfl rfl) ⟨vw3, _, false, _, _, hOut, hw3, toneRes hok hflag rfl hd0 (by simp only [headD_get, getD_tail] at hn0; exact hn0) (by simp only [headD_get, getD_tail] at hn1; exact hn1) (by simp only [headD_get, getD_tail] at hn2; exact hn2) (by simp only [headD_get, getD_tail] at hn3; exact hn3), rfl⟩ (Take.sub (by repeat (first | exact Take.nil | exact Take.all _ | (apply Take.cons; focus (repeat (first | exact Pick.here | apply Pick.next))))))
  · refine w_seq ?_
    refine w_seq ?_
    refine w_region rfl ?_
    refine o_mov rfl ?_
    refine o_nilc rfl ?_
    refine o_fld fld_46_1 rfl rfl ?_
    refine o_load (v := .bool true) lod_4 rfl (by repeat (first | exact At.here | (refine At.inA ?_; assumption) | apply At.next)) rfl ?_
    refine o_mov rfl ?_
    refine o_no rfl rfl rfl ?_
    refine o_no rfl rfl rfl ?_
    refine o_pick_t rfl rfl ?_
    refine w_nil ?_
    refine w_if_t rfl ?_
    refine w_emp ?_
    refine w_seq ?_
    refine w_region rfl ?_
    refine o_mov rfl ?_
    refine o_nilc rfl ?_
    refine o_fld fld_46_1 rfl rfl ?_
    refine o_store siz_4 rfl rfl rfl (by repeat (first | exact Upd.here | apply Upd.next)) rfl (by simp) ?_
    refine w_nil ?_
    refine w_seq ?_
    refine w_region rfl ?_
    refine o_asg rfl ?_
    refine w_nil ?_
    exact w_ret (ret1 rfl rfl) ⟨vw3, _, true, [], [], OwnI.nil _ _, hw3, Res.bad (if_neg (fun h => by have := (hok.1 h.1).1; rw [hflag] at this; cases this)), rfl⟩ (Take.sub (by repeat (first | exact Take.nil | exact Take.all _ | (apply Take.cons; focus (repeat (first | exact Pick.here | apply Pick.next))))))

theorem rd_storm {p : Nat} {T : TypeId} {vw : Value} {Hw : Hp} {W : List (List UInt8)} (hw : RW Hw vw W) (hwl : ∀ w ∈ W, w.length ≤ 1000000) : Ctr Tryd.prog 22 [.pointer (some ⟨p, 0, none⟩)] ([[(p, .cells #[vw, .bool false] T (0, 0))], Hw]) (fun v ho => ∃ vw' W' bad' L Ho Hi, SRows Ho Hi v 37 L ∧ RW Hw vw' W' ∧ Res (if numsOk W stormM then some (stormP ⟨num W stormM 1, num W stormM 2, num W stormM 3, num W stormM 4⟩ (num W stormM 6).toNat (num W stormM 5).toNat (num W stormM 0, false)).2 else none) bad' W' L ∧ L.length ≤ 64 ∧ ho = [Ho, Hi, [(p, .cells #[vw', .bool bad'] T (0, 0))], Hw]) := by
  refine spec_of Tryd.func22 rfl rfl fun w0 L => ?_
  refine w_seq ?_
  refine w_region rfl ?_
  refine o_asg rfl ?_
  refine w_nil ?_
  refine w_seq ?_
  refine w_region rfl ?_
  refine o_mov rfl ?_
  refine o_call (rd_number hw (hd_len hwl) (most := 4294967295) (by omega)) fn_19 rfl (by repeat (first | exact Take.nil | exact Take.all _ | (apply Take.cons; focus (repeat (first | exact Pick.here | apply Pick.next))))) ?_
  rintro v ho ⟨vw0, rfl, hw0, rfl⟩
  have hg0 := numP_get (W.headD []) (show (0 : Int) ≤ 4294967295 by omega)
  obtain ⟨n0, hn0⟩ : ∃ n, (numP (W.headD []) 4294967295).getD 0 = n := ⟨_, rfl⟩
  obtain ⟨f0, hf0⟩ : ∃ f, (numP (W.headD []) 4294967295).isNone = f := ⟨_, rfl⟩
  rw [hn0] at hg0
  rw [hn0, hf0]
  refine o_conv int_38 (by rw [Tryd.underlying3]; rfl) rfl (by first | exact IntWalk.u32_in _ (by omega) | rfl) ?_
  refine o_asg rfl ?_
  refine w_nil ?_
  refine w_seq ?_
  refine w_region rfl ?_
  refine o_mov rfl ?_
  refine o_call (rd_number hw0 (hd_len (tl_len hwl)) (most := 65536) (by omega)) fn_19 rfl (by repeat (first | exact Take.nil | exact Take.all _ | (apply Take.cons; focus (repeat (first | exact Pick.here | apply Pick.next))))) ?_
  rintro v ho ⟨vw1, rfl, hw1, rfl⟩
  have hg1 := numP_get (W.tail.headD []) (show (0 : Int) ≤ 65536 by omega)
  obtain ⟨n1, hn1⟩ : ∃ n, (numP (W.tail.headD []) 65536).getD 0 = n := ⟨_, rfl⟩
  obtain ⟨f1, hf1⟩ : ∃ f, (numP (W.tail.headD []) 65536).isNone = f := ⟨_, rfl⟩
  rw [hn1] at hg1
  rw [hn1, hf1]
  refine o_mov rfl ?_
  refine o_call (rd_number hw1 (hd_len (tl_len (tl_len hwl))) (most := 65536) (by omega)) fn_19 rfl (by repeat (first | exact Take.nil | exact Take.all _ | (apply Take.cons; focus (repeat (first | exact Pick.here | apply Pick.next))))) ?_
  rintro v ho ⟨vw2, rfl, hw2, rfl⟩
  have hg2 := numP_get (W.tail.tail.headD []) (show (0 : Int) ≤ 65536 by omega)
  obtain ⟨n2, hn2⟩ : ∃ n, (numP (W.tail.tail.headD []) 65536).getD 0 = n := ⟨_, rfl⟩
  obtain ⟨f2, hf2⟩ : ∃ f, (numP (W.tail.tail.headD []) 65536).isNone = f := ⟨_, rfl⟩
  rw [hn2] at hg2
  rw [hn2, hf2]
  refine o_mov rfl ?_
  refine o_call (rd_number hw2 (hd_len (tl_len (tl_len (tl_len hwl)))) (most := 65536) (by omega)) fn_19 rfl (by repeat (first | exact Take.nil | exact Take.all _ | (apply Take.cons; focus (repeat (first | exact Pick.here | apply Pick.next))))) ?_
  rintro v ho ⟨vw3, rfl, hw3, rfl⟩
  have hg3 := numP_get (W.tail.tail.tail.headD []) (show (0 : Int) ≤ 65536 by omega)
  obtain ⟨n3, hn3⟩ : ∃ n, (numP (W.tail.tail.tail.headD []) 65536).getD 0 = n := ⟨_, rfl⟩
  obtain ⟨f3, hf3⟩ : ∃ f, (numP (W.tail.tail.tail.headD []) 65536).isNone = f := ⟨_, rfl⟩
  rw [hn3] at hg3
  rw [hn3, hf3]
  refine o_mov rfl ?_
  refine o_call (rd_number hw3 (hd_len (tl_len (tl_len (tl_len (tl_len hwl))))) (most := 65536) (by omega)) fn_19 rfl (by repeat (first | exact Take.nil | exact Take.all _ | (apply Take.cons; focus (repeat (first | exact Pick.here | apply Pick.next))))) ?_
  rintro v ho ⟨vw4, rfl, hw4, rfl⟩
  have hg4 := numP_get (W.tail.tail.tail.tail.headD []) (show (0 : Int) ≤ 65536 by omega)
  obtain ⟨n4, hn4⟩ : ∃ n, (numP (W.tail.tail.tail.tail.headD []) 65536).getD 0 = n := ⟨_, rfl⟩
  obtain ⟨f4, hf4⟩ : ∃ f, (numP (W.tail.tail.tail.tail.headD []) 65536).isNone = f := ⟨_, rfl⟩
  rw [hn4] at hg4
  rw [hn4, hf4]
  refine o_bld (c := skyC ⟨n1, n2, n3, n4⟩) bld_93 rfl rfl ?_
  refine o_alloc zer_93 (fun b6 => ?_)
  refine o_storeW siz_93 rfl rfl rfl (by repeat (first | exact Upd.here | apply Upd.next)) rfl rfl ?_
  refine w_nil ?_
  refine w_seq ?_
  refine w_region rfl ?_
  refine o_mov rfl ?_
  refine o_call (rd_number hw4 (hd_len (tl_len (tl_len (tl_len (tl_len (tl_len hwl)))))) (most := 64) (by omega)) fn_19 rfl (by repeat (first | exact Take.nil | exact Take.all _ | (apply Take.cons; focus (repeat (first | exact Pick.here | apply Pick.next))))) ?_
  rintro v ho ⟨vw5, rfl, hw5, rfl⟩
  have hg5 := numP_get (W.tail.tail.tail.tail.tail.headD []) (show (0 : Int) ≤ 64 by omega)
  obtain ⟨n5, hn5⟩ : ∃ n, (numP (W.tail.tail.tail.tail.tail.headD []) 64).getD 0 = n := ⟨_, rfl⟩
  obtain ⟨f5, hf5⟩ : ∃ f, (numP (W.tail.tail.tail.tail.tail.headD []) 64).isNone = f := ⟨_, rfl⟩
  rw [hn5] at hg5
  rw [hn5, hf5]
  refine o_mov rfl ?_
  refine o_call (rd_number hw5 (hd_len (tl_len (tl_len (tl_len (tl_len (tl_len (tl_len hwl))))))) (most := 16) (by omega)) fn_19 rfl (by repeat (first | exact Take.nil | exact Take.all _ | (apply Take.cons; focus (repeat (first | exact Pick.here | apply Pick.next))))) ?_
  rintro v ho ⟨vw6, rfl, hw6, rfl⟩
  have hg6 := numP_get (W.tail.tail.tail.tail.tail.tail.headD []) (show (0 : Int) ≤ 16 by omega)
  obtain ⟨n6, hn6⟩ : ∃ n, (numP (W.tail.tail.tail.tail.tail.tail.headD []) 16).getD 0 = n := ⟨_, rfl⟩
  obtain ⟨f6, hf6⟩ : ∃ f, (numP (W.tail.tail.tail.tail.tail.tail.headD []) 16).isNone = f := ⟨_, rfl⟩
  rw [hn6] at hg6
  rw [hn6, hf6]
  refine o_asg rfl ?_
  refine o_asg rfl ?_
  refine w_nil ?_
  have hflag : numsF W stormM = (((((((false || f0) || f1) || f2) || f3) || f4) || f5) || f6) := by rw [← hf0, ← hf1, ← hf2, ← hf3, ← hf4, ← hf5, ← hf6]; simp [numsF, stormM, Bool.or_assoc]
  have hok := numsF_ok stormM W
  obtain ⟨bf, hbf⟩ : ∃ b, (((((((false || f0) || f1) || f2) || f3) || f4) || f5) || f6) = b := ⟨_, rfl⟩
  rw [hbf] at hflag ⊢
  refine w_seq ?_
  refine w_region rfl ?_
  refine o_loadW lod_93 rfl (by repeat (first | exact At.here | (refine At.inA ?_; assumption) | apply At.next)) rfl ?_
  refine o_mov rfl ?_
  refine o_call (w_New ⟨n1, n2, n3, n4⟩ ⟨hg1, hg2, hg3, hg4⟩ n0) fn_40 rfl (by repeat (first | exact Take.nil | exact Take.all _ | (apply Take.cons; focus (repeat (first | exact Pick.here | apply Pick.next))))) ?_
  rintro v ho ⟨bw, rfl, rfl⟩
  refine o_mov rfl ?_
  refine o_ext rfl rfl ?_
  refine o_ext rfl rfl ?_
  refine o_asg rfl ?_
  refine o_asg rfl ?_
  refine w_nil ?_
  cases bf
  · refine w_seq ?_
    refine w_seq ?_
    refine w_region rfl ?_
    refine o_mov rfl ?_
    refine o_nilc rfl ?_
    refine o_fld fld_46_1 rfl rfl ?_
    refine o_load (v := .bool false) lod_4 rfl (by repeat (first | exact At.here | (refine At.inA ?_; assumption) | apply At.next)) rfl ?_
    refine o_mov rfl ?_
    refine o_yes rfl rfl ?_
    refine o_mov rfl ?_
    refine o_yes rfl rfl ?_
    refine o_ne_f rfl rfl (by omega) ?_
    refine o_pick_f rfl rfl ?_
    refine w_nil ?_
    refine w_if_f rfl ?_
    obtain ⟨c, rfl⟩ : ∃ c : Nat, n5 = (c : Int) := ⟨n5.toNat, by omega⟩
    obtain ⟨d, rfl⟩ : ∃ d : Nat, n6 = (d : Int) := ⟨n6.toNat, by omega⟩
    refine w_emp ?_
    refine w_emp ?_
    refine w_skip ?_
    refine w_seq ?_
    refine w_region rfl ?_
    refine o_asg rfl ?_
    refine w_nil ?_
    refine w_seq ?_
    refine w_seq ?_
    refine w_region rfl ?_
    refine o_mov rfl ?_
    refine o_mov rfl ?_
    refine w_nil ?_
    refine w_block ?_
    refine w_loop (X := Nat × Value × Hp × Hp) (fun x => [(0, .pointer (some ⟨p, 0, none⟩)), (7, .pointer (some ⟨bw, 0, none⟩)), (6, .int .i64 d), (9, x.2.1), (43, .int .i64 c), (44, .int .i64 x.1)]) (fun x => [x.2.2.1, x.2.2.2, [(bw, .cells (wC ⟨n1, n2, n3, n4⟩ (stormP ⟨n1, n2, n3, n4⟩ d x.1 (n0, false)).1) 110 (0, 0))], [(p, .cells #[vw6, .bool false] T (0, 0))], Hw]) (fun x => x.1 ≤ c ∧ SRows x.2.2.1 x.2.2.2 x.2.1 37 (stormP ⟨n1, n2, n3, n4⟩ d x.1 (n0, false)).2) (fun x => c - x.1) (0, .slice none 0 0, [], []) ⟨by simp, SRows.nil _⟩ (by repeat (first | exact Sub.nil _ | refine Sub.cons rfl ?_)) (Take.sub (by repeat (first | exact Take.nil | exact Take.all _ | (apply Take.cons; focus (repeat (first | exact Pick.here | apply Pick.next)))))) ?_
    rintro ⟨i, u, Ho, Hi⟩ ⟨hi, hR⟩
    refine w_seq ?_
    refine w_region rfl ?_
    refine o_lt rfl rfl ?_
    refine w_nil ?_
    refine w_seq ?_
    refine w_if_d rfl (fun hlt => ?_) (fun hlt => ?_)
    · simp only at hi hR hlt ⊢
      have hsl := stormP_len ⟨n1, n2, n3, n4⟩ d (n0, false) i
      have hsin := stormP_in ⟨n1, n2, n3, n4⟩ d (s := (n0, false)) hg0 i
      obtain ⟨cs, hOw, hall, hst⟩ := hR
      have hcl := hOw.1
      refine w_skip ?_
      refine w_seq ?_
      refine w_block ?_
      refine w_region rfl ?_
      refine o_mov rfl ?_
      refine o_mov rfl ?_
      refine o_mov rfl ?_
      refine o_call (w_Row ⟨n1, n2, n3, n4⟩ (stormP ⟨n1, n2, n3, n4⟩ d i (n0, false)).1 d hsin (by omega)) fn_41 rfl (by repeat (first | exact Take.nil | exact Take.all _ | (apply Take.cons; focus (repeat (first | exact Pick.here | apply Pick.next))))) ?_
      rintro vr ho ⟨Hr, hr, rfl⟩
      have hrr := hr.rd
      obtain ⟨pr, cr, rfl, -⟩ := Rd.slice hrr
      refine o_bld (c := #[.int .i64 4, .int .i64 0, .slice none 0 0, .slice none 0 0, .slice none 0 0, .slice pr d cr]) bld_37 rfl rfl ?_
      refine o_bslN [_] slc_23 zer_37 (Nat.le_of_ble_eq_true rfl) rfl rfl (fun b11 => ?_)
      refine o_appS [.int .i64 4, .int .i64 0, .slice none 0 0, .slice none 0 0, .slice none 0 0, .slice pr d cr] slc_23 zer_37 rfl rfl rfl hOw (by repeat (first | exact Pick.here | apply Pick.next)) rfl (by repeat (first | exact Has.here | apply Has.next)) rfl (Nat.le_of_ble_eq_true rfl) (by simp only [maxLen]; omega) (by omega) (fun v2 H2 hO2 => ?_)
      refine o_asg rfl ?_
      refine w_nil ?_
      refine WT.sub (h' := Hr :: Hi :: H2 :: [(bw, .cells (wC ⟨n1, n2, n3, n4⟩ (rowP ⟨n1, n2, n3, n4⟩ d (stormP ⟨n1, n2, n3, n4⟩ d i (n0, false)).1).1) 110 (0, 0))] :: [(p, .cells #[vw6, .bool false] T (0, 0))] :: Hw :: []) ?_ (Sub.refl _) (Take.sub (by repeat (first | exact Take.nil | exact Take.all _ | (apply Take.cons; focus (repeat (first | exact Pick.here | apply Pick.next))))))
      refine w_merge ?_
      have hnew := SRows.push (s := ⟨4, 0, [], [], [], (rowP ⟨n1, n2, n3, n4⟩ d (stormP ⟨n1, n2, n3, n4⟩ d i (n0, false)).1).2⟩) hcl hO2 hall hst (Ints.none Hr _) (Ints.none Hr _) (Ints.none Hr _) (by rw [rowP_len]; exact hrr)
      refine w_inB ?_
      refine w_region rfl ?_
      refine o_add rfl rfl (by first | exact IntWalk.i64_in _ (by omega) | rfl) ?_
      refine o_mov rfl ?_
      refine w_nil ?_
      exact w_again ⟨(i + 1, v2, H2, Hr ++ Hi), ⟨by simp only; omega, hnew⟩, (by simp only; omega), (by repeat (first | exact Sub.nil _ | refine Sub.cons rfl ?_)), (Take.sub (by repeat (first | exact Take.nil | exact Take.all _ | (apply Take.cons; focus (repeat (first | exact Pick.here | apply Pick.next))))))⟩
    · simp only at hi hR hlt ⊢
      obtain rfl : i = c := by omega
      have hsl := stormP_len ⟨n1, n2, n3, n4⟩ d (n0, false) i
      refine w_exit rfl ?_
      refine w_seq ?_
      refine w_region rfl ?_
      refine o_mov rfl ?_
      refine o_asg rfl ?_
      refine w_nil ?_
      exact w_ret (ret1 rfl rfl) ⟨vw6, _, false, _, _, _, hR, hw6, stormRes hok hflag rfl (by simp only [headD_get, getD_tail] at hn0; exact hn0) (by simp only [headD_get, getD_tail] at hn1; exact hn1) (by simp only [headD_get, getD_tail] at hn2; exact hn2) (by simp only [headD_get, getD_tail] at hn3; exact hn3) (by simp only [headD_get, getD_tail] at hn4; exact hn4) (by simp only [headD_get, getD_tail] at hn5; exact hn5) (by simp only [headD_get, getD_tail] at hn6; exact hn6), (by rw [hsl]; omega), rfl⟩ (Take.sub (by repeat (first | exact Take.nil | exact Take.all _ | (apply Take.cons; focus (repeat (first | exact Pick.here | apply Pick.next))))))
  · refine w_seq ?_
    refine w_seq ?_
    refine w_region rfl ?_
    refine o_mov rfl ?_
    refine o_nilc rfl ?_
    refine o_fld fld_46_1 rfl rfl ?_
    refine o_load (v := .bool true) lod_4 rfl (by repeat (first | exact At.here | (refine At.inA ?_; assumption) | apply At.next)) rfl ?_
    refine o_mov rfl ?_
    refine o_no rfl rfl rfl ?_
    refine o_no rfl rfl rfl ?_
    refine o_pick_t rfl rfl ?_
    refine w_nil ?_
    refine w_if_t rfl ?_
    refine w_emp ?_
    refine w_emp ?_
    refine w_seq ?_
    refine w_region rfl ?_
    refine o_mov rfl ?_
    refine o_nilc rfl ?_
    refine o_fld fld_46_1 rfl rfl ?_
    refine o_store siz_4 rfl rfl rfl (by repeat (first | exact Upd.here | apply Upd.next)) rfl (by simp) ?_
    refine w_nil ?_
    refine w_seq ?_
    refine w_region rfl ?_
    refine o_asg rfl ?_
    refine w_nil ?_
    exact w_ret (ret1 rfl rfl) ⟨vw6, _, true, [], [], [], SRows.nil _, hw6, Res.bad (if_neg (fun h => by have := (hok.1 h).1; rw [hflag] at this; cases this)), (by simp), rfl⟩ (Take.sub (by repeat (first | exact Take.nil | exact Take.all _ | (apply Take.cons; focus (repeat (first | exact Pick.here | apply Pick.next))))))

end Go.Proofs.YtmcopafdooejjaaDoor
