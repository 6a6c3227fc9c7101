/- Contracts: waves of samples, by the document and by the program. No condition but on the sizes. -/
import Derived.Test.YtjmnidcfgkdhcaaTy
import Derived.Test.YtjmnidcfgkdhcaaGb
namespace Go.Proofs.Ytjmnidcfgkdhcaa
open Go.Eng
set_option linter.unusedVariables false
set_option linter.unusedSimpArgs false
set_option maxRecDepth 20000
attribute [local irreducible] WL WT
theorem ref_May (n : Int) : Ctr Try.prog 35 [.int .i64 n] ([]) (fun v ho => v = .bool (decide (n = 40 ∨ n = 60 ∨ n = 80 ∨ n = 120)) ∧ ho = []) := by
  refine spec_of Try.func35 rfl rfl fun w0 L => ?_
  refine w_seq ?_
  refine w_region rfl ?_
  refine o_asg rfl ?_
  refine w_nil ?_
  refine w_seq ?_
  refine w_region rfl ?_
  refine o_mov rfl ?_
  refine o_eq_s rfl rfl (fun h1 => ?_) (fun h1 => ?_)
  · refine o_mov rfl ?_
    refine o_no rfl rfl rfl ?_
    refine o_no rfl rfl rfl ?_
    refine o_pick_t rfl rfl ?_
    refine o_mov rfl ?_
    refine o_no rfl rfl rfl ?_
    refine o_no rfl rfl rfl ?_
    refine o_pick_t rfl rfl ?_
    refine o_mov rfl ?_
    refine o_no rfl rfl rfl ?_
    refine o_no rfl rfl rfl ?_
    refine o_pick_t rfl rfl ?_
    refine o_asg rfl ?_
    refine w_nil ?_
    exact w_ret (ret1 rfl rfl) ⟨by simp [h1], rfl⟩ (HSub.refl _)
  · refine o_mov rfl ?_
    refine o_yes rfl rfl ?_
    refine o_mov rfl ?_
    refine o_yes rfl rfl ?_
    refine o_eq_s rfl rfl (fun h2 => ?_) (fun h2 => ?_)
    · refine o_pick_f rfl rfl ?_
      refine o_mov rfl ?_
      refine o_no rfl rfl rfl ?_
      refine o_no rfl rfl rfl ?_
      refine o_pick_t rfl rfl ?_
      refine o_mov rfl ?_
      refine o_no rfl rfl rfl ?_
      refine o_no rfl rfl rfl ?_
      refine o_pick_t rfl rfl ?_
      refine o_asg rfl ?_
      refine w_nil ?_
      exact w_ret (ret1 rfl rfl) ⟨by simp [h2], rfl⟩ (HSub.refl _)
    · refine o_pick_f rfl rfl ?_
      refine o_mov rfl ?_
      refine o_yes rfl rfl ?_
      refine o_mov rfl ?_
      refine o_yes rfl rfl ?_
      refine o_eq_s rfl rfl (fun h3 => ?_) (fun h3 => ?_)
      · refine o_pick_f rfl rfl ?_
        refine o_mov rfl ?_
        refine o_no rfl rfl rfl ?_
        refine o_no rfl rfl rfl ?_
        refine o_pick_t rfl rfl ?_
        refine o_asg rfl ?_
        refine w_nil ?_
        exact w_ret (ret1 rfl rfl) ⟨by simp [h3], rfl⟩ (HSub.refl _)
      · refine o_pick_f rfl rfl ?_
        refine o_mov rfl ?_
        refine o_yes rfl rfl ?_
        refine o_mov rfl ?_
        refine o_yes rfl rfl ?_
        refine o_eq_s rfl rfl (fun h4 => ?_) (fun h4 => ?_)
        · refine o_pick_f rfl rfl ?_
          refine o_asg rfl ?_
          refine w_nil ?_
          exact w_ret (ret1 rfl rfl) ⟨by simp [h4], rfl⟩ (HSub.refl _)
        · refine o_pick_f rfl rfl ?_
          refine o_asg rfl ?_
          refine w_nil ?_
          exact w_ret (ret1 rfl rfl) ⟨by simp [h1, h2, h3, h4], rfl⟩ (HSub.refl _)

theorem getD_app1 {a b : List Int} {j : Nat} (h : j < a.length) : (a ++ b).getD j 0 = a.getD j 0 := by
  rw [List.getD_eq_getElem?_getD, List.getD_eq_getElem?_getD, List.getElem?_append_left h]
theorem getD_app2 {a b : List Int} {j : Nat} (h : a.length ≤ j) : (a ++ b).getD j 0 = b.getD (j - a.length) 0 := by
  rw [List.getD_eq_getElem?_getD, List.getD_eq_getElem?_getD, List.getElem?_append_right h]
theorem copy_all {k : IntKind} {a b : List Int} {n : Nat} (ha : a.length = n) (hb : b.length = n) : setN (ints k a) 0 ((b.map (Value.int k)).take (min n n)) = ints k b := by
  rw [Nat.min_self, List.take_of_length_le (by simp [hb]), setN_eq _ _ _ (by rw [ints_size]; simp [ha, hb])]
  apply Array.ext'
  simp [ints, ha, hb]

theorem ref_Window {n : Nat} (hn : n = 40 ∨ n = 60 ∨ n = 80 ∨ n = 120) : Ctr Try.prog 36 [.int .i64 n] ([]) (fun v ho => ∃ H, OwnI H v 35 .i16 (winL n) ∧ ho = [H]) := by
  refine spec_of Try.func36 rfl rfl fun w0 L => ?_
  refine w_seq ?_
  refine w_region rfl ?_
  refine o_asg rfl ?_
  refine w_nil ?_
  refine w_seq ?_
  refine w_region rfl ?_
  refine o_mov rfl ?_
  refine o_quo (c := ((n / 2 : Nat) : Int)) rfl rfl (by decide) (by rcases hn with rfl | rfl | rfl | rfl <;> rfl) ?_
  refine o_call (ref_Slope (n := n / 2) (by omega) (by omega)) fn_44 rfl (by repeat (first | exact Take.nil | exact Take.all _ | (apply Take.cons; focus (repeat (first | exact Pick.here | apply Pick.next))))) ?_
  rintro vs ho ⟨Hs, hOs, rfl⟩
  refine o_asg rfl ?_
  refine w_nil ?_
  refine w_seq ?_
  refine w_region rfl ?_
  refine o_mov rfl ?_
  refine o_mul rfl rfl (by first | exact IntWalk.i64_in _ (by omega) | rfl) ?_
  refine o_mks slc_26 zer_35 rfl rfl (by omega) (by omega) (by omega) (by omega) (fun b2 => ?_)
  rw [show (2 * (n : Int)).toNat = 2 * n by omega, show madeCells _ (2 * n * 1) = ints .i16 (List.replicate (2 * n) 0) from by rw [Nat.mul_one]; exact ints_made _ _, ← wstate_0]
  refine o_asg rfl ?_
  refine w_nil ?_
  refine w_seq ?_
  refine w_seq ?_
  refine w_region rfl ?_
  refine o_asg rfl ?_
  refine w_nil ?_
  refine w_block ?_
  refine w_loop (X := Nat) (fun i => [(0, .int .i64 n), (3, vs), (4, .slice (some ⟨b2, 0, none⟩) (2 * n) (2 * n)), (5, .int .i64 i)]) (fun i => [[(b2, .cells (ints .i16 (wstate n i)) 35 (0, 0))], Hs]) (fun i => i ≤ n) (fun i => n - i) 0 (by omega) (by repeat (first | exact Sub.nil _ | refine Sub.cons rfl ?_)) (Take.sub (by repeat (first | exact Take.nil | exact Take.all _ | (apply Take.cons; focus (repeat (first | exact Pick.here | apply Pick.next)))))) ?_
  intro i hi
  refine w_seq ?_
  refine w_seq ?_
  refine w_region rfl ?_
  refine o_mov rfl ?_
  refine o_mov rfl ?_
  refine o_lt rfl rfl ?_
  refine w_nil ?_
  refine w_if_d rfl (fun hl => ?_) (fun hl => ?_)
  · have hwl := wstate_len hn (show i ≤ n by omega)
    have hsl := slopeL_len (n / 2)
    refine w_skip ?_
    refine w_seq ?_
    refine w_block ?_
    refine w_seq ?_
    refine w_region rfl ?_
    refine o_asg rfl ?_
    refine w_nil ?_
    refine w_seq ?_
    refine w_seq ?_
    refine w_region rfl ?_
    refine o_mov rfl ?_
    refine o_mov rfl ?_
    refine o_quo (c := ((n / 4 : Nat) : Int)) rfl rfl (by decide) (by rcases hn with rfl | rfl | rfl | rfl <;> rfl) ?_
    refine o_lt rfl rfl ?_
    refine w_nil ?_
    refine w_cut_x (X := Int) (fun y => [(0, .int .i64 n), (3, vs), (4, .slice (some ⟨b2, 0, none⟩) (2 * n) (2 * n)), (5, .int .i64 i), (6, .int .i16 y)]) (fun _ => [[(b2, .cells (ints .i16 (wstate n i)) 35 (0, 0))], Hs]) (fun y => y = (halfL n).getD i 0) ?_ ?_
    · refine w_if_d rfl (fun h1 => ?_) (fun h1 => ?_)
      · refine w_region rfl ?_
        refine o_asg rfl ?_
        refine w_nil ?_
        exact w_again ⟨0, (by rw [halfL_get hn (by omega), if_pos (by omega)]), (by repeat (first | exact Sub.nil _ | refine Sub.cons rfl ?_)), (Take.sub (by repeat (first | exact Take.nil | exact Take.all _ | (apply Take.cons; focus (repeat (first | exact Pick.here | apply Pick.next))))))⟩
      · refine w_seq ?_
        refine w_region rfl ?_
        refine o_mov rfl ?_
        refine o_mov rfl ?_
        refine o_quo (c := ((n / 4 : Nat) : Int)) rfl rfl (by decide) (by rcases hn with rfl | rfl | rfl | rfl <;> rfl) ?_
        refine o_mov rfl ?_
        refine o_quo (c := ((n / 2 : Nat) : Int)) rfl rfl (by decide) (by rcases hn with rfl | rfl | rfl | rfl <;> rfl) ?_
        refine o_add rfl rfl (by first | exact IntWalk.i64_in _ (by omega) | rfl) ?_
        refine o_lt rfl rfl ?_
        refine w_nil ?_
        refine w_if_d rfl (fun h2 => ?_) (fun h2 => ?_)
        · refine w_region rfl ?_
          refine o_mov rfl ?_
          refine o_mov rfl ?_
          refine o_mov rfl ?_
          refine o_quo (c := ((n / 4 : Nat) : Int)) rfl rfl (by decide) (by rcases hn with rfl | rfl | rfl | rfl <;> rfl) ?_
          refine o_sub rfl rfl (by first | exact IntWalk.i64_in _ (by omega) | rfl) ?_
          refine o_idxI hOs.ints (by repeat (first | exact Has.here | apply Has.next)) slc_26 rfl rfl ⟨by omega, by omega⟩ (fun bb1 ff1 ar1 TT1 fr1 hm1 hg1 => ?_)
          rw [show ((i : Int) - ((n / 4 : Nat) : Int)).toNat = i - n / 4 by omega] at hg1
          refine o_load lod_35 rfl hm1 hg1 ?_
          refine o_asg rfl ?_
          refine w_nil ?_
          exact w_again ⟨((slopeL (n / 2)).getD (i - n / 4) 0), (by rw [halfL_get hn (by omega), if_neg (by omega), if_pos (by omega)]), (by repeat (first | exact Sub.nil _ | refine Sub.cons rfl ?_)), (Take.sub (by repeat (first | exact Take.nil | exact Take.all _ | (apply Take.cons; focus (repeat (first | exact Pick.here | apply Pick.next))))))⟩
        · refine w_skip ?_
          exact w_again ⟨32767, (by rw [halfL_get hn (by omega), if_neg (by omega), if_neg (by omega)]), (by repeat (first | exact Sub.nil _ | refine Sub.cons rfl ?_)), (Take.sub (by repeat (first | exact Take.nil | exact Take.all _ | (apply Take.cons; focus (repeat (first | exact Pick.here | apply Pick.next))))))⟩
    · intro y hy
      subst hy
      refine w_seq ?_
      refine w_region rfl ?_
      refine o_mov rfl ?_
      refine o_mov rfl ?_
      refine o_mov rfl ?_
      refine o_idx slc_26 (off := i) rfl rfl ⟨by omega, by omega⟩ (by omega) ?_
      refine o_storeI siz_35 rfl rfl (by repeat (first | exact Upd.here | apply Upd.next)) (by omega) ?_
      refine w_nil ?_
      refine w_region rfl ?_
      refine o_mov rfl ?_
      refine o_mov rfl ?_
      refine o_mul rfl rfl (by first | exact IntWalk.i64_in _ (by omega) | rfl) ?_
      refine o_sub rfl rfl (by first | exact IntWalk.i64_in _ (by omega) | rfl) ?_
      refine o_mov rfl ?_
      refine o_sub rfl rfl (by first | exact IntWalk.i64_in _ (by omega) | rfl) ?_
      refine o_mov rfl ?_
      refine o_idx slc_26 (off := 2 * n - 1 - i) rfl rfl ⟨by omega, by omega⟩ (by omega) ?_
      refine o_storeI siz_35 rfl rfl (by repeat (first | exact Upd.here | apply Upd.next)) (by rw [List.length_set]; omega) ?_
      refine w_nil ?_
      refine w_inB ?_
      refine w_region rfl ?_
      rw [wstate_step hn (by omega)]
      refine o_mov rfl ?_
      refine o_add rfl rfl (by first | exact IntWalk.i64_in _ (by omega) | rfl) ?_
      refine o_asg rfl ?_
      refine w_nil ?_
      exact w_again ⟨(i + 1), (by omega), (by omega), (by repeat (first | exact Sub.nil _ | refine Sub.cons rfl ?_)), (Take.sub (by repeat (first | exact Take.nil | exact Take.all _ | (apply Take.cons; focus (repeat (first | exact Pick.here | apply Pick.next))))))⟩
  · obtain rfl : i = n := by omega
    rw [wstate_end hn]
    have hO : OwnI [(b2, .cells (ints .i16 (winL i)) 35 (0, 0))] (.slice (some ⟨b2, 0, none⟩) (2 * i) (2 * i)) 35 .i16 (winL i) := by have := OwnI.mk_ (b := b2) (el := 35) (k := .i16) (xs := winL i) (by rw [winL_len hn]; simp only [maxLen]; omega); rwa [winL_len hn] at this
    refine w_exit rfl ?_
    refine w_seq ?_
    refine w_region rfl ?_
    refine o_mov rfl ?_
    refine o_asg rfl ?_
    refine w_nil ?_
    exact w_ret (ret1 rfl rfl) ⟨_, hO, rfl⟩ (Take.sub (by repeat (first | exact Take.nil | exact Take.all _ | (apply Take.cons; focus (repeat (first | exact Pick.here | apply Pick.next))))))

theorem ref_Waves {n : Nat} (hn : n = 40 ∨ n = 60 ∨ n = 80 ∨ n = 120) : Ctr Try.prog 62 [.int .i64 n] ([]) (fun v ho => ∃ H, OwnI H v 2 .i64 (turnL (8 * n)) ∧ ho = [H]) := by
  refine spec_of Try.func62 rfl rfl fun w0 L => ?_
  have htl := turnL_len (8 * n)
  refine w_emp ?_
  refine w_seq ?_
  refine w_region rfl ?_
  refine o_asg rfl ?_
  refine w_nil ?_
  refine w_seq ?_
  refine w_region rfl ?_
  refine o_asg rfl ?_
  refine w_nil ?_
  refine w_seq ?_
  refine w_seq ?_
  refine w_region rfl ?_
  refine o_asg rfl ?_
  refine w_nil ?_
  refine w_block ?_
  refine w_loop (X := Nat × Value × Hp) (fun x => [(0, .int .i64 n), (3, x.2.1), (4, .int .i64 x.1)]) (fun x => [x.2.2]) (fun x => x.1 ≤ 8 * n ∧ OwnI x.2.2 x.2.1 2 .i64 ((turnL (8 * n)).take x.1)) (fun x => 8 * n - x.1) (0, .slice none 0 0, []) ⟨by simp, OwnI.nil _ _⟩ (by repeat (first | exact Sub.nil _ | refine Sub.cons rfl ?_)) (Take.sub (by repeat (first | exact Take.nil | exact Take.all _ | (apply Take.cons; focus (repeat (first | exact Pick.here | apply Pick.next)))))) ?_
  rintro ⟨i, u, H⟩ ⟨hi, hO⟩
  refine w_seq ?_
  refine w_seq ?_
  refine w_region rfl ?_
  refine o_mov rfl ?_
  refine o_mov rfl ?_
  refine o_mul rfl rfl (by first | exact IntWalk.i64_in _ (by omega) | rfl) ?_
  refine o_lt rfl rfl ?_
  refine w_nil ?_
  refine w_if_d rfl (fun hl => ?_) (fun hl => ?_)
  · simp only at hi hO hl ⊢
    have htk : ((turnL (8 * n)).take i).length = i := by rw [List.length_take]; omega
    refine w_skip ?_
    refine w_seq ?_
    refine w_block ?_
    refine w_seq ?_
    refine w_region rfl ?_
    refine o_mov rfl ?_
    refine o_mov rfl ?_
    refine o_mul (c := ((8 * n : Nat) : Int)) rfl rfl (by rw [show (8 : Int) * n = ((8 * n : Nat) : Int) by omega]; exact IntWalk.i64_in _ (by omega)) ?_
    refine o_call (ref_Cosine _ _ (by omega) (by omega)) fn_79 rfl (by repeat (first | exact Take.nil | exact Take.all _ | (apply Take.cons; focus (repeat (first | exact Pick.here | apply Pick.next))))) ?_
    rintro v ho ⟨rfl, rfl⟩
    refine o_mov rfl ?_
    refine o_ext rfl rfl ?_
    refine o_ext rfl rfl ?_
    refine o_asg rfl ?_
    refine o_asg rfl ?_
    refine w_nil ?_
    refine w_region rfl ?_
    refine o_mov rfl ?_
    refine o_mov rfl ?_
    have hc := cos_in (i : Int) (show (0 : Int) < ((8 * n : Nat) : Int) by omega)
    refine o_conv int_2 (by rw [Try.underlying35]; rfl) rfl (by first | exact IntWalk.i64_in _ (by omega) | rfl) ?_
    rw [← turnL_get (show i < 8 * n by omega)]
    refine o_bslN [_] slc_71 zer_2 (Nat.le_of_ble_eq_true rfl) rfl rfl (fun b2 => ?_)
    refine o_app1 slc_71 zer_2 rfl rfl rfl hO (by repeat (first | exact Pick.here | apply Pick.next)) (by repeat (first | exact Has.here | apply Has.next)) (Nat.le_of_ble_eq_true rfl) (by simp only [maxLen]; omega) (by omega) (fun v' H' hO2 => ?_)
    refine o_asg rfl ?_
    refine w_nil ?_
    refine w_inB ?_
    refine w_region rfl ?_
    refine o_mov rfl ?_
    refine o_add rfl rfl (by first | exact IntWalk.i64_in _ (by omega) | rfl) ?_
    refine o_asg rfl ?_
    refine w_nil ?_
    exact w_again ⟨(i + 1, v', H'), ⟨by simp only; omega, by rw [← take_get_step (by omega)]; exact hO2⟩, (by simp only; omega), (by repeat (first | exact Sub.nil _ | refine Sub.cons rfl ?_)), (Take.sub (by repeat (first | exact Take.nil | exact Take.all _ | (apply Take.cons; focus (repeat (first | exact Pick.here | apply Pick.next))))))⟩
  · simp only at hi hO hl ⊢
    obtain rfl : i = 8 * n := by omega
    rw [List.take_of_length_le (Nat.le_of_eq htl)] at hO
    refine w_exit rfl ?_
    refine w_seq ?_
    refine w_region rfl ?_
    refine o_mov rfl ?_
    refine o_asg rfl ?_
    refine w_nil ?_
    exact w_ret (ret1 rfl rfl) ⟨H, hO, rfl⟩ (Take.sub (by repeat (first | exact Take.nil | exact Take.all _ | (apply Take.cons; focus (repeat (first | exact Pick.here | apply Pick.next))))))

theorem ref9_sat (n : Int) : Ctr Try.prog 63 [.int .i64 n] ([]) (fun v ho => v = .int .i64 (clampI n (-2147483648) 2147483647) ∧ ho = []) := by
  refine spec_of Try.func63 rfl rfl fun w0 L => ?_
  refine w_seq ?_
  refine w_region rfl ?_
  refine o_asg rfl ?_
  refine w_nil ?_
  refine w_seq ?_
  refine w_region rfl ?_
  refine o_mov rfl ?_
  refine o_call (ref_Sat32 _) fn_54 rfl (by repeat (first | exact Take.nil | exact Take.all _ | (apply Take.cons; focus (repeat (first | exact Pick.here | apply Pick.next))))) ?_
  rintro v ho ⟨rfl, rfl⟩
  refine o_asg rfl ?_
  refine w_nil ?_
  exact w_ret (ret1 rfl rfl) ⟨rfl, rfl⟩ (HSub.refl _)

theorem ref_Lap {n : Nat} (hn : n = 40 ∨ n = 60 ∨ n = 80 ∨ n = 120) {vo vx : Value} {old x : List Int} {Ao Ax : Hp} (ho : Ints Ao vo .i16 old) (hx : Ints Ax vx .i16 x) (hol : old.length = n) (hxl : x.length = n) (hoi : in16 old) (hxi : in16 x) : Ctr Try.prog 32 [vo, vx, .int .i64 n] ([Ao, Ax]) (fun v ho => ∃ H, OwnI H v 21 .i32 (lapL (old ++ x) n) ∧ ho = [H, Ao, Ax]) := by
  refine spec_of Try.func32 rfl rfl fun w0 L => ?_
  have hsi : in16 (old ++ x) := fun a ha => (List.mem_append.1 ha).elim (hoi a) (hxi a)
  have hll := lapL_len (old ++ x) n
  have hwl := winL_len hn
  refine w_emp ?_
  refine w_seq ?_
  refine w_region rfl ?_
  refine o_asg rfl ?_
  refine w_nil ?_
  refine w_seq ?_
  refine w_region rfl ?_
  refine o_mov rfl ?_
  refine o_call (ref_Window hn) fn_36 rfl (by repeat (first | exact Take.nil | exact Take.all _ | (apply Take.cons; focus (repeat (first | exact Pick.here | apply Pick.next))))) ?_
  rintro vw ho ⟨Hw, hOw, rfl⟩
  refine o_asg rfl ?_
  refine w_nil ?_
  refine w_seq ?_
  refine w_region rfl ?_
  refine o_mov rfl ?_
  refine o_call (ref_Waves hn) fn_62 rfl (by repeat (first | exact Take.nil | exact Take.all _ | (apply Take.cons; focus (repeat (first | exact Pick.here | apply Pick.next))))) ?_
  rintro vt ho ⟨Ht, hOt, rfl⟩
  refine o_asg rfl ?_
  refine w_nil ?_
  refine w_seq ?_
  refine w_region rfl ?_
  refine o_asg rfl ?_
  refine w_nil ?_
  refine w_seq ?_
  refine w_seq ?_
  refine w_region rfl ?_
  refine o_asg rfl ?_
  refine w_nil ?_
  refine w_block ?_
  refine w_loop (X := Nat × Value × Hp) (fun y => [(0, vo), (1, vx), (2, .int .i64 n), (7, vw), (8, vt), (9, y.2.1), (10, .int .i64 y.1)]) (fun y => [y.2.2, Ht, Hw, Ao, Ax]) (fun y => y.1 ≤ n ∧ OwnI y.2.2 y.2.1 21 .i32 ((lapL (old ++ x) n).take y.1)) (fun y => n - y.1) (0, .slice none 0 0, []) ⟨by simp, OwnI.nil _ _⟩ (by repeat (first | exact Sub.nil _ | refine Sub.cons rfl ?_)) (Take.sub (by repeat (first | exact Take.nil | exact Take.all _ | (apply Take.cons; focus (repeat (first | exact Pick.here | apply Pick.next)))))) ?_
  rintro ⟨k, u, H⟩ ⟨hk, hO⟩
  refine w_seq ?_
  refine w_seq ?_
  refine w_region rfl ?_
  refine o_mov rfl ?_
  refine o_mov rfl ?_
  refine o_lt rfl rfl ?_
  refine w_nil ?_
  refine w_if_d rfl (fun hkl => ?_) (fun hkl => ?_)
  · simp only at hk hO hkl ⊢
    have htk : ((lapL (old ++ x) n).take k).length = k := by rw [List.length_take]; omega
    refine w_skip ?_
    refine w_seq ?_
    refine w_block ?_
    refine w_seq ?_
    refine w_region rfl ?_
    refine o_asg rfl ?_
    refine w_nil ?_
    refine w_seq ?_
    refine w_seq ?_
    refine w_region rfl ?_
    refine o_asg rfl ?_
    refine w_nil ?_
    refine w_block ?_
    refine w_loop (X := Nat) (fun j => [(0, vo), (1, vx), (2, .int .i64 n), (7, vw), (8, vt), (9, u), (10, .int .i64 k), (11, .int .i64 (sumN (lapP (old ++ x) n k) j)), (12, .int .i64 j)]) (fun _ => [H, Ht, Hw, Ao, Ax]) (fun j => j ≤ 2 * n) (fun j => 2 * n - j) 0 (by omega) (by repeat (first | exact Sub.nil _ | refine Sub.cons rfl ?_)) (Take.sub (by repeat (first | exact Take.nil | exact Take.all _ | (apply Take.cons; focus (repeat (first | exact Pick.here | apply Pick.next)))))) ?_
    intro j hj
    refine w_seq ?_
    refine w_seq ?_
    refine w_region rfl ?_
    refine o_mov rfl ?_
    refine o_mov rfl ?_
    refine o_mul rfl rfl (by first | exact IntWalk.i64_in _ (by omega) | rfl) ?_
    refine o_lt rfl rfl ?_
    refine w_nil ?_
    refine w_if_d rfl (fun hjl => ?_) (fun hjl => ?_)
    · have hla := lap_arg hn (show j < 2 * n by omega) (show k < n by omega)
      have hix := lap_ix hn (show j < 2 * n by omega) (show k < n by omega)
      have hai := lapA_in hsi n j
      have hpi := lapP_in hsi hn k j
      have hsm := sumN_in (f := lapP (old ++ x) n k) (B := 1400000000) (by omega) j (fun q _ => lapP_in hsi hn k q)
      have hwi := (winL_in n).get j
      refine w_skip ?_
      refine w_seq ?_
      refine w_block ?_
      refine w_seq ?_
      refine w_region rfl ?_
      refine o_asg rfl ?_
      refine w_nil ?_
      refine w_seq ?_
      refine w_seq ?_
      refine w_region rfl ?_
      refine o_mov rfl ?_
      refine o_mov rfl ?_
      refine o_lt rfl rfl ?_
      refine w_nil ?_
      refine w_cut_x (X := Int) (fun y => [(0, vo), (1, vx), (2, .int .i64 n), (7, vw), (8, vt), (9, u), (10, .int .i64 k), (11, .int .i64 (sumN (lapP (old ++ x) n k) j)), (12, .int .i64 j), (13, .int .i64 y)]) (fun _ => [H, Ht, Hw, Ao, Ax]) (fun y => y = (old ++ x).getD j 0) ?_ ?_
      · refine w_if_d rfl (fun hjn => ?_) (fun hjn => ?_)
        · refine w_region rfl ?_
          refine o_mov rfl ?_
          refine o_mov rfl ?_
          refine o_idxI ho (by repeat (first | exact Has.here | apply Has.next)) slc_26 rfl rfl ⟨by omega, by omega⟩ (fun bb1 ff1 ar1 TT1 fr1 hm1 hg1 => ?_)
          rw [Int.toNat_natCast] at hg1
          refine o_load lod_35 rfl hm1 hg1 ?_
          have hb := hoi.get j
          refine o_conv int_2 (by rw [Try.underlying35]; rfl) rfl (by first | exact IntWalk.i64_in _ (by omega) | rfl) ?_
          refine o_asg rfl ?_
          refine w_nil ?_
          exact w_again ⟨(old.getD j 0), (by rw [getD_app1 (by omega)]), (by repeat (first | exact Sub.nil _ | refine Sub.cons rfl ?_)), (Take.sub (by repeat (first | exact Take.nil | exact Take.all _ | (apply Take.cons; focus (repeat (first | exact Pick.here | apply Pick.next))))))⟩
        · refine w_region rfl ?_
          refine o_mov rfl ?_
          refine o_mov rfl ?_
          refine o_mov rfl ?_
          refine o_sub rfl rfl (by first | exact IntWalk.i64_in _ (by omega) | rfl) ?_
          refine o_idxI hx (by repeat (first | exact Has.here | apply Has.next)) slc_26 rfl rfl ⟨by omega, by omega⟩ (fun bb1 ff1 ar1 TT1 fr1 hm1 hg1 => ?_)
          rw [show ((j : Int) - n).toNat = j - n by omega] at hg1
          refine o_load lod_35 rfl hm1 hg1 ?_
          have hb := hxi.get (j - n)
          refine o_conv int_2 (by rw [Try.underlying35]; rfl) rfl (by first | exact IntWalk.i64_in _ (by omega) | rfl) ?_
          refine o_asg rfl ?_
          refine w_nil ?_
          exact w_again ⟨(x.getD (j - n) 0), (by rw [getD_app2 (by omega), hol]), (by repeat (first | exact Sub.nil _ | refine Sub.cons rfl ?_)), (Take.sub (by repeat (first | exact Take.nil | exact Take.all _ | (apply Take.cons; focus (repeat (first | exact Pick.here | apply Pick.next))))))⟩
      · intro y hy
        subst hy
        refine w_seq ?_
        refine w_region rfl ?_
        refine o_mov rfl ?_
        refine o_mov rfl ?_
        refine o_mov rfl ?_
        refine o_idxI hOw.ints (by repeat (first | exact Has.here | apply Has.next)) slc_26 rfl rfl ⟨by omega, by omega⟩ (fun bb1 ff1 ar1 TT1 fr1 hm1 hg1 => ?_)
        rw [Int.toNat_natCast] at hg1
        refine o_load lod_35 rfl hm1 hg1 ?_
        refine o_conv int_2 (by rw [Try.underlying35]; rfl) rfl (by first | exact IntWalk.i64_in _ (by omega) | rfl) ?_
        refine o_mul (c := (old ++ x).getD j 0 * (winL n).getD j 0) rfl rfl (IntWalk.i64_in _ (by omega)) ?_
        refine o_call (ref_Round _ _ (by omega)) fn_55 rfl (by repeat (first | exact Take.nil | exact Take.all _ | (apply Take.cons; focus (repeat (first | exact Pick.here | apply Pick.next))))) ?_
        rintro v ho ⟨rfl, rfl⟩
        refine o_asg rfl ?_
        refine w_nil ?_
        refine w_region rfl ?_
        refine o_mov rfl ?_
        refine o_mov rfl ?_
        refine o_mov rfl ?_
        refine o_mov rfl ?_
        refine o_mul rfl rfl (by first | exact IntWalk.i64_in _ (by omega) | rfl) ?_
        refine o_add rfl rfl (by first | exact IntWalk.i64_in _ (by omega) | rfl) ?_
        refine o_mov rfl ?_
        refine o_add rfl rfl (by first | exact IntWalk.i64_in _ (by omega) | rfl) ?_
        refine o_mov rfl ?_
        refine o_mul rfl rfl (by first | exact IntWalk.i64_in _ (by omega) | rfl) ?_
        refine o_add rfl rfl (by first | exact IntWalk.i64_in _ (by omega) | rfl) ?_
        refine o_mul rfl rfl (by first | exact IntWalk.i64_in _ (by omega) | rfl) ?_
        refine o_mov rfl ?_
        refine o_mul rfl rfl (by first | exact IntWalk.i64_in _ (by omega) | rfl) ?_
        refine o_rem rfl rfl (by omega) (IntWalk.rem_in _ _ (by omega)) ?_
        refine o_idxI hOt.ints (by repeat (first | exact Has.here | apply Has.next)) slc_71 rfl rfl hix.2 (fun bb2 ff2 ar2 TT2 fr2 hm2 hg2 => ?_)
        rw [hix.1] at hg2
        refine o_load lod_2 rfl hm2 hg2 ?_
        refine o_mul (c := lapP (old ++ x) n k j) rfl rfl (IntWalk.i64_in (lapP (old ++ x) n k j) (by omega)) ?_
        refine o_add rfl rfl (by first | exact IntWalk.i64_in _ (by omega) | rfl) ?_
        refine o_asg rfl ?_
        refine w_nil ?_
        refine w_inB ?_
        refine w_region rfl ?_
        refine o_mov rfl ?_
        refine o_add rfl rfl (by first | exact IntWalk.i64_in _ (by omega) | rfl) ?_
        refine o_asg rfl ?_
        refine w_nil ?_
        exact w_again ⟨(j + 1), (by omega), (by omega), (by repeat (first | exact Sub.nil _ | refine Sub.cons rfl ?_)), (Take.sub (by repeat (first | exact Take.nil | exact Take.all _ | (apply Take.cons; focus (repeat (first | exact Pick.here | apply Pick.next))))))⟩
    · obtain rfl : j = 2 * n := by omega
      have hsm := sumN_in (f := lapP (old ++ x) n k) (B := 1400000000) (by omega) (2 * n) (fun q _ => lapP_in hsi hn k q)
      have hrs := rsat_in (sumN (lapP (old ++ x) n k) (2 * n)) 15
      refine w_exit rfl ?_
      refine w_region rfl ?_
      refine o_mov rfl ?_
      refine o_mov rfl ?_
      refine o_call (ref_Round _ _ (by omega)) fn_55 rfl (by repeat (first | exact Take.nil | exact Take.all _ | (apply Take.cons; focus (repeat (first | exact Pick.here | apply Pick.next))))) ?_
      rintro v ho ⟨rfl, rfl⟩
      refine o_call (ref9_sat _) fn_63 rfl (by repeat (first | exact Take.nil | exact Take.all _ | (apply Take.cons; focus (repeat (first | exact Pick.here | apply Pick.next))))) ?_
      rintro v ho ⟨rfl, rfl⟩
      change WL _ _ _ _ _ ((75, .int .i64 (rsat (sumN (lapP (old ++ x) n k) (2 * n)) 15)) :: _) _
      refine o_conv int_21 (by rw [Try.underlying2]; rfl) rfl (by first | exact IntWalk.i32_in _ (by omega) | rfl) ?_
      rw [show rsat (sumN (lapP (old ++ x) n k) (2 * n)) 15 = (lapL (old ++ x) n).getD k 0 by rw [lapL_get (by omega)]; rfl]
      refine o_bslN [_] slc_43 zer_21 (Nat.le_of_ble_eq_true rfl) rfl rfl (fun b6 => ?_)
      refine o_app1 slc_43 zer_21 rfl rfl rfl hO (by repeat (first | exact Pick.here | apply Pick.next)) (by repeat (first | exact Has.here | apply Has.next)) (Nat.le_of_ble_eq_true rfl) (by simp only [maxLen]; omega) (by omega) (fun v' H' hO2 => ?_)
      refine o_asg rfl ?_
      refine w_nil ?_
      refine w_inB ?_
      refine w_region rfl ?_
      refine o_mov rfl ?_
      refine o_add rfl rfl (by first | exact IntWalk.i64_in _ (by omega) | rfl) ?_
      refine o_asg rfl ?_
      refine w_nil ?_
      exact w_again ⟨(k + 1, v', H'), ⟨by simp only; omega, by rw [← take_get_step (by omega)]; exact hO2⟩, (by simp only; omega), (by repeat (first | exact Sub.nil _ | refine Sub.cons rfl ?_)), (Take.sub (by repeat (first | exact Take.nil | exact Take.all _ | (apply Take.cons; focus (repeat (first | exact Pick.here | apply Pick.next))))))⟩
  · simp only at hk hO hkl ⊢
    obtain rfl : k = n := by omega
    rw [List.take_of_length_le (Nat.le_of_eq hll)] at hO
    refine w_exit rfl ?_
    refine w_seq ?_
    refine w_region rfl ?_
    refine o_mov rfl ?_
    refine o_asg rfl ?_
    refine w_nil ?_
    exact w_ret (ret1 rfl rfl) ⟨H, hO, rfl⟩ (Take.sub (by repeat (first | exact Take.nil | exact Take.all _ | (apply Take.cons; focus (repeat (first | exact Pick.here | apply Pick.next))))))

theorem lapper_Feed {n : Nat} (hn : n = 40 ∨ n = 60 ∨ n = 80 ∨ n = 120) {p bx : Nat} {T : TypeId} {wv tv : Value} {H1 H2 Ax : Hp} (h1 : Ints H1 wv .i16 (winL n)) (h2 : Ints H2 tv .i16 (turnL (8 * n))) {last x : List Int} (hll : last.length = n) (hli : in16 last) {xv : Value} (hx : Ints Ax xv .i16 x) (hxl : x.length = n) (hxi : in16 x) : Ctr Try.prog 31 [.pointer (some ⟨p, 0, none⟩), xv] ([[(p, .cells #[.int .i64 n, wv, tv, .slice (some ⟨bx, 0, none⟩) n n] T (0, 0))], [(bx, .cells (ints .i16 (last)) 35 (0, 0))], H1, H2, Ax]) (fun v ho => ∃ v1 H', v = .tuple #[v1, .int .i64 0] ∧ OwnI H' v1 21 .i32 (lapL (last ++ x) n) ∧ ho = [H', [(p, .cells #[.int .i64 n, wv, tv, .slice (some ⟨bx, 0, none⟩) n n] T (0, 0))], [(bx, .cells (ints .i16 (x)) 35 (0, 0))], H1, H2, Ax]) := by
  obtain ⟨px, cx, rfl, -⟩ := Rd.slice hx
  refine spec_of Try.func31 rfl rfl fun w0 L => ?_
  refine w_seq ?_
  refine w_region rfl ?_
  refine o_asg rfl ?_
  refine o_asg rfl ?_
  refine w_nil ?_
  refine w_seq ?_
  refine w_block ?_
  refine w_seq ?_
  refine w_region rfl ?_
  refine o_mov rfl ?_
  refine o_pnil Try.underlying59 rfl rfl ?_
  refine o_asg rfl ?_
  refine w_nil ?_
  refine w_if_f rfl ?_
  refine w_seq ?_
  refine w_region rfl ?_
  refine o_mov rfl ?_
  refine o_lenI hx slc_26 rfl ?_
  refine o_mov rfl ?_
  refine o_nilc rfl ?_
  refine o_fld fld_119_0 rfl rfl ?_
  refine o_fld fld_115_0 rfl rfl ?_
  refine o_load lod_3 rfl (by repeat (first | exact At.here | (refine At.inA ?_; assumption) | apply At.next)) rfl ?_
  refine o_ne_f rfl rfl (by omega) ?_
  refine o_asg rfl ?_
  refine w_nil ?_
  refine w_if_f rfl ?_
  have hsi : in16 (last ++ x) := fun a ha => (List.mem_append.1 ha).elim (hli a) (hxi a)
  have hal := aL_len (last ++ x) n
  have hlp := lapL_len (last ++ x) n
  have hlast : Ints [(bx, .cells (ints .i16 (last)) 35 (0, 0))] (.slice (some ⟨bx, 0, none⟩) n n) .i16 last := by have := (OwnI.mk_ (b := bx) (el := 35) (k := .i16) (xs := last) (by simp only [maxLen]; omega)).ints; rwa [hll] at this
  have hsl : (last ++ x).length = 2 * n := by rw [List.length_append]; omega
  refine w_skip ?_
  refine w_inB ?_
  refine w_seq ?_
  refine w_region rfl ?_
  refine o_mov rfl ?_
  refine o_nilc rfl ?_
  refine o_fld fld_119_0 rfl rfl ?_
  refine o_fld fld_115_0 rfl rfl ?_
  refine o_load lod_3 rfl (by repeat (first | exact At.here | (refine At.inA ?_; assumption) | apply At.next)) rfl ?_
  refine o_mul rfl rfl (by first | exact IntWalk.i64_in _ (by omega) | rfl) ?_
  refine o_mks slc_71 zer_2 rfl rfl (by omega) (by omega) (by omega) (by omega) (fun b1 => ?_)
  rw [show (0 : Int).toNat = 0 from rfl, show (2 * (n : Int)).toNat = 2 * n by omega, show madeCells _ (2 * n * 1) = ints .i64 (List.replicate (2 * n) 0) from by rw [Nat.mul_one]; exact ints_made _ _]
  refine o_asg rfl ?_
  refine w_nil ?_
  refine w_seq ?_
  refine w_seq ?_
  refine w_region rfl ?_
  have hA0 : OwnI [(b1, .cells (ints .i64 (List.replicate (2 * n) 0)) 2 (0, 0))] (.slice (some ⟨b1, 0, none⟩) 0 (2 * n)) 2 .i64 ((aL (last ++ x) n).take 0) := OwnI.spare (Nat.zero_le _) (by omega)
  refine o_mov rfl ?_
  refine o_nilc rfl ?_
  refine o_fld fld_119_1 rfl rfl ?_
  refine o_load lod_26 rfl (by repeat (first | exact At.here | (refine At.inA ?_; assumption) | apply At.next)) rfl ?_
  refine o_mov rfl ?_
  refine o_bslN [_, _] slc_41 zer_26 (Nat.le_of_ble_eq_true rfl) rfl rfl (fun b2 => ?_)
  refine o_call (concat_i16 hlast hx (by omega)) fn_58 rfl (by repeat (first | exact Take.nil | exact Take.all _ | (apply Take.cons; focus (repeat (first | exact Pick.here | apply Pick.next))))) ?_
  rintro vc ho ⟨Hc, hOc, rfl⟩
  refine o_lenI hOc.ints slc_26 rfl ?_
  refine o_mov rfl ?_
  refine w_nil ?_
  refine w_block ?_
  refine w_loop (X := Nat × Value × Hp) (fun y => [(0, .pointer (some ⟨p, 0, none⟩)), (1, .slice px x.length cx), (39, vc), (40, .int .i64 (last ++ x).length), (41, .int .i64 y.1), (6, y.2.1)]) (fun y => [y.2.2, Hc, [(p, .cells #[.int .i64 n, wv, tv, .slice (some ⟨bx, 0, none⟩) n n] T (0, 0))], [(bx, .cells (ints .i16 (last)) 35 (0, 0))], H1, H2, Ax]) (fun y => y.1 ≤ 2 * n ∧ OwnI y.2.2 y.2.1 2 .i64 ((aL (last ++ x) n).take y.1)) (fun y => 2 * n - y.1) (0, .slice (some ⟨b1, 0, none⟩) 0 (2 * n), [(b1, .cells (ints .i64 (List.replicate (2 * n) 0)) 2 (0, 0))]) ⟨by simp, hA0⟩ (by repeat (first | exact Sub.nil _ | refine Sub.cons rfl ?_)) (Take.sub (by repeat (first | exact Take.nil | exact Take.all _ | (apply Take.cons; focus (repeat (first | exact Pick.here | apply Pick.next)))))) ?_
  rintro ⟨j, ua, Ha⟩ ⟨hj, hA⟩
  refine w_seq ?_
  refine w_region rfl ?_
  refine o_lt rfl rfl ?_
  refine w_nil ?_
  refine w_seq ?_
  refine w_if_d rfl (fun hjl => ?_) (fun hjl => ?_)
  · simp only at hj hA hjl ⊢
    have htk : ((aL (last ++ x) n).take j).length = j := by rw [List.length_take]; omega
    refine w_skip ?_
    refine w_seq ?_
    refine w_block ?_
    refine w_seq ?_
    refine w_region rfl ?_
    refine o_mov rfl ?_
    refine o_idxI hOc.ints (by repeat (first | exact Has.here | apply Has.next)) slc_26 rfl rfl ⟨by omega, by omega⟩ (fun bb1 ff1 ar1 TT1 fr1 hm1 hg1 => ?_)
    rw [Int.toNat_natCast] at hg1
    refine o_load lod_35 rfl hm1 hg1 ?_
    refine o_asg rfl ?_
    refine o_asg rfl ?_
    refine w_nil ?_
    refine w_region rfl ?_
    refine o_mov rfl ?_
    refine o_mov rfl ?_
    refine o_nilc rfl ?_
    refine o_fld fld_119_0 rfl rfl ?_
    refine o_mov rfl ?_
    have hsj := hsi.get j
    refine o_conv int_2 (by rw [Try.underlying35]; rfl) rfl (by first | exact IntWalk.i64_in _ (by omega) | rfl) ?_
    refine o_mov rfl ?_
    refine o_call (lapped_windowed hn rfl h1 (by omega) (by omega)) fn_59 rfl (by repeat (first | exact Take.nil | exact Take.all _ | (apply Take.cons; focus (repeat (first | exact Pick.here | apply Pick.next))))) ?_
    rintro v ho ⟨rfl, rfl⟩
    rw [show roundI ((last ++ x).getD j 0 * (winL n).getD j 0) 15 = (aL (last ++ x) n).getD j 0 by rw [aL_get (by omega)]; rfl]
    refine o_bslN [_] slc_71 zer_2 (Nat.le_of_ble_eq_true rfl) rfl rfl (fun b5 => ?_)
    refine o_app1 slc_71 zer_2 rfl rfl rfl hA (by repeat (first | exact Pick.here | apply Pick.next)) (by repeat (first | exact Has.here | apply Has.next)) (Nat.le_of_ble_eq_true rfl) (by simp only [maxLen]; omega) (by omega) (fun v' H' hO2 => ?_)
    refine o_asg rfl ?_
    refine w_nil ?_
    refine w_inB ?_
    refine w_region rfl ?_
    refine o_add rfl rfl (by first | exact IntWalk.i64_in _ (by omega) | rfl) ?_
    refine o_mov rfl ?_
    refine w_nil ?_
    exact w_again ⟨(j + 1, v', H'), ⟨by simp only; omega, by rw [← take_get_step (by omega)]; exact hO2⟩, (by simp only; omega), (by repeat (first | exact Sub.nil _ | refine Sub.cons rfl ?_)), (Take.sub (by repeat (first | exact Take.nil | exact Take.all _ | (apply Take.cons; focus (repeat (first | exact Pick.here | apply Pick.next))))))⟩
  · simp only at hj hA hjl ⊢
    obtain rfl : j = 2 * n := by omega
    rw [List.take_of_length_le (Nat.le_of_eq hal)] at hA
    refine w_exit rfl ?_
    refine w_seq ?_
    refine w_region rfl ?_
    refine o_mov rfl ?_
    refine o_nilc rfl ?_
    refine o_fld fld_119_0 rfl rfl ?_
    refine o_fld fld_115_0 rfl rfl ?_
    refine o_load lod_3 rfl (by repeat (first | exact At.here | (refine At.inA ?_; assumption) | apply At.next)) rfl ?_
    refine o_mks slc_43 zer_21 rfl rfl (by omega) (by omega) (by omega) (by omega) (fun b6 => ?_)
    rw [Int.toNat_natCast, show madeCells _ (n * 1) = ints .i32 (List.replicate n 0) from by rw [Nat.mul_one]; exact ints_made _ _]
    refine o_asg rfl ?_
    refine w_nil ?_
    refine w_seq ?_
    refine w_seq ?_
    refine w_region rfl ?_
    refine o_mov rfl ?_
    refine o_len slc_43 rfl ?_
    refine o_mov rfl ?_
    refine w_nil ?_
    refine w_block ?_
    refine w_loop (X := Nat) (fun k => [(0, .pointer (some ⟨p, 0, none⟩)), (1, .slice px x.length cx), (9, .slice (some ⟨b6, 0, none⟩) n n), (6, ua), (64, .int .i64 n), (65, .int .i64 k)]) (fun k => [[(b6, .cells (ints .i32 ((lapL (last ++ x) n).take k ++ List.replicate (n - k) 0)) 21 (0, 0))], Ha, [(p, .cells #[.int .i64 n, wv, tv, .slice (some ⟨bx, 0, none⟩) n n] T (0, 0))], [(bx, .cells (ints .i16 (last)) 35 (0, 0))], H1, H2, Ax]) (fun k => k ≤ n) (fun k => n - k) 0 (by omega) (by repeat (first | exact Sub.nil _ | refine Sub.cons rfl ?_)) (Take.sub (by repeat (first | exact Take.nil | exact Take.all _ | (apply Take.cons; focus (repeat (first | exact Pick.here | apply Pick.next)))))) ?_
    intro k hk
    refine w_seq ?_
    refine w_region rfl ?_
    refine o_lt rfl rfl ?_
    refine w_nil ?_
    refine w_seq ?_
    refine w_if_d rfl (fun hkl => ?_) (fun hkl => ?_)
    · refine w_skip ?_
      refine w_seq ?_
      refine w_block ?_
      refine w_seq ?_
      refine w_region rfl ?_
      refine o_mov rfl ?_
      refine o_asg rfl ?_
      refine w_nil ?_
      refine w_seq ?_
      refine w_region rfl ?_
      refine o_asg rfl ?_
      refine w_nil ?_
      refine w_seq ?_
      refine w_seq ?_
      refine w_region rfl ?_
      refine o_mov rfl ?_
      refine o_lenI hA.ints slc_71 rfl ?_
      refine o_mov rfl ?_
      refine w_nil ?_
      refine w_block ?_
      refine w_loop (X := Nat) (fun j => [(0, .pointer (some ⟨p, 0, none⟩)), (1, .slice px x.length cx), (9, .slice (some ⟨b6, 0, none⟩) n n), (6, ua), (64, .int .i64 n), (65, .int .i64 k), (10, .int .i64 k), (11, .int .i64 (sumN (lapP (last ++ x) n k) j)), (68, ua), (69, .int .i64 (aL (last ++ x) n).length), (70, .int .i64 j)]) (fun j => [[(b6, .cells (ints .i32 ((lapL (last ++ x) n).take k ++ List.replicate (n - k) 0)) 21 (0, 0))], Ha, [(p, .cells #[.int .i64 n, wv, tv, .slice (some ⟨bx, 0, none⟩) n n] T (0, 0))], [(bx, .cells (ints .i16 (last)) 35 (0, 0))], H1, H2, Ax]) (fun j => j ≤ 2 * n) (fun j => 2 * n - j) 0 (by omega) (by repeat (first | exact Sub.nil _ | refine Sub.cons rfl ?_)) (Take.sub (by repeat (first | exact Take.nil | exact Take.all _ | (apply Take.cons; focus (repeat (first | exact Pick.here | apply Pick.next)))))) ?_
      intro j hj2
      refine w_seq ?_
      refine w_region rfl ?_
      refine o_lt rfl rfl ?_
      refine w_nil ?_
      refine w_seq ?_
      refine w_if_d rfl (fun hjl2 => ?_) (fun hjl2 => ?_)
      · have hpi := lapP_in hsi hn k j
        have hsm := sumN_in (f := lapP (last ++ x) n k) (B := 1400000000) (by omega) j (fun q _ => lapP_in hsi hn k q)
        refine w_skip ?_
        refine w_seq ?_
        refine w_block ?_
        refine w_seq ?_
        refine w_region rfl ?_
        refine o_mov rfl ?_
        refine o_idxI hA.ints (by repeat (first | exact Has.here | apply Has.next)) slc_71 rfl rfl ⟨by omega, by omega⟩ (fun bb1 ff1 ar1 TT1 fr1 hm1 hg1 => ?_)
        rw [Int.toNat_natCast] at hg1
        refine o_load lod_2 rfl hm1 hg1 ?_
        refine o_asg rfl ?_
        refine o_asg rfl ?_
        refine w_nil ?_
        refine w_region rfl ?_
        refine o_mov rfl ?_
        refine o_mov rfl ?_
        refine o_mov rfl ?_
        refine o_nilc rfl ?_
        refine o_fld fld_119_0 rfl rfl ?_
        refine o_mov rfl ?_
        refine o_mov rfl ?_
        refine o_call (lapped_wave hn rfl rfl h2 (show j < 2 * n by omega) (show k < n by omega)) fn_60 rfl (by repeat (first | exact Take.nil | exact Take.all _ | (apply Take.cons; focus (repeat (first | exact Pick.here | apply Pick.next))))) ?_
        rintro v ho ⟨rfl, rfl⟩
        refine o_mul (c := lapP (last ++ x) n k j) rfl rfl (by rw [aL_get (by omega)]; exact IntWalk.i64_in (lapP (last ++ x) n k j) (by omega)) ?_
        refine o_add rfl rfl (by first | exact IntWalk.i64_in _ (by omega) | rfl) ?_
        refine o_asg rfl ?_
        refine w_nil ?_
        refine w_inB ?_
        refine w_region rfl ?_
        refine o_add rfl rfl (by first | exact IntWalk.i64_in _ (by omega) | rfl) ?_
        refine o_mov rfl ?_
        refine w_nil ?_
        exact w_again ⟨(j + 1), (by omega), (by omega), (by repeat (first | exact Sub.nil _ | refine Sub.cons rfl ?_)), (Take.sub (by repeat (first | exact Take.nil | exact Take.all _ | (apply Take.cons; focus (repeat (first | exact Pick.here | apply Pick.next))))))⟩
      · obtain rfl : j = 2 * n := by omega
        have hsm := sumN_in (f := lapP (last ++ x) n k) (B := 1400000000) (by omega) (2 * n) (fun q _ => lapP_in hsi hn k q)
        refine w_exit rfl ?_
        refine w_region rfl ?_
        refine o_mov rfl ?_
        refine o_mov rfl ?_
        refine o_mov rfl ?_
        refine o_call (fix_Round _ _ (by omega)) fn_53 rfl (by repeat (first | exact Take.nil | exact Take.all _ | (apply Take.cons; focus (repeat (first | exact Pick.here | apply Pick.next))))) ?_
        rintro v ho ⟨rfl, rfl⟩
        refine o_call (fix_Sat32 _) fn_61 rfl (by repeat (first | exact Take.nil | exact Take.all _ | (apply Take.cons; focus (repeat (first | exact Pick.here | apply Pick.next))))) ?_
        rintro v ho ⟨rfl, rfl⟩
        rw [show clampI (roundI (sumN (lapP (last ++ x) n k) (2 * n)) 15) (-2147483648) 2147483647 = (lapL (last ++ x) n).getD k 0 by rw [lapL_get (by omega)]; rfl]
        refine o_idx slc_43 (off := k) rfl rfl ⟨by omega, by omega⟩ (by omega) ?_
        refine o_storeI siz_21 rfl rfl (by repeat (first | exact Upd.here | apply Upd.next)) (by simp [hlp]; omega) ?_
        refine w_nil ?_
        refine w_inB ?_
        refine w_region rfl ?_
        rw [fill_step hlp (by omega)]
        refine o_add rfl rfl (by first | exact IntWalk.i64_in _ (by omega) | rfl) ?_
        refine o_mov rfl ?_
        refine w_nil ?_
        exact w_again ⟨(k + 1), (by omega), (by omega), (by repeat (first | exact Sub.nil _ | refine Sub.cons rfl ?_)), (Take.sub (by repeat (first | exact Take.nil | exact Take.all _ | (apply Take.cons; focus (repeat (first | exact Pick.here | apply Pick.next))))))⟩
    · obtain rfl : k = n := by omega
      rw [List.take_of_length_le (Nat.le_of_eq hlp), Nat.sub_self, List.replicate_zero, List.append_nil]
      have hO : OwnI [(b6, .cells (ints .i32 (lapL (last ++ x) k)) 21 (0, 0))] (.slice (some ⟨b6, 0, none⟩) k k) 21 .i32 (lapL (last ++ x) k) := by have := OwnI.mk_ (b := b6) (el := 21) (k := .i32) (xs := lapL (last ++ x) k) (by simp only [maxLen]; omega); rwa [hlp] at this
      refine w_exit rfl ?_
      refine w_seq ?_
      refine w_region rfl ?_
      refine o_mov rfl ?_
      refine o_nilc rfl ?_
      refine o_fld fld_119_1 rfl rfl ?_
      refine o_load lod_26 rfl (by repeat (first | exact At.here | (refine At.inA ?_; assumption) | apply At.next)) rfl ?_
      refine o_mov rfl ?_
      refine o_copy slc_26 rfl rfl hx (by repeat (first | exact Has.here | apply Has.next)) (one_ints _ _) (by repeat (first | exact Upd.here | apply Upd.next)) (by rw [ints_size, hll]; omega) ?_
      refine w_nil ?_
      refine w_seq ?_
      refine w_region rfl ?_
      rw [hxl, copy_all hll hxl]
      refine o_mov rfl ?_
      refine o_asg rfl ?_
      refine o_asg rfl ?_
      refine w_nil ?_
      exact w_ret (ret2 rfl rfl rfl) ⟨_, _, rfl, hO, rfl⟩ (Take.sub (by repeat (first | exact Take.nil | exact Take.all _ | (apply Take.cons; focus (repeat (first | exact Pick.here | apply Pick.next))))))

theorem lapper_Feed_bad {p : Nat} {T : TypeId} {n : Nat} {cs : Array Value} {A : Hp} (h0 : cs[0]? = some (.int .i64 n)) {x : List Int} {xv : Value} (hx : Ints A xv .i16 x) (hxl : x.length ≠ n) : Ctr Try.prog 31 [.pointer (some ⟨p, 0, none⟩), xv] ([[(p, .cells cs T (0, 0))], A]) (fun v ho => v = .tuple #[.slice none 0 0, .int .i64 1] ∧ ho = [[(p, .cells cs T (0, 0))], A]) := by
  refine spec_of Try.func31 rfl rfl fun w0 L => ?_
  refine w_seq ?_
  refine w_region rfl ?_
  refine o_asg rfl ?_
  refine o_asg rfl ?_
  refine w_nil ?_
  refine w_seq ?_
  refine w_block ?_
  refine w_seq ?_
  refine w_region rfl ?_
  refine o_mov rfl ?_
  refine o_pnil Try.underlying59 rfl rfl ?_
  refine o_asg rfl ?_
  refine w_nil ?_
  refine w_if_f rfl ?_
  refine w_seq ?_
  refine w_region rfl ?_
  refine o_mov rfl ?_
  refine o_lenI hx slc_26 rfl ?_
  refine o_mov rfl ?_
  refine o_nilc rfl ?_
  refine o_fld fld_119_0 rfl rfl ?_
  refine o_fld fld_115_0 rfl rfl ?_
  refine o_load lod_3 rfl (by repeat (first | exact At.here | (refine At.inA ?_; assumption) | apply At.next)) h0 ?_
  refine o_ne_t rfl rfl (by omega) ?_
  refine o_asg rfl ?_
  refine w_nil ?_
  refine w_if_t rfl ?_
  refine w_seq ?_
  refine w_region rfl ?_
  refine o_asg rfl ?_
  refine o_asg rfl ?_
  refine w_nil ?_
  exact w_ret (ret2 rfl rfl rfl) ⟨rfl, rfl⟩ (HSub.refl _)

end Go.Proofs.Ytjmnidcfgkdhcaa
