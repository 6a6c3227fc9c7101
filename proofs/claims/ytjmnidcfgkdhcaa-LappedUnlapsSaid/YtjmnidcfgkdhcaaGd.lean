/- The laws LappedLaps and LappedWindows. No condition but that numbers are of their kinds. -/
import Derived.Test.YtjmnidcfgkdhcaaTy
import Derived.Test.YtjmnidcfgkdhcaaGc
namespace Go.Proofs.Ytjmnidcfgkdhcaa
open Go.Eng
set_option linter.unusedVariables false
set_option linter.unusedSimpArgs false
set_option maxRecDepth 20000
attribute [local irreducible] WL WT
theorem alive09  : Ctr Try.prog 27 [] ([]) (fun v ho => v = .bool true ∧ ho = []) := by
  refine spec_of Try.func27 rfl rfl fun w0 L => ?_
  refine w_emp ?_
  refine w_seq ?_
  refine w_region rfl ?_
  refine o_asg rfl ?_
  refine w_nil ?_
  refine w_seq ?_
  refine w_region rfl ?_
  refine o_call (bank_New) fn_12 rfl (by repeat (first | exact Take.nil | exact Take.all _ | (apply Take.cons; focus (repeat (first | exact Pick.here | apply Pick.next))))) ?_
  rintro v ho ⟨b, rfl, rfl⟩
  refine o_call (lapped_NewLapper (T := 98) (n := 40) BankRep.new (by omega) (by omega) (.inl rfl)) fn_29 rfl (by repeat (first | exact Take.nil | exact Take.all _ | (apply Take.cons; focus (repeat (first | exact Pick.here | apply Pick.next))))) ?_
  rintro v ho ⟨p, bx, wv, tv, H1, H2, ar1, Tb1, s1, m1, t1, rfl, hO1, hO2, hB1, -, -, -, -, rfl⟩
  refine o_mov rfl ?_
  refine o_ext rfl rfl ?_
  refine o_ext rfl rfl ?_
  refine o_asg rfl ?_
  refine o_asg rfl ?_
  refine w_nil ?_
  refine w_seq ?_
  refine w_seq ?_
  refine w_region rfl ?_
  refine o_mov rfl ?_
  refine o_ne_f rfl rfl (by omega) ?_
  refine o_mov rfl ?_
  refine o_yes rfl rfl ?_
  refine o_mov rfl ?_
  refine o_yes rfl rfl ?_
  refine o_pnil Try.underlying59 rfl rfl ?_
  refine o_pick_f rfl rfl ?_
  refine w_nil ?_
  refine w_if_f rfl ?_
  have hzs := lapL_zero (s := List.replicate 40 0 ++ List.replicate 40 0) (n := 40) (fun i => by rw [show List.replicate 40 (0 : Int) ++ List.replicate 40 0 = List.replicate 80 0 from rfl]; exact getD_rep _ _)
  refine w_skip ?_
  refine w_seq ?_
  refine w_region rfl ?_
  refine o_mov rfl ?_
  refine o_mks slc_26 zer_35 rfl rfl (by omega) (by omega) (by omega) (by omega) (fun b3 => ?_)
  rw [show madeCells (Value.int .i16 0).cells (Int.toNat 40 * 1) = ints .i16 (List.replicate 40 0) from ints_made _ 40]
  refine o_call (lapper_Feed (T := 119) (n := 40) (.inl rfl) hO1.ints hO2.ints (last := List.replicate 40 0) (by simp) (in16_rep _) (OwnI.mk_ (b := b3) (el := 35) (k := .i16) (xs := List.replicate 40 0) (by simp [maxLen])).ints (by simp) (in16_rep _)) fn_31 rfl (by repeat (first | exact Take.nil | exact Take.all _ | (apply Take.cons; focus (repeat (first | exact Pick.here | apply Pick.next))))) ?_
  rintro v ho ⟨v1, H', rfl, hO3, rfl⟩
  refine o_mov rfl ?_
  refine o_ext rfl rfl ?_
  refine o_ext rfl rfl ?_
  refine o_asg rfl ?_
  refine o_asg rfl ?_
  refine w_nil ?_
  refine w_seq ?_
  refine w_region rfl ?_
  refine o_mov rfl ?_
  refine o_mks slc_26 zer_35 rfl rfl (by omega) (by omega) (by omega) (by omega) (fun b5 => ?_)
  rw [show madeCells (Value.int .i16 0).cells (Int.toNat 41 * 1) = ints .i16 (List.replicate 41 0) from ints_made _ 41]
  refine o_call (lapper_Feed_bad (T := 119) (n := 40) rfl (OwnI.mk_ (b := b5) (el := 35) (k := .i16) (xs := List.replicate 41 0) (by simp [maxLen])).ints (by simp)) fn_31 rfl (by repeat (first | exact Take.nil | exact Take.all _ | (apply Take.cons; focus (repeat (first | exact Pick.here | apply Pick.next))))) ?_
  rintro v ho ⟨rfl, rfl⟩
  refine o_mov rfl ?_
  refine o_ext rfl rfl ?_
  refine o_ext rfl rfl ?_
  refine o_asg rfl ?_
  refine o_asg rfl ?_
  refine w_nil ?_
  refine w_seq ?_
  refine w_region rfl ?_
  refine o_call (lapped_Lengths) fn_56 rfl (by repeat (first | exact Take.nil | exact Take.all _ | (apply Take.cons; focus (repeat (first | exact Pick.here | apply Pick.next))))) ?_
  rintro vL ho ⟨HL, hL, rfl⟩
  refine o_asg rfl ?_
  refine w_nil ?_
  refine w_seq ?_
  refine w_region rfl ?_
  refine o_mov rfl ?_
  refine o_eq_t rfl rfl (by omega) ?_
  refine o_mov rfl ?_
  refine o_yes rfl rfl ?_
  refine o_mov rfl ?_
  refine o_yes rfl rfl ?_
  refine o_mks slc_43 zer_21 rfl rfl (by omega) (by omega) (by omega) (by omega) (fun b8 => ?_)
  rw [show madeCells (Value.int .i32 0).cells (Int.toNat 40 * 1) = ints .i32 (List.replicate 40 0) from ints_made _ 40]
  refine o_yes rfl rfl ?_
  refine o_call (same_i32 hO3.ints (OwnI.mk_ (b := b8) (el := 21) (k := .i32) (xs := List.replicate 40 0) (by simp [maxLen])).ints) fn_21 rfl (by repeat (first | exact Take.nil | exact Take.all _ | (apply Take.cons; focus (repeat (first | exact Pick.here | apply Pick.next))))) ?_
  rintro v ho ⟨rfl, rfl⟩
  rw [hzs, decide_eq_true rfl]
  refine o_pick_t rfl rfl ?_
  refine o_mov rfl ?_
  refine o_yes rfl rfl ?_
  refine o_mov rfl ?_
  refine o_yes rfl rfl ?_
  refine o_eq_t rfl rfl (by omega) ?_
  refine o_pick_t rfl rfl ?_
  refine o_mov rfl ?_
  refine o_yes rfl rfl ?_
  refine o_mov rfl ?_
  refine o_yes rfl rfl ?_
  refine o_lenI hL slc_112 rfl ?_
  refine o_yes rfl rfl ?_
  refine o_eq_t rfl rfl (by decide) ?_
  refine o_pick_t rfl rfl ?_
  refine o_mov rfl ?_
  refine o_yes rfl rfl ?_
  refine o_mov rfl ?_
  refine o_yes rfl rfl ?_
  refine o_idxI hL (by repeat (first | exact Has.here | apply Has.next)) slc_112 rfl rfl ⟨by decide, by decide⟩ (fun bb1 ff1 ar1 TT1 fr1 hm1 hg1 => ?_)
  refine o_yes rfl rfl ?_
  refine o_load lod_3 rfl hm1 hg1 ?_
  refine o_yes rfl rfl ?_
  refine o_eq_t rfl rfl (by decide) ?_
  refine o_pick_t rfl rfl ?_
  refine o_mov rfl ?_
  refine o_yes rfl rfl ?_
  refine o_mov rfl ?_
  refine o_yes rfl rfl ?_
  refine o_idxI hL (by repeat (first | exact Has.here | apply Has.next)) slc_112 rfl rfl ⟨by decide, by decide⟩ (fun bb2 ff2 ar2 TT2 fr2 hm2 hg2 => ?_)
  refine o_yes rfl rfl ?_
  refine o_load lod_3 rfl hm2 hg2 ?_
  refine o_yes rfl rfl ?_
  refine o_eq_t rfl rfl (by decide) ?_
  refine o_pick_t rfl rfl ?_
  refine o_asg rfl ?_
  refine w_nil ?_
  exact w_ret (ret1 rfl rfl) ⟨rfl, rfl⟩ (Take.sub (by repeat (first | exact Take.nil | exact Take.all _ | (apply Take.cons; focus (repeat (first | exact Pick.here | apply Pick.next))))))

theorem len4 {q : Nat} (h : q < 4) : ∃ n : Nat, (([40, 60, 80, 120] : List Int).getD q 0 = n) ∧ (n = 40 ∨ n = 60 ∨ n = 80 ∨ n = 120) := by
  rcases (show q = 0 ∨ q = 1 ∨ q = 2 ∨ q = 3 by omega) with rfl | rfl | rfl | rfl
  · exact ⟨40, rfl, by omega⟩
  · exact ⟨60, rfl, by omega⟩
  · exact ⟨80, rfl, by omega⟩
  · exact ⟨120, rfl, by omega⟩

theorem law_length (a : Int) (ha : 0 ≤ a ∧ a ≤ 255) : Ctr Try.prog 28 [.int .u8 a] ([]) (fun v ho => ∃ n : Nat, v = .int .i64 n ∧ (n = 40 ∨ n = 60 ∨ n = 80 ∨ n = 120) ∧ ho = []) := by
  refine spec_of Try.func28 rfl rfl fun w0 L => ?_
  refine w_seq ?_
  refine w_region rfl ?_
  refine o_asg rfl ?_
  refine w_nil ?_
  refine w_seq ?_
  refine w_region rfl ?_
  refine o_call (lapped_Lengths) fn_56 rfl (by repeat (first | exact Take.nil | exact Take.all _ | (apply Take.cons; focus (repeat (first | exact Pick.here | apply Pick.next))))) ?_
  rintro vL ho ⟨HL, hL, rfl⟩
  refine o_mov rfl ?_
  refine o_conv int_3 (by rw [Try.underlying5]; rfl) rfl (by first | exact IntWalk.i64_in _ (by omega) | rfl) ?_
  refine o_rem rfl rfl (by decide) (IntWalk.rem_in _ _ (by omega)) ?_
  refine o_idxI hL (by repeat (first | exact Has.here | apply Has.next)) slc_112 rfl rfl ⟨by omega, by simp only [List.length_cons, List.length_nil]; omega⟩ (fun bb1 ff1 ar1 TT1 fr1 hm1 hg1 => ?_)
  refine o_load lod_3 rfl hm1 hg1 ?_
  obtain ⟨n, hn1, hn2⟩ := len4 (q := (a % 4).toNat) (by omega)
  rw [hn1]
  refine o_asg rfl ?_
  refine w_nil ?_
  exact w_ret (ret1 rfl rfl) ⟨n, rfl, hn2, rfl⟩ (Take.sub (by repeat (first | exact Take.nil | exact Take.all _ | (apply Take.cons; focus (repeat (first | exact Pick.here | apply Pick.next))))))

theorem law_padded {v : Value} {xs : List Int} {A : Hp} (hx : Ints A v .i16 xs) {at_ n : Nat} (ha : at_ ≤ 1000000) (hn : n ≤ 1000) : Ctr Try.prog 30 [v, .int .i64 at_, .int .i64 n] ([A]) (fun w ho => ∃ H, OwnI H w 35 .i16 (padL xs at_ n) ∧ ho = [H, A]) := by
  refine spec_of Try.func30 rfl rfl fun w0 L => ?_
  refine w_seq ?_
  refine w_region rfl ?_
  refine o_asg rfl ?_
  refine w_nil ?_
  refine w_seq ?_
  refine w_region rfl ?_
  refine o_mov rfl ?_
  refine o_mks slc_26 zer_35 rfl rfl (by omega) (by omega) (by omega) (by omega) (fun b1 => ?_)
  rw [Int.toNat_natCast, show madeCells _ (n * 1) = ints .i16 (List.replicate n 0) from by rw [Nat.mul_one]; exact ints_made _ _]
  refine o_asg rfl ?_
  refine w_nil ?_
  have hpl := padL_len xs at_ n
  have hmx := hx.2.1
  refine w_seq ?_
  refine w_seq ?_
  refine w_region rfl ?_
  refine o_asg rfl ?_
  refine w_nil ?_
  refine w_block ?_
  refine w_loop (X := Nat) (fun i => [(0, v), (1, .int .i64 at_), (2, .int .i64 n), (7, .slice (some ⟨b1, 0, none⟩) n n), (8, .int .i64 i)]) (fun i => [[(b1, .cells (ints .i16 ((padL xs at_ n).take i ++ List.replicate (n - i) 0)) 35 (0, 0))], A]) (fun i => i ≤ n) (fun i => n - i) 0 (by omega) (by repeat (first | exact Sub.nil _ | refine Sub.cons rfl ?_)) (Take.sub (by repeat (first | exact Take.nil | exact Take.all _ | (apply Take.cons; focus (repeat (first | exact Pick.here | apply Pick.next)))))) ?_
  intro i hi
  refine w_seq ?_
  refine w_seq ?_
  refine w_cut_x (X := Bool) (fun y => [(0, v), (1, .int .i64 at_), (2, .int .i64 n), (7, .slice (some ⟨b1, 0, none⟩) n n), (8, .int .i64 i), (21, .bool y)]) (fun _ => [[(b1, .cells (ints .i16 ((padL xs at_ n).take i ++ List.replicate (n - i) 0)) 35 (0, 0))], A]) (fun y => y = decide (i < n ∧ at_ + i < xs.length)) ?_ ?_
  · refine w_region rfl ?_
    refine o_mov rfl ?_
    refine o_mov rfl ?_
    refine o_lt_s rfl rfl (fun h1 => ?_) (fun h1 => ?_)
    · refine o_mov rfl ?_
      refine o_yes rfl rfl ?_
      refine o_mov rfl ?_
      refine o_yes rfl rfl ?_
      refine o_mov rfl ?_
      refine o_yes rfl rfl ?_
      refine o_add rfl rfl (by first | exact IntWalk.i64_in _ (by omega) | rfl) ?_
      refine o_yes rfl rfl ?_
      refine o_mov rfl ?_
      refine o_yes rfl rfl ?_
      refine o_lenI hx slc_26 rfl ?_
      refine o_yes rfl rfl ?_
      refine o_lt_s rfl rfl (fun h2 => ?_) (fun h2 => ?_)
      · refine o_pick_t rfl rfl ?_
        refine w_nil ?_
        exact w_again ⟨true, (decide_eq_true ⟨by omega, by omega⟩).symm, (by repeat (first | exact Sub.nil _ | refine Sub.cons rfl ?_)), (Take.sub (by repeat (first | exact Take.nil | exact Take.all _ | (apply Take.cons; focus (repeat (first | exact Pick.here | apply Pick.next))))))⟩
      · refine o_pick_t rfl rfl ?_
        refine w_nil ?_
        exact w_again ⟨false, (decide_eq_false (fun h => by omega)).symm, (by repeat (first | exact Sub.nil _ | refine Sub.cons rfl ?_)), (Take.sub (by repeat (first | exact Take.nil | exact Take.all _ | (apply Take.cons; focus (repeat (first | exact Pick.here | apply Pick.next))))))⟩
    · refine o_mov rfl ?_
      refine o_no rfl rfl rfl ?_
      refine o_no rfl rfl rfl ?_
      refine o_no rfl rfl rfl ?_
      refine o_no rfl rfl rfl ?_
      refine o_no rfl rfl rfl ?_
      refine o_no rfl rfl rfl ?_
      refine o_pick_f rfl rfl ?_
      refine w_nil ?_
      exact w_again ⟨false, (decide_eq_false (fun h => by omega)).symm, (by repeat (first | exact Sub.nil _ | refine Sub.cons rfl ?_)), (Take.sub (by repeat (first | exact Take.nil | exact Take.all _ | (apply Take.cons; focus (repeat (first | exact Pick.here | apply Pick.next))))))⟩
  intro y hy
  subst hy
  refine w_if_d rfl (fun hl => ?_) (fun hl => ?_)
  · refine w_skip ?_
    refine w_seq ?_
    refine w_block ?_
    refine w_region rfl ?_
    refine o_mov rfl ?_
    refine o_mov rfl ?_
    refine o_mov rfl ?_
    refine o_mov rfl ?_
    refine o_mov rfl ?_
    refine o_add rfl rfl (by first | exact IntWalk.i64_in _ (by omega) | rfl) ?_
    refine o_idxI hx (by repeat (first | exact Has.here | apply Has.next)) slc_26 rfl rfl ⟨by omega, by omega⟩ (fun bb1 ff1 ar1 TT1 fr1 hm1 hg1 => ?_)
    rw [show ((at_ : Int) + i).toNat = at_ + i by omega, ← padL_get (n := n) (show i < n by omega)] at hg1
    refine o_load lod_35 rfl hm1 hg1 ?_
    refine o_idx slc_26 (off := i) rfl rfl ⟨by omega, by omega⟩ (by omega) ?_
    refine o_storeI siz_35 rfl rfl (by repeat (first | exact Upd.here | apply Upd.next)) (by simp [hpl]; omega) ?_
    refine w_nil ?_
    refine w_inB ?_
    refine w_region rfl ?_
    rw [fill_step hpl (by omega)]
    refine o_mov rfl ?_
    refine o_add rfl rfl (by first | exact IntWalk.i64_in _ (by omega) | rfl) ?_
    refine o_asg rfl ?_
    refine w_nil ?_
    exact w_again ⟨(i + 1), (by omega), (by omega), (by repeat (first | exact Sub.nil _ | refine Sub.cons rfl ?_)), (Take.sub (by repeat (first | exact Take.nil | exact Take.all _ | (apply Take.cons; focus (repeat (first | exact Pick.here | apply Pick.next))))))⟩
  · rw [padL_end hi hl]
    have hO : OwnI [(b1, .cells (ints .i16 (padL xs at_ n)) 35 (0, 0))] (.slice (some ⟨b1, 0, none⟩) n n) 35 .i16 (padL xs at_ n) := by have := OwnI.mk_ (b := b1) (el := 35) (k := .i16) (xs := padL xs at_ n) (by simp only [maxLen]; omega); rwa [hpl] at this
    refine w_exit rfl ?_
    refine w_seq ?_
    refine w_region rfl ?_
    refine o_mov rfl ?_
    refine o_asg rfl ?_
    refine w_nil ?_
    exact w_ret (ret1 rfl rfl) ⟨_, hO, rfl⟩ (Take.sub (by repeat (first | exact Take.nil | exact Take.all _ | (apply Take.cons; focus (repeat (first | exact Pick.here | apply Pick.next))))))

theorem LappedLaps_ctr (a : Int) (ha : 0 ≤ a ∧ a ≤ 255) {v : Value} {xs : List Int} {A : Hp} (hx : Ints A v .i16 xs) (hwf : ∀ a ∈ xs, (Lit.int .i16 a).wf = true) : Ctr Try.prog 8 [.int .u8 a, v] ([A]) (fun v ho => v = .bool true ∧ ho = [A]) := by
  refine spec_of Try.func8 rfl rfl fun w0 L => ?_
  refine w_seq ?_
  refine w_region rfl ?_
  refine o_asg rfl ?_
  refine w_nil ?_
  refine w_seq ?_
  refine w_seq ?_
  refine w_region rfl ?_
  refine o_call (alive09) fn_27 rfl (by repeat (first | exact Take.nil | exact Take.all _ | (apply Take.cons; focus (repeat (first | exact Pick.here | apply Pick.next))))) ?_
  rintro v ho ⟨rfl, rfl⟩
  refine o_not rfl ?_
  refine w_nil ?_
  refine w_if_f rfl ?_
  have hxi : in16 xs := fun a ha => wf_i16 (hwf a ha)
  refine w_skip ?_
  refine w_seq ?_
  refine w_region rfl ?_
  refine o_mov rfl ?_
  refine o_call (law_length a ha) fn_28 rfl (by repeat (first | exact Take.nil | exact Take.all _ | (apply Take.cons; focus (repeat (first | exact Pick.here | apply Pick.next))))) ?_
  rintro v ho ⟨n, rfl, hn, rfl⟩
  refine o_asg rfl ?_
  refine w_nil ?_
  refine w_emp ?_
  refine w_seq ?_
  refine w_region rfl ?_
  refine o_call (bank_New) fn_12 rfl (by repeat (first | exact Take.nil | exact Take.all _ | (apply Take.cons; focus (repeat (first | exact Pick.here | apply Pick.next))))) ?_
  rintro v ho ⟨b, rfl, rfl⟩
  refine o_mov rfl ?_
  refine o_call (lapped_NewLapper (T := 98) (n := n) BankRep.new (by omega) (by omega) hn) fn_29 rfl (by repeat (first | exact Take.nil | exact Take.all _ | (apply Take.cons; focus (repeat (first | exact Pick.here | apply Pick.next))))) ?_
  rintro v ho ⟨p, bx, wv, tv, H1, H2, ar1, Tb1, s1, m1, t1, rfl, hO1, hO2, hB1, -, -, -, -, rfl⟩
  refine o_mov rfl ?_
  refine o_ext rfl rfl ?_
  refine o_ext rfl rfl ?_
  refine o_asg rfl ?_
  refine o_asg rfl ?_
  refine w_nil ?_
  refine w_seq ?_
  refine w_seq ?_
  refine w_region rfl ?_
  refine o_mov rfl ?_
  refine o_ne_f rfl rfl (by omega) ?_
  refine o_mov rfl ?_
  refine o_yes rfl rfl ?_
  refine o_mov rfl ?_
  refine o_yes rfl rfl ?_
  refine o_lenI hx slc_26 rfl ?_
  refine o_yes rfl rfl ?_
  refine o_gt_s rfl rfl (fun hlen => ?_) (fun hlen => ?_)
  · refine o_pick_f rfl rfl ?_
    refine w_nil ?_
    refine w_if_t rfl ?_
    refine w_seq ?_
    refine w_region rfl ?_
    refine o_mov rfl ?_
    refine o_eq_t rfl rfl (by omega) ?_
    refine o_asg rfl ?_
    refine w_nil ?_
    exact w_ret (ret1 rfl rfl) ⟨rfl, rfl⟩ (Take.sub (by repeat (first | exact Take.nil | exact Take.all _ | (apply Take.cons; focus (repeat (first | exact Pick.here | apply Pick.next))))))
  · refine o_pick_f rfl rfl ?_
    refine w_nil ?_
    refine w_if_f rfl ?_
    refine w_skip ?_
    refine w_seq ?_
    refine w_region rfl ?_
    refine o_mov rfl ?_
    refine o_mks slc_26 zer_35 rfl rfl (by omega) (by omega) (by omega) (by omega) (fun b5 => ?_)
    rw [Int.toNat_natCast, show madeCells _ (n * 1) = ints .i16 (List.replicate n 0) from by rw [Nat.mul_one]; exact ints_made _ _]
    refine o_asg rfl ?_
    refine w_nil ?_
    have hP0 : OwnI [(b5, .cells (ints .i16 (List.replicate n 0)) 35 (0, 0))] (.slice (some ⟨b5, 0, none⟩) n n) 35 .i16 (List.replicate n 0) := by have := OwnI.mk_ (b := b5) (el := 35) (k := .i16) (xs := List.replicate n 0) (by simp [maxLen]; omega); rwa [List.length_replicate] at this
    refine w_seq ?_
    refine w_seq ?_
    refine w_region rfl ?_
    refine o_asg rfl ?_
    refine w_nil ?_
    refine w_block ?_
    refine w_loop (X := Nat × List Int × Value × Hp) (fun y => [(1, v), (5, .int .i64 n), (6, .pointer (some ⟨p, 0, none⟩)), (8, y.2.2.1), (9, .int .i64 y.1)]) (fun y => [[(p, .cells #[.int .i64 n, wv, tv, .slice (some ⟨bx, 0, none⟩) n n] 119 (0, 0))], [(bx, .cells (ints .i16 (y.2.1)) 35 (0, 0))], H1, H2, y.2.2.2, A]) (fun y => y.1 ≤ xs.length + n ∧ y.2.1.length = n ∧ in16 y.2.1 ∧ OwnI y.2.2.2 y.2.2.1 35 .i16 y.2.1) (fun y => xs.length + n - y.1) (0, List.replicate n 0, .slice (some ⟨b5, 0, none⟩) n n, [(b5, .cells (ints .i16 (List.replicate n 0)) 35 (0, 0))]) ⟨by simp, by simp, in16_rep _, hP0⟩ (by repeat (first | exact Sub.nil _ | refine Sub.cons rfl ?_)) (Take.sub (by repeat (first | exact Take.nil | exact Take.all _ | (apply Take.cons; focus (repeat (first | exact Pick.here | apply Pick.next)))))) ?_
    rintro ⟨at_, prev, vo, Ho⟩ ⟨hat, hpl, hpi, hP⟩
    refine w_seq ?_
    refine w_seq ?_
    refine w_region rfl ?_
    refine o_mov rfl ?_
    refine o_mov rfl ?_
    refine o_lenI hx slc_26 rfl ?_
    refine o_lt rfl rfl ?_
    refine w_nil ?_
    refine w_if_d rfl (fun hl => ?_) (fun hl => ?_)
    · simp only at hat hpl hpi hP hl ⊢
      have hpd := padL_len xs at_ n
      have hpdi := padL_in16 hxi at_ n
      refine w_skip ?_
      refine w_seq ?_
      refine w_block ?_
      refine w_seq ?_
      refine w_region rfl ?_
      refine o_mov rfl ?_
      refine o_mov rfl ?_
      refine o_mov rfl ?_
      refine o_call (law_padded hx (at_ := at_) (n := n) (by omega) (by omega)) fn_30 rfl (by repeat (first | exact Take.nil | exact Take.all _ | (apply Take.cons; focus (repeat (first | exact Pick.here | apply Pick.next))))) ?_
      rintro vx ho ⟨Hx, hX, rfl⟩
      refine o_asg rfl ?_
      refine w_nil ?_
      generalize padL xs at_ n = x at *
      refine w_seq ?_
      refine w_region rfl ?_
      refine o_mov rfl ?_
      refine o_mov rfl ?_
      refine o_call (lapper_Feed (T := 119) hn hO1.ints hO2.ints (last := prev) hpl hpi hX.ints hpd hpdi) fn_31 rfl (by repeat (first | exact Take.nil | exact Take.all _ | (apply Take.cons; focus (repeat (first | exact Pick.here | apply Pick.next))))) ?_
      rintro v ho ⟨v1, H', rfl, hO3, rfl⟩
      refine o_mov rfl ?_
      refine o_ext rfl rfl ?_
      refine o_ext rfl rfl ?_
      refine o_asg rfl ?_
      refine o_asg rfl ?_
      refine w_nil ?_
      refine w_seq ?_
      refine w_seq ?_
      refine w_region rfl ?_
      refine o_mov rfl ?_
      refine o_ne_f rfl rfl (by omega) ?_
      refine o_mov rfl ?_
      refine o_yes rfl rfl ?_
      refine o_mov rfl ?_
      refine o_yes rfl rfl ?_
      refine o_mov rfl ?_
      refine o_yes rfl rfl ?_
      refine o_mov rfl ?_
      refine o_yes rfl rfl ?_
      refine o_mov rfl ?_
      refine o_yes rfl rfl ?_
      refine o_call (ref_Lap hn hP.ints hX.ints hpl hpd hpi hpdi) fn_32 rfl (by repeat (first | exact Take.nil | exact Take.all _ | (apply Take.cons; focus (repeat (first | exact Pick.here | apply Pick.next))))) ?_
      rintro v ho ⟨H4, hO4, rfl⟩
      refine o_yes rfl rfl ?_
      refine o_call (same_i32 hO3.ints hO4.ints) fn_21 rfl (by repeat (first | exact Take.nil | exact Take.all _ | (apply Take.cons; focus (repeat (first | exact Pick.here | apply Pick.next))))) ?_
      rintro v ho ⟨rfl, rfl⟩
      rw [decide_eq_true rfl]
      refine o_yes rfl rfl ?_
      refine o_not rfl ?_
      refine o_pick_f rfl rfl ?_
      refine w_nil ?_
      refine w_if_f rfl ?_
      refine w_skip ?_
      refine w_region rfl ?_
      refine o_mov rfl ?_
      refine o_asg rfl ?_
      refine w_nil ?_
      refine w_inB ?_
      refine w_region rfl ?_
      refine o_mov rfl ?_
      refine o_mov rfl ?_
      refine o_add rfl rfl (by first | exact IntWalk.i64_in _ (by omega) | rfl) ?_
      refine o_asg rfl ?_
      refine w_nil ?_
      exact w_again ⟨(at_ + n, x, vx, Hx), ⟨by simp only; omega, hpd, hpdi, hX⟩, (by simp only; omega), (by repeat (first | exact Sub.nil _ | refine Sub.cons rfl ?_)), (Take.sub (by repeat (first | exact Take.nil | exact Take.all _ | (apply Take.cons; focus (repeat (first | exact Pick.here | apply Pick.next))))))⟩
    · refine w_exit rfl ?_
      refine w_seq ?_
      refine w_region rfl ?_
      refine o_asg rfl ?_
      refine w_nil ?_
      exact w_ret (ret1 rfl rfl) ⟨rfl, rfl⟩ (Take.sub (by repeat (first | exact Take.nil | exact Take.all _ | (apply Take.cons; focus (repeat (first | exact Pick.here | apply Pick.next))))))

theorem LappedWindows_ctr (n : Int) (hw : -9223372036854775808 ≤ n ∧ n ≤ 9223372036854775807) : Ctr Try.prog 9 [.int .i64 n] ([]) (fun v ho => v = .bool true ∧ ho = []) := by
  refine spec_of Try.func9 rfl rfl fun w0 L => ?_
  refine w_seq ?_
  refine w_region rfl ?_
  refine o_asg rfl ?_
  refine w_nil ?_
  refine w_seq ?_
  refine w_seq ?_
  refine w_region rfl ?_
  refine o_call (alive09) fn_27 rfl (by repeat (first | exact Take.nil | exact Take.all _ | (apply Take.cons; focus (repeat (first | exact Pick.here | apply Pick.next))))) ?_
  rintro v ho ⟨rfl, rfl⟩
  refine o_not rfl ?_
  refine w_nil ?_
  refine w_if_f rfl ?_
  by_cases hn : n = 40 ∨ n = 60 ∨ n = 80 ∨ n = 120
  · obtain ⟨m, rfl, hm⟩ : ∃ m : Nat, n = (m : Int) ∧ (m = 40 ∨ m = 60 ∨ m = 80 ∨ m = 120) := ⟨n.toNat, by omega, by omega⟩
    refine w_emp ?_
    refine w_skip ?_
    refine w_seq ?_
    refine w_region rfl ?_
    refine o_call (bank_New) fn_12 rfl (by repeat (first | exact Take.nil | exact Take.all _ | (apply Take.cons; focus (repeat (first | exact Pick.here | apply Pick.next))))) ?_
    rintro v ho ⟨b, rfl, rfl⟩
    refine o_mov rfl ?_
    refine o_call (lapped_Window (T := 98) BankRep.new (by omega) (by omega) hm) fn_33 rfl (by repeat (first | exact Take.nil | exact Take.all _ | (apply Take.cons; focus (repeat (first | exact Pick.here | apply Pick.next))))) ?_
    rintro v ho ⟨w, ar0, Tb0, Hw, s0, m0, t0, rfl, hW, hB0, -, -, -, -, rfl⟩
    refine o_mov rfl ?_
    refine o_ext rfl rfl ?_
    refine o_ext rfl rfl ?_
    refine o_asg rfl ?_
    refine o_asg rfl ?_
    refine w_nil ?_
    refine w_emp ?_
    refine w_seq ?_
    refine w_region rfl ?_
    refine o_call (bank_New) fn_12 rfl (by repeat (first | exact Take.nil | exact Take.all _ | (apply Take.cons; focus (repeat (first | exact Pick.here | apply Pick.next))))) ?_
    rintro v ho ⟨b, rfl, rfl⟩
    refine o_mov rfl ?_
    refine o_call (lapped_NewLapper (T := 98) (n := m) BankRep.new (by omega) (by omega) hm) fn_29 rfl (by repeat (first | exact Take.nil | exact Take.all _ | (apply Take.cons; focus (repeat (first | exact Pick.here | apply Pick.next))))) ?_
    rintro v ho ⟨p, bx, wv, tv, H1, H2, ar1, Tb1, s1, m1, t1, rfl, hO1, hO2, hB1, -, -, -, -, rfl⟩
    refine o_mov rfl ?_
    refine o_ext rfl rfl ?_
    refine o_ext rfl rfl ?_
    refine o_asg rfl ?_
    refine o_asg rfl ?_
    refine w_nil ?_
    refine w_emp ?_
    refine w_seq ?_
    refine w_region rfl ?_
    refine o_call (bank_New) fn_12 rfl (by repeat (first | exact Take.nil | exact Take.all _ | (apply Take.cons; focus (repeat (first | exact Pick.here | apply Pick.next))))) ?_
    rintro v ho ⟨b, rfl, rfl⟩
    refine o_mov rfl ?_
    refine o_call (lapped_NewUnlapper (T := 98) BankRep.new (by omega) (by omega) hm) fn_34 rfl (by repeat (first | exact Take.nil | exact Take.all _ | (apply Take.cons; focus (repeat (first | exact Pick.here | apply Pick.next))))) ?_
    rintro v ho ⟨p2, bx2, wv2, tv2, H3, H4, ar2, Tb2, s2, m2, t2, rfl, hO3, hO4, hB2, -, -, -, -, rfl⟩
    refine o_mov rfl ?_
    refine o_ext rfl rfl ?_
    refine o_ext rfl rfl ?_
    refine o_asg rfl ?_
    refine o_asg rfl ?_
    refine w_nil ?_
    refine w_seq ?_
    refine w_region rfl ?_
    refine o_mov rfl ?_
    refine o_call (lapped_Window_nil hm) fn_33 rfl (by repeat (first | exact Take.nil | exact Take.all _ | (apply Take.cons; focus (repeat (first | exact Pick.here | apply Pick.next))))) ?_
    rintro v ho ⟨rfl, rfl⟩
    refine o_mov rfl ?_
    refine o_ext rfl rfl ?_
    refine o_ext rfl rfl ?_
    refine o_asg rfl ?_
    refine o_asg rfl ?_
    refine w_nil ?_
    refine w_seq ?_
    refine w_seq ?_
    refine w_region rfl ?_
    refine o_mov rfl ?_
    refine o_call (ref_May _) fn_35 rfl (by repeat (first | exact Take.nil | exact Take.all _ | (apply Take.cons; focus (repeat (first | exact Pick.here | apply Pick.next))))) ?_
    rintro v ho ⟨rfl, rfl⟩
    rw [decide_eq_true hn]
    refine o_not rfl ?_
    refine w_nil ?_
    refine w_if_f rfl ?_
    refine w_skip ?_
    refine w_seq ?_
    refine w_region rfl ?_
    refine o_mov rfl ?_
    refine o_eq_t rfl rfl (by omega) ?_
    refine o_mov rfl ?_
    refine o_yes rfl rfl ?_
    refine o_mov rfl ?_
    refine o_yes rfl rfl ?_
    refine o_eq_t rfl rfl (by omega) ?_
    refine o_pick_t rfl rfl ?_
    refine o_mov rfl ?_
    refine o_yes rfl rfl ?_
    refine o_mov rfl ?_
    refine o_yes rfl rfl ?_
    refine o_eq_t rfl rfl (by omega) ?_
    refine o_pick_t rfl rfl ?_
    refine o_mov rfl ?_
    refine o_yes rfl rfl ?_
    refine o_mov rfl ?_
    refine o_yes rfl rfl ?_
    refine o_eq_t rfl rfl (by omega) ?_
    refine o_pick_t rfl rfl ?_
    refine o_mov rfl ?_
    refine o_yes rfl rfl ?_
    refine o_mov rfl ?_
    refine o_yes rfl rfl ?_
    refine o_mov rfl ?_
    refine o_yes rfl rfl ?_
    refine o_call (ref_Window hm) fn_36 rfl (by repeat (first | exact Take.nil | exact Take.all _ | (apply Take.cons; focus (repeat (first | exact Pick.here | apply Pick.next))))) ?_
    rintro vr ho ⟨Hr, hR, rfl⟩
    refine o_yes rfl rfl ?_
    refine o_call (same_i16 hW.ints hR.ints) fn_14 rfl (by repeat (first | exact Take.nil | exact Take.all _ | (apply Take.cons; focus (repeat (first | exact Pick.here | apply Pick.next))))) ?_
    rintro v ho ⟨rfl, rfl⟩
    rw [decide_eq_true rfl]
    refine o_pick_t rfl rfl ?_
    refine o_asg rfl ?_
    refine w_nil ?_
    exact w_ret (ret1 rfl rfl) ⟨rfl, rfl⟩ (Take.sub (by repeat (first | exact Take.nil | exact Take.all _ | (apply Take.cons; focus (repeat (first | exact Pick.here | apply Pick.next))))))
  · refine w_skip ?_
    refine w_seq ?_
    refine w_region rfl ?_
    refine o_call (bank_New) fn_12 rfl (by repeat (first | exact Take.nil | exact Take.all _ | (apply Take.cons; focus (repeat (first | exact Pick.here | apply Pick.next))))) ?_
    rintro v ho ⟨b, rfl, rfl⟩
    refine o_mov rfl ?_
    refine o_call (lapped_Window_bad _ n hn) fn_33 rfl (by repeat (first | exact Take.nil | exact Take.all _ | (apply Take.cons; focus (repeat (first | exact Pick.here | apply Pick.next))))) ?_
    rintro v ho ⟨rfl, rfl⟩
    refine o_mov rfl ?_
    refine o_ext rfl rfl ?_
    refine o_ext rfl rfl ?_
    refine o_asg rfl ?_
    refine o_asg rfl ?_
    refine w_nil ?_
    refine w_seq ?_
    refine w_region rfl ?_
    refine o_call (bank_New) fn_12 rfl (by repeat (first | exact Take.nil | exact Take.all _ | (apply Take.cons; focus (repeat (first | exact Pick.here | apply Pick.next))))) ?_
    rintro v ho ⟨b, rfl, rfl⟩
    refine o_mov rfl ?_
    refine o_call (lapped_NewLapper_bad _ n hn) fn_29 rfl (by repeat (first | exact Take.nil | exact Take.all _ | (apply Take.cons; focus (repeat (first | exact Pick.here | apply Pick.next))))) ?_
    rintro v ho ⟨rfl, rfl⟩
    refine o_mov rfl ?_
    refine o_ext rfl rfl ?_
    refine o_ext rfl rfl ?_
    refine o_asg rfl ?_
    refine o_asg rfl ?_
    refine w_nil ?_
    refine w_seq ?_
    refine w_region rfl ?_
    refine o_call (bank_New) fn_12 rfl (by repeat (first | exact Take.nil | exact Take.all _ | (apply Take.cons; focus (repeat (first | exact Pick.here | apply Pick.next))))) ?_
    rintro v ho ⟨b, rfl, rfl⟩
    refine o_mov rfl ?_
    refine o_call (lapped_NewUnlapper_bad _ n hn) fn_34 rfl (by repeat (first | exact Take.nil | exact Take.all _ | (apply Take.cons; focus (repeat (first | exact Pick.here | apply Pick.next))))) ?_
    rintro v ho ⟨rfl, rfl⟩
    refine o_mov rfl ?_
    refine o_ext rfl rfl ?_
    refine o_ext rfl rfl ?_
    refine o_asg rfl ?_
    refine o_asg rfl ?_
    refine w_nil ?_
    refine w_seq ?_
    refine w_region rfl ?_
    refine o_mov rfl ?_
    refine o_call (lapped_Window_bad _ n hn) fn_33 rfl (by repeat (first | exact Take.nil | exact Take.all _ | (apply Take.cons; focus (repeat (first | exact Pick.here | apply Pick.next))))) ?_
    rintro v ho ⟨rfl, rfl⟩
    refine o_mov rfl ?_
    refine o_ext rfl rfl ?_
    refine o_ext rfl rfl ?_
    refine o_asg rfl ?_
    refine o_asg rfl ?_
    refine w_nil ?_
    refine w_seq ?_
    refine w_seq ?_
    refine w_region rfl ?_
    refine o_mov rfl ?_
    refine o_call (ref_May _) fn_35 rfl (by repeat (first | exact Take.nil | exact Take.all _ | (apply Take.cons; focus (repeat (first | exact Pick.here | apply Pick.next))))) ?_
    rintro v ho ⟨rfl, rfl⟩
    rw [decide_eq_false hn]
    refine o_not rfl ?_
    refine w_nil ?_
    refine w_if_t rfl ?_
    refine w_seq ?_
    refine w_region rfl ?_
    refine o_mov rfl ?_
    refine o_len slc_26 rfl ?_
    refine o_eq_t rfl rfl (by omega) ?_
    refine o_mov rfl ?_
    refine o_yes rfl rfl ?_
    refine o_mov rfl ?_
    refine o_yes rfl rfl ?_
    refine o_eq_t rfl rfl (by omega) ?_
    refine o_pick_t rfl rfl ?_
    refine o_mov rfl ?_
    refine o_yes rfl rfl ?_
    refine o_mov rfl ?_
    refine o_yes rfl rfl ?_
    refine o_eq_t rfl rfl (by omega) ?_
    refine o_pick_t rfl rfl ?_
    refine o_mov rfl ?_
    refine o_yes rfl rfl ?_
    refine o_mov rfl ?_
    refine o_yes rfl rfl ?_
    refine o_eq_t rfl rfl (by omega) ?_
    refine o_pick_t rfl rfl ?_
    refine o_mov rfl ?_
    refine o_yes rfl rfl ?_
    refine o_mov rfl ?_
    refine o_yes rfl rfl ?_
    refine o_eq_t rfl rfl (by omega) ?_
    refine o_pick_t rfl rfl ?_
    refine o_asg rfl ?_
    refine w_nil ?_
    exact w_ret (ret1 rfl rfl) ⟨rfl, rfl⟩ (Take.sub (by repeat (first | exact Take.nil | exact Take.all _ | (apply Take.cons; focus (repeat (first | exact Pick.here | apply Pick.next))))))

end Go.Proofs.Ytjmnidcfgkdhcaa
