/- The law PolySplits: what bands any samples are split into. No condition but that numbers are of their kinds. -/
import Derived.Test.YtjmnidcfgkdhcaaTy
import Derived.Test.YtjmnidcfgkdhcaaFo
namespace Go.Proofs.Ytjmnidcfgkdhcaa
open Go.Eng
set_option linter.unusedVariables false
set_option linter.unusedSimpArgs false
set_option maxRecDepth 20000
attribute [local irreducible] WL WT
theorem poly_NewSplitter {m : Nat} (hm : m = 4 ∨ m = 8) {b : Nat} {ar : Array Value} {T : TypeId} {Tb : Hp} {s : Nat → Bool} {made told : Int} (hr : BankRep ar Tb s made told) (hmade : 0 ≤ made ∧ made ≤ 900000000) (htold : 0 ≤ told ∧ told ≤ 900000000) : Ctr Try.prog 18 [.pointer (some ⟨b, 0, none⟩), .int .i64 m] [[(b, .cells ar T (0, 0))], Tb] (fun v ho => ∃ p bx hv tv H1 H2 ar' Tb' s' made' told', v = .tuple #[.pointer (some ⟨p, 0, none⟩), .int .i64 0] ∧ OwnI H1 hv 35 .i16 (filterL m) ∧ OwnI H2 tv 35 .i16 (turnL (8 * m)) ∧ BankRep ar' Tb' s' made' told' ∧ ho = [[(p, .cells #[.int .i64 m, hv, tv, .slice (some ⟨bx, 0, none⟩) (10 * m) (10 * m)] 105 (0, 0))], [(bx, .cells (ints .i64 (List.replicate (10 * m) 0)) 2 (0, 0))], H1, H2, [(b, .cells ar' T (0, 0))], Tb']) := by
  rcases hm with rfl | rfl
  · exact poly_NewSplitter4 hr hmade htold
  · exact poly_NewSplitter8 hr hmade htold
theorem Rows.part {Ho Hi : Hp} {p : Option Addr} {c : Nat} {ws : List Value} {bs : List (List Int)} {k : IntKind} (hR : Rd Ho (.slice p bs.length c) 1 bs.length ws) (hI : ∀ i, i < bs.length → ∃ w, ws[i]? = some w ∧ Ints Hi w k (bs.getD i [])) {i : Nat} (hi : i < bs.length) :
    Rd Ho (.slice (slcAt p 1 0 c) (i + 1) c) 1 (bs.take (i + 1)).length (ws.take (i + 1)) ∧ ∀ q, q < (bs.take (i + 1)).length → ∃ w, (ws.take (i + 1))[q]? = some w ∧ Ints Hi w k ((bs.take (i + 1)).getD q []) := by
  have hl : (bs.take (i + 1)).length = i + 1 := by rw [List.length_take]; omega
  refine ⟨?_, fun q hq => ?_⟩
  · have := Rd.part hR (show 0 ≤ i + 1 by omega) (show i + 1 ≤ bs.length by omega)
    rw [hl]
    simpa using this
  · rw [hl] at hq
    obtain ⟨w, h1, h2⟩ := hI q (by omega)
    refine ⟨w, by rw [List.getElem?_take, if_pos hq]; exact h1, ?_⟩
    rw [List.getD_eq_getElem?_getD, List.getElem?_take, if_pos hq, ← List.getD_eq_getElem?_getD]
    exact h2

theorem splitter_Feed_bad {p : Nat} {T : TypeId} {m : Nat} {cs : Array Value} {A : Hp} (h0 : cs[0]? = some (.int .i64 m)) {x : List Int} {xv : Value} (hx : Ints A xv .i16 x) (hxl : x.length ≠ m) : Ctr Try.prog 20 [.pointer (some ⟨p, 0, none⟩), xv] ([[(p, .cells cs T (0, 0))], A]) (fun v ho => v = .tuple #[.slice none 0 0, .int .i64 1] ∧ ho = [[(p, .cells cs T (0, 0))], A]) := by
  refine spec_of Try.func20 rfl rfl fun w0 L => ?_
  refine w_seq ?_
  refine w_region rfl ?_
  refine o_asg rfl ?_
  refine o_asg rfl ?_
  refine w_nil ?_
  refine w_seq ?_
  refine w_block ?_
  refine w_seq ?_
  refine w_region rfl ?_
  refine o_mov rfl ?_
  refine o_pnil Try.underlying38 rfl rfl ?_
  refine o_asg rfl ?_
  refine w_nil ?_
  refine w_if_f rfl ?_
  refine w_seq ?_
  refine w_region rfl ?_
  refine o_mov rfl ?_
  refine o_lenI hx slc_26 rfl ?_
  refine o_mov rfl ?_
  refine o_nilc rfl ?_
  refine o_fld fld_105_0 rfl rfl ?_
  refine o_fld fld_101_0 rfl rfl ?_
  refine o_load lod_3 rfl (by repeat (first | exact At.here | (refine At.inA ?_; assumption) | apply At.next)) h0 ?_
  refine o_ne_t rfl rfl (by omega) ?_
  refine o_asg rfl ?_
  refine w_nil ?_
  refine w_if_t rfl ?_
  refine w_seq ?_
  refine w_region rfl ?_
  refine o_asg rfl ?_
  refine o_asg rfl ?_
  refine w_nil ?_
  exact w_ret (ret2 rfl rfl rfl) ⟨rfl, rfl⟩ (HSub.refl _)

theorem alive08  : Ctr Try.prog 17 [] ([]) (fun v ho => v = .bool true ∧ ho = []) := by
  refine spec_of Try.func17 rfl rfl fun w0 L => ?_
  refine w_emp ?_
  refine w_seq ?_
  refine w_region rfl ?_
  refine o_asg rfl ?_
  refine w_nil ?_
  refine w_seq ?_
  refine w_region rfl ?_
  refine o_call (bank_New) fn_12 rfl (by repeat (first | exact Take.nil | exact Take.all _ | (apply Take.cons; focus (repeat (first | exact Pick.here | apply Pick.next))))) ?_
  rintro v ho ⟨b, rfl, rfl⟩
  refine o_call (poly_NewSplitter (T := 98) (m := 4) (.inl rfl) BankRep.new (by omega) (by omega)) fn_18 rfl (by repeat (first | exact Take.nil | exact Take.all _ | (apply Take.cons; focus (repeat (first | exact Pick.here | apply Pick.next))))) ?_
  rintro v ho ⟨p, bx, hv, tv, H1, H2, ar1, Tb1, s1, m1, t1, rfl, hO1, hO2, hB1, rfl⟩
  refine o_mov rfl ?_
  refine o_ext rfl rfl ?_
  refine o_ext rfl rfl ?_
  refine o_asg rfl ?_
  refine o_asg rfl ?_
  refine w_nil ?_
  refine w_seq ?_
  refine w_seq ?_
  refine w_region rfl ?_
  refine o_mov rfl ?_
  refine o_ne_f rfl rfl (by omega) ?_
  refine o_mov rfl ?_
  refine o_yes rfl rfl ?_
  refine o_mov rfl ?_
  refine o_yes rfl rfl ?_
  refine o_pnil Try.underlying38 rfl rfl ?_
  refine o_pick_f rfl rfl ?_
  refine w_nil ?_
  refine w_if_f rfl ?_
  have hzs := splitL_zero (x := newH (List.replicate 4 0) (List.replicate (10 * 4) 0) 4) (m := 4) (fun i => by rw [show newH (List.replicate 4 0) (List.replicate (10 * 4) 0) 4 = List.replicate 40 (0 : Int) from rfl]; exact getD_rep _ _)
  refine w_skip ?_
  refine w_seq ?_
  refine w_region rfl ?_
  refine o_mov rfl ?_
  refine o_mks slc_26 zer_35 rfl rfl (by omega) (by omega) (by omega) (by omega) (fun b3 => ?_)
  rw [show madeCells (Value.int .i16 0).cells (Int.toNat 4 * 1) = ints .i16 (List.replicate 4 0) from ints_made _ 4]
  refine o_call (splitter_Feed (T := 105) (m := 4) (.inl rfl) hO1.ints hO2.ints (hist := List.replicate (10 * 4) 0) (by simp) (in16_rep _) (OwnI.mk_ (b := b3) (el := 35) (k := .i16) (xs := List.replicate 4 0) (by simp [maxLen])).ints (by simp) (in16_rep _)) fn_20 rfl (by repeat (first | exact Take.nil | exact Take.all _ | (apply Take.cons; focus (repeat (first | exact Pick.here | apply Pick.next))))) ?_
  rintro v ho ⟨v1, H', rfl, hO3, rfl⟩
  refine o_mov rfl ?_
  refine o_ext rfl rfl ?_
  refine o_ext rfl rfl ?_
  refine o_asg rfl ?_
  refine o_asg rfl ?_
  refine w_nil ?_
  refine w_seq ?_
  refine w_region rfl ?_
  refine o_mov rfl ?_
  refine o_mks slc_26 zer_35 rfl rfl (by omega) (by omega) (by omega) (by omega) (fun b5 => ?_)
  rw [show madeCells (Value.int .i16 0).cells (Int.toNat 5 * 1) = ints .i16 (List.replicate 5 0) from ints_made _ 5]
  refine o_call (splitter_Feed_bad (T := 105) (m := 4) rfl (OwnI.mk_ (b := b5) (el := 35) (k := .i16) (xs := List.replicate 5 0) (by simp [maxLen])).ints (by simp)) fn_20 rfl (by repeat (first | exact Take.nil | exact Take.all _ | (apply Take.cons; focus (repeat (first | exact Pick.here | apply Pick.next))))) ?_
  rintro v ho ⟨rfl, rfl⟩
  refine o_mov rfl ?_
  refine o_ext rfl rfl ?_
  refine o_ext rfl rfl ?_
  refine o_asg rfl ?_
  refine o_asg rfl ?_
  refine w_nil ?_
  refine w_seq ?_
  refine w_region rfl ?_
  refine o_mov rfl ?_
  refine o_eq_t rfl rfl (by omega) ?_
  refine o_mov rfl ?_
  refine o_yes rfl rfl ?_
  refine o_mov rfl ?_
  refine o_yes rfl rfl ?_
  refine o_mks slc_43 zer_21 rfl rfl (by omega) (by omega) (by omega) (by omega) (fun b7 => ?_)
  rw [show madeCells (Value.int .i32 0).cells (Int.toNat 4 * 1) = ints .i32 (List.replicate 4 0) from ints_made _ 4]
  refine o_yes rfl rfl ?_
  refine o_call (same_i32 hO3.ints (OwnI.mk_ (b := b7) (el := 21) (k := .i32) (xs := List.replicate 4 0) (by simp [maxLen])).ints) fn_21 rfl (by repeat (first | exact Take.nil | exact Take.all _ | (apply Take.cons; focus (repeat (first | exact Pick.here | apply Pick.next))))) ?_
  rintro v ho ⟨rfl, rfl⟩
  rw [hzs, decide_eq_true rfl]
  refine o_pick_t rfl rfl ?_
  refine o_mov rfl ?_
  refine o_yes rfl rfl ?_
  refine o_mov rfl ?_
  refine o_yes rfl rfl ?_
  refine o_eq_t rfl rfl (by omega) ?_
  refine o_pick_t rfl rfl ?_
  refine o_asg rfl ?_
  refine w_nil ?_
  exact w_ret (ret1 rfl rfl) ⟨rfl, rfl⟩ (Take.sub (by repeat (first | exact Take.nil | exact Take.all _ | (apply Take.cons; focus (repeat (first | exact Pick.here | apply Pick.next))))))

theorem PolySplits_ctr (eight : Bool) {v : Value} {xs : List Int} {A : Hp} (hx : Ints A v .i16 xs) (hwf : ∀ a ∈ xs, (Lit.int .i16 a).wf = true) : Ctr Try.prog 6 [.bool eight, v] ([A]) (fun v ho => v = .bool true ∧ ho = [A]) := by
  refine spec_of Try.func6 rfl rfl fun w0 L => ?_
  refine w_seq ?_
  refine w_region rfl ?_
  refine o_asg rfl ?_
  refine w_nil ?_
  refine w_seq ?_
  refine w_seq ?_
  refine w_region rfl ?_
  refine o_call (alive08) fn_17 rfl (by repeat (first | exact Take.nil | exact Take.all _ | (apply Take.cons; focus (repeat (first | exact Pick.here | apply Pick.next))))) ?_
  rintro v ho ⟨rfl, rfl⟩
  refine o_not rfl ?_
  refine w_nil ?_
  refine w_if_f rfl ?_
  refine w_skip ?_
  refine w_seq ?_
  refine w_seq ?_
  refine w_region rfl ?_
  refine o_mov rfl ?_
  refine o_lenI hx slc_26 rfl ?_
  refine o_gt rfl rfl ?_
  refine w_nil ?_
  refine w_if_d rfl (fun hlen => ?_) (fun hlen => ?_)
  · refine w_seq ?_
    refine w_region rfl ?_
    refine o_asg rfl ?_
    refine w_nil ?_
    exact w_ret (ret1 rfl rfl) ⟨rfl, rfl⟩ (Take.sub (by repeat (first | exact Take.nil | exact Take.all _ | (apply Take.cons; focus (repeat (first | exact Pick.here | apply Pick.next))))))
  · have hxi : in16 xs := fun a ha => wf_i16 (hwf a ha)
    refine w_skip ?_
    refine w_seq ?_
    refine w_region rfl ?_
    refine o_asg rfl ?_
    refine w_nil ?_
    refine w_seq ?_
    refine w_seq ?_
    refine w_region rfl ?_
    refine o_mov rfl ?_
    refine w_nil ?_
    refine w_cut_x (X := Nat) (fun m => [(1, v), (5, .int .i64 (m : Nat))]) (fun _ => [A]) (fun m => m = 4 ∨ m = 8) ?_ ?_
    · refine w_if rfl (fun h8 => ?_) (fun h8 => ?_)
      · refine w_region rfl ?_
        refine o_asg rfl ?_
        refine w_nil ?_
        exact w_again ⟨8, (.inr rfl), (by repeat (first | exact Sub.nil _ | refine Sub.cons rfl ?_)), (Take.sub (by repeat (first | exact Take.nil | exact Take.all _ | (apply Take.cons; focus (repeat (first | exact Pick.here | apply Pick.next))))))⟩
      · refine w_skip ?_
        exact w_again ⟨4, (.inl rfl), (by repeat (first | exact Sub.nil _ | refine Sub.cons rfl ?_)), (Take.sub (by repeat (first | exact Take.nil | exact Take.all _ | (apply Take.cons; focus (repeat (first | exact Pick.here | apply Pick.next))))))⟩
    · intro m hm
      refine w_emp ?_
      refine w_seq ?_
      refine w_region rfl ?_
      refine o_call (bank_New) fn_12 rfl (by repeat (first | exact Take.nil | exact Take.all _ | (apply Take.cons; focus (repeat (first | exact Pick.here | apply Pick.next))))) ?_
      rintro v ho ⟨b, rfl, rfl⟩
      refine o_mov rfl ?_
      refine o_call (poly_NewSplitter (T := 98) hm BankRep.new (by omega) (by omega)) fn_18 rfl (by repeat (first | exact Take.nil | exact Take.all _ | (apply Take.cons; focus (repeat (first | exact Pick.here | apply Pick.next))))) ?_
      rintro v ho ⟨p, bx, hv, tv, H1, H2, ar1, Tb1, s1, m1, t1, rfl, hO1, hO2, hB1, rfl⟩
      refine o_mov rfl ?_
      refine o_ext rfl rfl ?_
      refine o_ext rfl rfl ?_
      refine o_asg rfl ?_
      refine o_asg rfl ?_
      refine w_nil ?_
      refine w_seq ?_
      refine w_seq ?_
      refine w_region rfl ?_
      refine o_mov rfl ?_
      refine o_ne_f rfl rfl (by omega) ?_
      refine w_nil ?_
      refine w_if_f rfl ?_
      refine w_skip ?_
      refine w_seq ?_
      refine w_region rfl ?_
      refine o_mov rfl ?_
      refine o_mov rfl ?_
      refine o_call (cut_i16 hx (by omega) (by omega)) fn_19 rfl (by repeat (first | exact Take.nil | exact Take.all _ | (apply Take.cons; focus (repeat (first | exact Pick.here | apply Pick.next))))) ?_
      rintro vb ho ⟨Ho, Hi, ⟨ws, hOw, hws⟩, rfl⟩
      have hRd := hOw.rd
      obtain ⟨pb, cb, rfl, hcb⟩ := Rd.slice hRd
      refine o_asg rfl ?_
      refine w_nil ?_
      refine w_seq ?_
      refine w_seq ?_
      refine w_region rfl ?_
      have hbm : ∀ b ∈ cutL xs m, b.length = m := fun b hb => (cutL_in (by omega) hb).1
      have hbi : ∀ b ∈ cutL xs m, in16 b := fun b hb a ha => hxi a ((cutL_in (by omega) hb).2 a ha)
      have hbl : (cutL xs m).length ≤ 200 := by rw [cutL_len]; have := Nat.div_le_self xs.length m; omega
      rw [show List.replicate (10 * m) (0 : Int) = histL ((cutL xs m).take 0) m by rw [List.take_zero]; exact (histL_nil m).symm]
      refine o_asg rfl ?_
      refine w_nil ?_
      generalize cutL xs m = bs at *
      refine w_block ?_
      refine w_loop (X := Nat) (fun i => [(5, .int .i64 m), (6, .pointer (some ⟨p, 0, none⟩)), (8, .slice pb bs.length cb), (9, .int .i64 i)]) (fun i => [[(p, .cells #[.int .i64 m, hv, tv, .slice (some ⟨bx, 0, none⟩) (10 * m) (10 * m)] 105 (0, 0))], [(bx, .cells (ints .i64 (histL (bs.take i) m)) 2 (0, 0))], H1, H2, Ho, Hi, A]) (fun i => i ≤ bs.length) (fun i => bs.length - i) 0 (by omega) (by repeat (first | exact Sub.nil _ | refine Sub.cons rfl ?_)) (Take.sub (by repeat (first | exact Take.nil | exact Take.all _ | (apply Take.cons; focus (repeat (first | exact Pick.here | apply Pick.next)))))) ?_
      intro i hi
      refine w_seq ?_
      refine w_seq ?_
      refine w_region rfl ?_
      refine o_mov rfl ?_
      refine o_mov rfl ?_
      refine o_lenR hRd slc_41 rfl ?_
      refine o_lt rfl rfl ?_
      refine w_nil ?_
      refine w_if_d rfl (fun hl => ?_) (fun hl => ?_)
      · have hlt : i < bs.length := by omega
        obtain ⟨w, hw, hI1⟩ := hws i hlt
        have hmem := getD_memL hlt
        have hst := histL_step (bs := bs.take i) (hbm _ hmem)
        rw [take_stepL hlt] at hst
        have hRp := Rows.part hRd hws hlt
        refine w_skip ?_
        refine w_seq ?_
        refine w_block ?_
        refine w_seq ?_
        refine w_region rfl ?_
        refine o_mov rfl ?_
        refine o_mov rfl ?_
        refine o_mov rfl ?_
        refine o_idxR hRd (by repeat (first | exact Has.here | apply Has.next)) slc_41 rfl rfl ⟨by omega, by omega⟩ (fun bb ff arr TT fr hm1 hg1 => ?_)
        refine o_load lod_26 rfl hm1 (hg1 0 w (by rw [show (i : Int).toNat * 1 + 0 = i by omega]; exact hw)) ?_
        refine o_call (splitter_Feed (T := 105) hm hO1.ints hO2.ints (hist := histL (bs.take i) m) (histL_len _ _) (in16_hist m (fun b hb => hbi b (List.mem_of_mem_take hb))) hI1 (hbm _ hmem) (hbi _ hmem)) fn_20 rfl (by repeat (first | exact Take.nil | exact Take.all _ | (apply Take.cons; focus (repeat (first | exact Pick.here | apply Pick.next))))) ?_
        rintro v ho ⟨v1, H', rfl, hO3, rfl⟩
        rw [hst] at hO3 ⊢
        rw [histL_split _ hm] at hO3
        refine o_mov rfl ?_
        refine o_ext rfl rfl ?_
        refine o_ext rfl rfl ?_
        refine o_asg rfl ?_
        refine o_asg rfl ?_
        refine w_nil ?_
        refine w_seq ?_
        refine w_region rfl ?_
        refine o_mov rfl ?_
        refine o_ne_f rfl rfl (by omega) ?_
        refine o_mov rfl ?_
        refine o_yes rfl rfl ?_
        refine o_mov rfl ?_
        refine o_yes rfl rfl ?_
        refine o_mov rfl ?_
        refine o_yes rfl rfl ?_
        refine o_mov rfl ?_
        refine o_yes rfl rfl ?_
        refine o_add rfl rfl (by first | exact IntWalk.i64_in _ (by omega) | rfl) ?_
        refine o_yes rfl rfl ?_
        refine o_slS (i := 0) (j := (i : Int) + 1) slc_41 rfl rfl ⟨_, rfl⟩ ⟨by omega, by omega, by omega⟩ ?_
        rw [show (0 : Int).toNat = 0 from rfl, Nat.sub_zero, Nat.sub_zero, show ((i : Int) + 1).toNat = i + 1 by omega]
        refine o_yes rfl rfl ?_
        refine o_mov rfl ?_
        refine o_yes rfl rfl ?_
        refine o_call (ref_Split hm hRp.1 hRp.2 (fun b hb => hbm b (List.mem_of_mem_take hb)) (by rw [List.length_take]; omega) (fun b hb => hbi b (List.mem_of_mem_take hb))) fn_22 rfl (by repeat (first | exact Take.nil | exact Take.all _ | (apply Take.cons; focus (repeat (first | exact Pick.here | apply Pick.next))))) ?_
        rintro v ho ⟨H4, hO4, rfl⟩
        refine o_yes rfl rfl ?_
        refine o_call (same_i32 hO3.ints hO4.ints) fn_21 rfl (by repeat (first | exact Take.nil | exact Take.all _ | (apply Take.cons; focus (repeat (first | exact Pick.here | apply Pick.next))))) ?_
        rintro v ho ⟨rfl, rfl⟩
        rw [decide_eq_true rfl]
        refine o_yes rfl rfl ?_
        refine o_not rfl ?_
        refine o_pick_f rfl rfl ?_
        refine w_nil ?_
        refine w_if_f rfl ?_
        refine w_skip ?_
        refine w_inB ?_
        refine w_region rfl ?_
        refine o_mov rfl ?_
        refine o_add rfl rfl (by first | exact IntWalk.i64_in _ (by omega) | rfl) ?_
        refine o_asg rfl ?_
        refine w_nil ?_
        exact w_again ⟨(i + 1), (by omega), (by omega), (by repeat (first | exact Sub.nil _ | refine Sub.cons rfl ?_)), (Take.sub (by repeat (first | exact Take.nil | exact Take.all _ | (apply Take.cons; focus (repeat (first | exact Pick.here | apply Pick.next))))))⟩
      · refine w_exit rfl ?_
        refine w_seq ?_
        refine w_region rfl ?_
        refine o_asg rfl ?_
        refine w_nil ?_
        exact w_ret (ret1 rfl rfl) ⟨rfl, rfl⟩ (Take.sub (by repeat (first | exact Take.nil | exact Take.all _ | (apply Take.cons; focus (repeat (first | exact Pick.here | apply Pick.next))))))

end Go.Proofs.Ytjmnidcfgkdhcaa
