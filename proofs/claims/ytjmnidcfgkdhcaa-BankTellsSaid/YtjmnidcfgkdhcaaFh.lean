/- The law BankTells: what any questions are told, and what is counted. No condition but that numbers are of their kinds. -/
import Derived.Test.YtjmnidcfgkdhcaaTy
import Derived.Test.YtjmnidcfgkdhcaaFg
import Derived.Test.YtjmnidcfgkdhcaaEi
namespace Go.Proofs.Ytjmnidcfgkdhcaa
open Go.Eng
set_option linter.unusedVariables false
set_option linter.unusedSimpArgs false
set_option maxRecDepth 20000
attribute [local irreducible] WL WT
theorem mem_getDP {Ls : List (Int × Int)} {i : Nat} (h : i < Ls.length) : Ls.getD i (0, 0) ∈ Ls := by
  rw [List.getD_eq_getElem?_getD, List.getElem?_eq_getElem h]
  exact List.getElem_mem h
theorem pairsC_app (D : List (Int × Int)) (a : Int × Int) : pairsC .i64 .i64 (D ++ [a]) = pairsC .i64 .i64 D ++ [.int .i64 a.1, .int .i64 a.2] := by simp [pairsC]

theorem mem_step1 {D : List (Int × Int)} {a : Int × Int} {k : Nat} (hk : k < D.length) (h : true = decide (a ∈ D.take k)) : true = decide (a ∈ D.take (k + 1)) := by
  have h := of_decide_eq_true h.symm
  symm
  apply decide_eq_true
  rw [List.take_add_one]
  exact List.mem_append.2 (.inl h)
theorem mem_step2 {D : List (Int × Int)} {a1 n : Int} {k : Nat} (hk : k < D.length) (h : false = decide ((a1, n) ∈ D.take k)) : decide ((D.getD k (0, 0)).1 = a1 ∧ (D.getD k (0, 0)).2 = n) = decide ((a1, n) ∈ D.take (k + 1)) := by
  have h := of_decide_eq_false h.symm
  have e1 : D.getD k (0, 0) = D[k] := by simp [hk]
  rw [e1, List.take_add_one, List.getElem?_eq_getElem hk]
  rw [decide_eq_decide]
  simp only [Option.toList_some, List.mem_append, List.mem_singleton]
  constructor
  · rintro ⟨h1, h2⟩; right; rw [← h1, ← h2]
  · rintro (h1 | h1)
    · exact absurd h1 h
    · rw [← h1]; exact ⟨rfl, rfl⟩

theorem BankTells_ctr {v : Value} {Ls : List (Int × Int)} {A : Hp} (hr : Rd A v 2 Ls.length (pairsC .i64 .i64 Ls)) (hwf : ∀ p ∈ Ls, (Lit.int .i64 p.1).wf = true ∧ (Lit.int .i64 p.2).wf = true) : Ctr Try.prog 3 [v] ([A]) (fun v ho => v = .bool true ∧ ho = [A]) := by
  refine spec_of Try.func3 rfl rfl fun w0 L => ?_
  refine w_seq ?_
  refine w_region rfl ?_
  refine o_asg rfl ?_
  refine w_nil ?_
  refine w_seq ?_
  refine w_seq ?_
  refine w_region rfl ?_
  refine o_call (alive04) fn_11 rfl (by repeat (first | exact Take.nil | exact Take.all _ | (apply Take.cons; focus (repeat (first | exact Pick.here | apply Pick.next))))) ?_
  rintro v ho ⟨rfl, rfl⟩
  refine o_not rfl ?_
  refine w_nil ?_
  refine w_if_f rfl ?_
  refine w_skip ?_
  refine w_seq ?_
  refine w_seq ?_
  refine w_region rfl ?_
  refine o_mov rfl ?_
  refine o_lenR hr slc_22 rfl ?_
  refine o_gt rfl rfl ?_
  refine w_nil ?_
  refine w_if_d rfl (fun hlen => ?_) (fun hlen => ?_)
  · refine w_seq ?_
    refine w_region rfl ?_
    refine o_asg rfl ?_
    refine w_nil ?_
    exact w_ret (ret1 rfl rfl) ⟨rfl, rfl⟩ (Take.sub (by repeat (first | exact Take.nil | exact Take.all _ | (apply Take.cons; focus (repeat (first | exact Pick.here | apply Pick.next))))))
  · refine w_emp ?_
    refine w_emp ?_
    refine w_skip ?_
    refine w_seq ?_
    refine w_region rfl ?_
    refine o_call (bank_New) fn_12 rfl (by repeat (first | exact Take.nil | exact Take.all _ | (apply Take.cons; focus (repeat (first | exact Pick.here | apply Pick.next))))) ?_
    rintro v ho ⟨b, rfl, rfl⟩
    refine o_asg rfl ?_
    refine w_nil ?_
    refine w_seq ?_
    refine w_region rfl ?_
    refine o_asg rfl ?_
    refine w_nil ?_
    refine w_seq ?_
    refine w_region rfl ?_
    refine o_asg rfl ?_
    refine w_nil ?_
    refine w_seq ?_
    refine w_seq ?_
    refine w_region rfl ?_
    refine o_asg rfl ?_
    refine w_nil ?_
    refine w_block ?_
    refine w_loop (X := Nat × Value × Hp × List (Int × Int) × Array Value × Hp × (Nat → Bool) × Int) (fun x => [(0, v), (3, .pointer (some ⟨b, 0, none⟩)), (4, x.2.1), (5, .int .i64 x.2.2.2.2.2.2.2), (6, .int .i64 x.1)]) (fun x => [[(b, .cells x.2.2.2.2.1 98 (0, 0))], x.2.2.2.2.2.1, x.2.2.1, A]) (fun x => x.1 ≤ Ls.length ∧ Own x.2.2.1 x.2.1 31 2 x.2.2.2.1.length (pairsC .i64 .i64 x.2.2.2.1) ∧ BankRep x.2.2.2.2.1 x.2.2.2.2.2.1 x.2.2.2.2.2.2.1 x.2.2.2.1.length x.2.2.2.2.2.2.2 ∧ x.2.2.2.1.length ≤ x.1 ∧ 0 ≤ x.2.2.2.2.2.2.2 ∧ x.2.2.2.2.2.2.2 ≤ x.1 ∧ Kept x.2.2.2.1 x.2.2.2.2.2.2.1) (fun x => Ls.length - x.1) (0, .slice none 0 0, [], [], bankZero, [], (fun _ => false), 0) ⟨by simp, Own.nil _ _, BankRep.new, by simp, by simp, by simp, Kept.nil⟩ (by repeat (first | exact Sub.nil _ | refine Sub.cons rfl ?_)) (Take.sub (by repeat (first | exact Take.nil | exact Take.all _ | (apply Take.cons; focus (repeat (first | exact Pick.here | apply Pick.next)))))) ?_
    rintro ⟨i, vd, HD, D, ar, Tb, s, told⟩ ⟨hi, hD, hB, hDl, ht0, ht1, hK⟩
    refine w_seq ?_
    refine w_seq ?_
    refine w_region rfl ?_
    refine o_mov rfl ?_
    refine o_mov rfl ?_
    refine o_lenR hr slc_22 rfl ?_
    refine o_lt rfl rfl ?_
    refine w_nil ?_
    refine w_if_d rfl (fun hl => ?_) (fun hl => ?_)
    · simp only at hi hD hB hDl ht0 ht1 hK hl ⊢
      have hlt : i < Ls.length := by omega
      obtain ⟨q, hq⟩ : ∃ q, (Ls.getD i (0, 0)).1 = q := ⟨_, rfl⟩
      obtain ⟨n, hn⟩ : ∃ n, (Ls.getD i (0, 0)).2 = n := ⟨_, rfl⟩
      have hpg : ∀ j u, ([.int .i64 q, .int .i64 n] : List Value)[j]? = some u → (pairsC .i64 .i64 Ls)[i * 2 + j]? = some u := by rw [← hq, ← hn]; exact pairs_get hlt
      have hw := hn ▸ wf_i64 (hwf _ (mem_getDP hlt)).2
      refine w_skip ?_
      refine w_seq ?_
      refine w_block ?_
      refine w_seq ?_
      refine w_region rfl ?_
      refine o_mov rfl ?_
      refine o_mov rfl ?_
      refine o_mov rfl ?_
      refine o_idxR hr (by repeat (first | exact Has.here | apply Has.next)) slc_22 rfl rfl ⟨by omega, by omega⟩ (fun bb ff arr TT fr hm hg => ?_)
      refine o_loadL (us := [.int .i64 q, .int .i64 n]) lod_31 rfl hm rfl (fun j u hj => hg j u (by simpa using hpg j u hj)) ?_
      refine o_call (ask_any (T := 98) hB (by omega) (by omega) q n hw) fn_13 rfl (by repeat (first | exact Take.nil | exact Take.all _ | (apply Take.cons; focus (repeat (first | exact Pick.here | apply Pick.next))))) ?_
      rintro v ho ⟨tt, et, wt, art, Tbt, Ht, Gt, rfl, rfl, hBt, hRt⟩
      refine o_mov rfl ?_
      refine o_ext rfl rfl ?_
      refine o_ext rfl rfl ?_
      refine o_ext rfl rfl ?_
      refine o_asg rfl ?_
      refine o_asg rfl ?_
      refine o_asg rfl ?_
      refine w_nil ?_
      rcases ho : tabAsk q n with _ | ⟨k0, xs⟩
      · simp only [ho, BankAns, RefAns] at hBt hRt
        obtain ⟨rfl, rfl, rfl, rfl, rfl⟩ := hBt
        obtain ⟨rfl, rfl⟩ := hRt
        refine w_seq ?_
        refine w_seq ?_
        refine w_region rfl ?_
        refine o_mov rfl ?_
        refine o_mov rfl ?_
        refine o_call (same_i16 (OwnI.nil 35 .i16).ints (OwnI.nil 35 .i16).ints) fn_14 rfl (by repeat (first | exact Take.nil | exact Take.all _ | (apply Take.cons; focus (repeat (first | exact Pick.here | apply Pick.next))))) ?_
        rintro v ho ⟨rfl, rfl⟩
        rw [decide_eq_true rfl]
        refine o_not rfl ?_
        refine o_mov rfl ?_
        refine o_yes rfl rfl ?_
        refine o_mov rfl ?_
        refine o_yes rfl rfl ?_
        refine o_eq_f rfl rfl (by omega) ?_
        refine o_yes rfl rfl ?_
        refine o_mov rfl ?_
        refine o_yes rfl rfl ?_
        refine o_len slc_26 rfl ?_
        refine o_yes rfl rfl ?_
        refine o_gt_f rfl rfl (by omega) ?_
        refine o_yes rfl rfl ?_
        refine o_bne Try.underlying4 rfl rfl ?_
        refine o_pick_f rfl rfl ?_
        refine o_mov rfl ?_
        refine o_yes rfl rfl ?_
        refine o_mov rfl ?_
        refine o_yes rfl rfl ?_
        refine o_ne_t rfl rfl (by omega) ?_
        refine o_yes rfl rfl ?_
        refine o_mov rfl ?_
        refine o_yes rfl rfl ?_
        refine o_mov rfl ?_
        refine o_yes rfl rfl ?_
        refine o_ne_f rfl rfl (by omega) ?_
        refine o_yes rfl rfl ?_
        refine o_pick_t rfl rfl ?_
        refine o_pick_f rfl rfl ?_
        refine w_nil ?_
        refine w_if_f rfl ?_
        refine w_skip ?_
        refine w_seq ?_
        refine w_seq ?_
        refine w_region rfl ?_
        refine o_mov rfl ?_
        refine o_eq_f rfl rfl (by omega) ?_
        refine w_nil ?_
        refine w_if_f rfl ?_
        refine w_skip ?_
        refine w_seq ?_
        refine w_region rfl ?_
        refine o_mov rfl ?_
        refine o_call (bank_Made (T := 98) hB.made) fn_15 rfl (by repeat (first | exact Take.nil | exact Take.all _ | (apply Take.cons; focus (repeat (first | exact Pick.here | apply Pick.next))))) ?_
        rintro v ho ⟨rfl, rfl⟩
        refine o_mov rfl ?_
        refine o_lenR hD.rd slc_22 rfl ?_
        refine o_ne_f rfl rfl (by simp) ?_
        refine o_mov rfl ?_
        refine o_yes rfl rfl ?_
        refine o_mov rfl ?_
        refine o_yes rfl rfl ?_
        refine o_call (bank_Told (T := 98) hB.told) fn_16 rfl (by repeat (first | exact Take.nil | exact Take.all _ | (apply Take.cons; focus (repeat (first | exact Pick.here | apply Pick.next))))) ?_
        rintro v ho ⟨rfl, rfl⟩
        refine o_yes rfl rfl ?_
        refine o_mov rfl ?_
        refine o_yes rfl rfl ?_
        refine o_ne_f rfl rfl (by simp) ?_
        refine o_pick_f rfl rfl ?_
        refine w_nil ?_
        refine w_if_f rfl ?_
        refine w_skip ?_
        refine w_inB ?_
        refine w_region rfl ?_
        refine o_mov rfl ?_
        refine o_add rfl rfl (by first | exact IntWalk.i64_in _ (by omega) | rfl) ?_
        refine o_asg rfl ?_
        refine w_nil ?_
        exact w_again ⟨(i + 1, vd, HD, D, art, Tbt, s, told), ⟨by simp only; omega, hD, hB, by simp only [List.length_append, List.length_singleton]; omega, by simp only; omega, by simp only; omega, hK⟩, (by simp only; omega), (by repeat (first | exact Sub.nil _ | refine Sub.cons rfl ?_)), (Take.sub (by repeat (first | exact Take.nil | exact Take.all _ | (apply Take.cons; focus (repeat (first | exact Pick.here | apply Pick.next))))))⟩
      · have hpos := tabAsk_pos ho
        simp only [ho, BankAns, RefAns] at hBt hRt
        obtain ⟨rfl, hnn, hO, hB'⟩ := hBt
        have hixq : ixOf (q, n) = some k0 := by simp [ixOf, ho]
        have hmax := hRt.ints.2.1
        refine w_seq ?_
        refine w_seq ?_
        refine w_region rfl ?_
        refine o_mov rfl ?_
        refine o_mov rfl ?_
        refine o_call (same_i16 hO.ints hRt.ints) fn_14 rfl (by repeat (first | exact Take.nil | exact Take.all _ | (apply Take.cons; focus (repeat (first | exact Pick.here | apply Pick.next))))) ?_
        rintro v ho ⟨rfl, rfl⟩
        rw [decide_eq_true rfl]
        refine o_not rfl ?_
        refine o_mov rfl ?_
        refine o_yes rfl rfl ?_
        refine o_mov rfl ?_
        refine o_yes rfl rfl ?_
        refine o_eq_t rfl rfl (by omega) ?_
        refine o_yes rfl rfl ?_
        refine o_mov rfl ?_
        refine o_yes rfl rfl ?_
        refine o_lenI hRt.ints slc_26 rfl ?_
        refine o_yes rfl rfl ?_
        refine o_gt_t rfl rfl (by omega) ?_
        refine o_yes rfl rfl ?_
        refine o_bne Try.underlying4 rfl rfl ?_
        refine o_pick_f rfl rfl ?_
        refine o_mov rfl ?_
        refine o_yes rfl rfl ?_
        refine o_mov rfl ?_
        refine o_yes rfl rfl ?_
        refine o_ne_f rfl rfl (by omega) ?_
        refine o_yes rfl rfl ?_
        refine o_mov rfl ?_
        refine o_no rfl rfl rfl ?_
        refine o_no rfl rfl rfl ?_
        refine o_yes rfl rfl ?_
        refine o_pick_f rfl rfl ?_
        refine o_pick_f rfl rfl ?_
        refine w_nil ?_
        refine w_if_f rfl ?_
        refine w_skip ?_
        refine w_seq ?_
        refine w_seq ?_
        refine w_region rfl ?_
        refine o_mov rfl ?_
        refine o_eq_t rfl rfl (by omega) ?_
        refine w_nil ?_
        refine w_if_t rfl ?_
        rcases show q = 0 ∨ q = 1 ∨ (q ≠ 0 ∧ q ≠ 1) by omega with rfl | rfl | hq2
        · have hnrm : ((0, n) : Int × Int).1 = 0 ∨ ((0, n) : Int × Int).1 = 1 ∨ ((0, n) : Int × Int).1 = 2 := .inl rfl
          have hix := hixq
          refine w_seq ?_
          refine w_region rfl ?_
          refine o_mov rfl ?_
          refine o_add rfl rfl (by first | exact IntWalk.i64_in _ (by omega) | rfl) ?_
          refine o_asg rfl ?_
          refine w_nil ?_
          refine w_seq ?_
          refine w_region rfl ?_
          refine o_mov rfl ?_
          refine o_mov rfl ?_
          refine o_idxR hr (by repeat (first | exact Has.here | apply Has.next)) slc_22 rfl rfl ⟨by omega, by omega⟩ (fun bb ff arr TT fr hm hg => ?_)
          refine o_loadL (us := [.int .i64 0, .int .i64 n]) lod_31 rfl hm rfl (fun j u hj => hg j u (by simpa using hpg j u hj)) ?_
          refine o_alloc zer_31 (fun b8 => ?_)
          refine o_storeN siz_31 rfl rfl rfl (by repeat (first | exact Upd.here | apply Upd.next)) (by first | exact Nat.le_of_ble_eq_true rfl | decide | (simp; done) | omega) (by first | rfl | simp) ?_
          refine w_nil ?_
          refine w_seq ?_
          refine w_seq ?_
          refine w_region rfl ?_
          refine o_fld fld_31_0 rfl rfl ?_
          refine o_load lod_3 rfl (by repeat (first | exact At.here | (refine At.inA ?_; assumption) | apply At.next)) rfl ?_
          refine o_ne_f rfl rfl (by omega) ?_
          refine o_mov rfl ?_
          refine o_no rfl rfl rfl ?_
          refine o_no rfl rfl rfl ?_
          refine o_no rfl rfl rfl ?_
          refine o_pick_f rfl rfl ?_
          refine w_nil ?_
          refine w_if_f rfl ?_
          refine w_skip ?_
          refine w_seq ?_
          refine w_region rfl ?_
          refine o_asg rfl ?_
          refine w_nil ?_
          refine w_seq ?_
          refine w_seq ?_
          refine w_region rfl ?_
          refine o_asg rfl ?_
          refine w_nil ?_
          refine w_block ?_
          refine w_loop (X := Nat × Bool) (fun y => [(0, v), (3, .pointer (some ⟨b, 0, none⟩)), (4, vd), (5, .int .i64 (told + 1)), (6, .int .i64 i), (10, .pointer (some ⟨b8, 0, none⟩)), (11, .bool y.2), (12, .int .i64 y.1)]) (fun y => [[(b8, .cells #[.int .i64 0, .int .i64 n] 31 (0, 0))], [(b, .cells art 98 (0, 0))], Tbt, HD, A]) (fun y => y.1 ≤ D.length ∧ y.2 = decide ((0, n) ∈ D.take y.1)) (fun y => D.length - y.1) (0, false) ⟨by simp, by simp⟩ (by repeat (first | exact Sub.nil _ | refine Sub.cons rfl ?_)) (Take.sub (by repeat (first | exact Take.nil | exact Take.all _ | (apply Take.cons; focus (repeat (first | exact Pick.here | apply Pick.next)))))) ?_
          rintro ⟨k, iss⟩ ⟨hk, his⟩
          refine w_seq ?_
          refine w_seq ?_
          refine w_region rfl ?_
          refine o_mov rfl ?_
          refine o_mov rfl ?_
          refine o_lenR hD.rd slc_22 rfl ?_
          refine o_lt rfl rfl ?_
          refine w_nil ?_
          refine w_if_d rfl (fun hkl => ?_) (fun hkl => ?_)
          · rcases Bool.eq_false_or_eq_true iss with rfl | rfl
            · simp only at hk his hkl ⊢
              refine w_skip ?_
              refine w_seq ?_
              refine w_block ?_
              refine w_any [0, 1, 2, 3, 4, 5, 6, 7, 8, 9] mixed (by kernel_rfl) ?_
              refine o_mov rfl ?_
              refine o_mov rfl ?_
              refine o_no rfl rfl rfl ?_
              refine o_no rfl rfl rfl ?_
              refine o_no rfl rfl rfl ?_
              refine o_no rfl rfl rfl ?_
              refine o_no rfl rfl rfl ?_
              refine o_no rfl rfl rfl ?_
              refine o_pick_t rfl rfl ?_
              refine o_asg rfl ?_
              refine w_nil ?_
              refine w_inB ?_
              refine w_region rfl ?_
              refine o_mov rfl ?_
              refine o_add rfl rfl (by first | exact IntWalk.i64_in _ (by omega) | rfl) ?_
              refine o_asg rfl ?_
              refine w_nil ?_
              exact w_again ⟨(k + 1, true), ⟨by simp only; omega, mem_step1 (by omega) his⟩, (by simp only; omega), (by repeat (first | exact Sub.nil _ | refine Sub.cons rfl ?_)), (Take.sub (by repeat (first | exact Take.nil | exact Take.all _ | (apply Take.cons; focus (repeat (first | exact Pick.here | apply Pick.next))))))⟩
            · simp only at hk his hkl ⊢
              refine w_skip ?_
              refine w_seq ?_
              refine w_block ?_
              refine w_any [0, 1, 2, 3, 4, 5, 6, 7, 8, 9] mixed (by kernel_rfl) ?_
              refine o_mov rfl ?_
              refine o_mov rfl ?_
              refine o_yes rfl rfl ?_
              refine o_mov rfl ?_
              refine o_yes rfl rfl ?_
              refine o_mov rfl ?_
              refine o_yes rfl rfl ?_
              refine o_idxR hD.rd (by repeat (first | exact Has.here | apply Has.next)) slc_22 rfl rfl ⟨by omega, by omega⟩ (fun bb ff arr TT fr hm hg => ?_)
              refine o_yes rfl rfl ?_
              refine o_loadL (us := [.int .i64 (D.getD k (0, 0)).1, .int .i64 (D.getD k (0, 0)).2]) lod_31 rfl hm rfl (fun j u hj => hg j u (by simpa using pairs_get (show k < D.length by omega) j u hj)) ?_
              refine o_yes rfl rfl ?_
              refine o_loadN lod_31 rfl (by repeat (first | exact At.here | (refine At.inA ?_; assumption) | apply At.next)) (by first | exact Nat.le_of_ble_eq_true rfl | decide | (simp; done) | omega) rfl ?_
              refine o_yes rfl rfl ?_
              refine o_eqP (k0 := .i64) (k1 := .i64) (by kernel_rfl) (by kernel_rfl) (by kernel_rfl) (by kernel_rfl) rfl rfl ?_
              refine o_pick_f rfl rfl ?_
              refine o_asg rfl ?_
              refine w_nil ?_
              refine w_inB ?_
              refine w_region rfl ?_
              refine o_mov rfl ?_
              refine o_add rfl rfl (by first | exact IntWalk.i64_in _ (by omega) | rfl) ?_
              refine o_asg rfl ?_
              refine w_nil ?_
              exact w_again ⟨(k + 1, decide ((D.getD k (0, 0)).1 = 0 ∧ (D.getD k (0, 0)).2 = n)), ⟨by simp only; omega, mem_step2 (by omega) his⟩, (by simp only; omega), (by repeat (first | exact Sub.nil _ | refine Sub.cons rfl ?_)), (Take.sub (by repeat (first | exact Take.nil | exact Take.all _ | (apply Take.cons; focus (repeat (first | exact Pick.here | apply Pick.next))))))⟩
          · simp only at hk his hkl ⊢
            obtain rfl : k = D.length := by omega
            rw [List.take_length] at his
            by_cases hmem : (0, n) ∈ D
            · rw [decide_eq_true hmem] at his
              subst his
              refine w_exit rfl ?_
              refine w_seq ?_
              refine w_region rfl ?_
              refine o_mov rfl ?_
              refine o_not rfl ?_
              refine w_nil ?_
              refine w_if_f rfl ?_
              have hsk := (hK.mem hix hnrm).2 hmem
              rw [hsk] at hB'
              simp only [if_true, Int.add_zero] at hB'
              refine w_skip ?_
              refine w_seq ?_
              refine w_region rfl ?_
              refine o_mov rfl ?_
              refine o_call (bank_Made (T := 98) hB'.made) fn_15 rfl (by repeat (first | exact Take.nil | exact Take.all _ | (apply Take.cons; focus (repeat (first | exact Pick.here | apply Pick.next))))) ?_
              rintro v ho ⟨rfl, rfl⟩
              refine o_mov rfl ?_
              refine o_lenR hD.rd slc_22 rfl ?_
              refine o_ne_f rfl rfl (by simp) ?_
              refine o_mov rfl ?_
              refine o_yes rfl rfl ?_
              refine o_mov rfl ?_
              refine o_yes rfl rfl ?_
              refine o_call (bank_Told (T := 98) hB'.told) fn_16 rfl (by repeat (first | exact Take.nil | exact Take.all _ | (apply Take.cons; focus (repeat (first | exact Pick.here | apply Pick.next))))) ?_
              rintro v ho ⟨rfl, rfl⟩
              refine o_yes rfl rfl ?_
              refine o_mov rfl ?_
              refine o_yes rfl rfl ?_
              refine o_ne_f rfl rfl (by simp) ?_
              refine o_pick_f rfl rfl ?_
              refine w_nil ?_
              refine w_if_f rfl ?_
              refine w_skip ?_
              refine w_inB ?_
              refine w_region rfl ?_
              refine o_mov rfl ?_
              refine o_add rfl rfl (by first | exact IntWalk.i64_in _ (by omega) | rfl) ?_
              refine o_asg rfl ?_
              refine w_nil ?_
              exact w_again ⟨(i + 1, vd, HD, D, art, Tbt, _, (told + 1)), ⟨by simp only; omega, hD, hB', by simp only [List.length_append, List.length_singleton]; omega, by simp only; omega, by simp only; omega, hK.old hsk⟩, (by simp only; omega), (by repeat (first | exact Sub.nil _ | refine Sub.cons rfl ?_)), (Take.sub (by repeat (first | exact Take.nil | exact Take.all _ | (apply Take.cons; focus (repeat (first | exact Pick.here | apply Pick.next))))))⟩
            · rw [decide_eq_false hmem] at his
              subst his
              refine w_exit rfl ?_
              refine w_seq ?_
              refine w_region rfl ?_
              refine o_mov rfl ?_
              refine o_not rfl ?_
              refine w_nil ?_
              refine w_if_t rfl ?_
              have hsk : s k0 = false := by cases hs : s k0 with
      | false => rfl
      | true => exact absurd ((hK.mem hix hnrm).1 hs) hmem
              rw [hsk] at hB'
              simp only [Bool.false_eq_true, if_false] at hB'
              refine w_region rfl ?_
              refine o_mov rfl ?_
              refine o_loadN lod_31 rfl (by repeat (first | exact At.here | (refine At.inA ?_; assumption) | apply At.next)) (by first | exact Nat.le_of_ble_eq_true rfl | decide | (simp; done) | omega) rfl ?_
              refine o_bslN [_] slc_22 zer_31 (Nat.le_of_ble_eq_true rfl) rfl rfl (fun b11 => ?_)
              refine o_appS [.int .i64 0, .int .i64 n] slc_22 zer_31 rfl rfl rfl hD (by repeat (first | exact Pick.here | apply Pick.next)) rfl (by repeat (first | exact Has.here | apply Has.next)) rfl (Nat.le_of_ble_eq_true rfl) (by simp only [maxLen]; omega) (by omega) (fun v' H' hO2 => ?_)
              have hD' : Own H' v' 31 2 (D ++ [(0, n)]).length (pairsC .i64 .i64 (D ++ [(0, n)])) := by rw [pairsC_app, List.length_append]; exact hO2
              have hB2 : BankRep art Tbt (fun j => j == k0 || s j) ((D ++ [(0, n)]).length : Nat) (told + 1) := by rw [List.length_append]; exact hB'
              refine o_asg rfl ?_
              refine w_nil ?_
              refine w_seq ?_
              refine w_region rfl ?_
              refine o_mov rfl ?_
              refine o_call (bank_Made (T := 98) hB2.made) fn_15 rfl (by repeat (first | exact Take.nil | exact Take.all _ | (apply Take.cons; focus (repeat (first | exact Pick.here | apply Pick.next))))) ?_
              rintro v ho ⟨rfl, rfl⟩
              refine o_mov rfl ?_
              refine o_lenR hD'.rd slc_22 rfl ?_
              refine o_ne_f rfl rfl (by simp) ?_
              refine o_mov rfl ?_
              refine o_yes rfl rfl ?_
              refine o_mov rfl ?_
              refine o_yes rfl rfl ?_
              refine o_call (bank_Told (T := 98) hB2.told) fn_16 rfl (by repeat (first | exact Take.nil | exact Take.all _ | (apply Take.cons; focus (repeat (first | exact Pick.here | apply Pick.next))))) ?_
              rintro v ho ⟨rfl, rfl⟩
              refine o_yes rfl rfl ?_
              refine o_mov rfl ?_
              refine o_yes rfl rfl ?_
              refine o_ne_f rfl rfl (by simp) ?_
              refine o_pick_f rfl rfl ?_
              refine w_nil ?_
              refine w_if_f rfl ?_
              refine w_skip ?_
              refine w_inB ?_
              refine w_region rfl ?_
              refine o_mov rfl ?_
              refine o_add rfl rfl (by first | exact IntWalk.i64_in _ (by omega) | rfl) ?_
              refine o_asg rfl ?_
              refine w_nil ?_
              exact w_again ⟨(i + 1, v', H', (D ++ [(0, n)]), art, Tbt, _, (told + 1)), ⟨by simp only; omega, hD', hB2, by simp only [List.length_append, List.length_singleton]; omega, by simp only; omega, by simp only; omega, hK.new hix hnrm⟩, (by simp only; omega), (by repeat (first | exact Sub.nil _ | refine Sub.cons rfl ?_)), (Take.sub (by repeat (first | exact Take.nil | exact Take.all _ | (apply Take.cons; focus (repeat (first | exact Pick.here | apply Pick.next))))))⟩
        · have hnrm : ((1, n) : Int × Int).1 = 0 ∨ ((1, n) : Int × Int).1 = 1 ∨ ((1, n) : Int × Int).1 = 2 := .inr (.inl rfl)
          have hix := hixq
          refine w_seq ?_
          refine w_region rfl ?_
          refine o_mov rfl ?_
          refine o_add rfl rfl (by first | exact IntWalk.i64_in _ (by omega) | rfl) ?_
          refine o_asg rfl ?_
          refine w_nil ?_
          refine w_seq ?_
          refine w_region rfl ?_
          refine o_mov rfl ?_
          refine o_mov rfl ?_
          refine o_idxR hr (by repeat (first | exact Has.here | apply Has.next)) slc_22 rfl rfl ⟨by omega, by omega⟩ (fun bb ff arr TT fr hm hg => ?_)
          refine o_loadL (us := [.int .i64 1, .int .i64 n]) lod_31 rfl hm rfl (fun j u hj => hg j u (by simpa using hpg j u hj)) ?_
          refine o_alloc zer_31 (fun b14 => ?_)
          refine o_storeN siz_31 rfl rfl rfl (by repeat (first | exact Upd.here | apply Upd.next)) (by first | exact Nat.le_of_ble_eq_true rfl | decide | (simp; done) | omega) (by first | rfl | simp) ?_
          refine w_nil ?_
          refine w_seq ?_
          refine w_seq ?_
          refine w_region rfl ?_
          refine o_fld fld_31_0 rfl rfl ?_
          refine o_load lod_3 rfl (by repeat (first | exact At.here | (refine At.inA ?_; assumption) | apply At.next)) rfl ?_
          refine o_ne_t rfl rfl (by omega) ?_
          refine o_mov rfl ?_
          refine o_yes rfl rfl ?_
          refine o_fld fld_31_0 rfl rfl ?_
          refine o_yes rfl rfl ?_
          refine o_load lod_3 rfl (by repeat (first | exact At.here | (refine At.inA ?_; assumption) | apply At.next)) rfl ?_
          refine o_yes rfl rfl ?_
          refine o_ne_f rfl rfl (by omega) ?_
          refine o_pick_t rfl rfl ?_
          refine w_nil ?_
          refine w_if_f rfl ?_
          refine w_skip ?_
          refine w_seq ?_
          refine w_region rfl ?_
          refine o_asg rfl ?_
          refine w_nil ?_
          refine w_seq ?_
          refine w_seq ?_
          refine w_region rfl ?_
          refine o_asg rfl ?_
          refine w_nil ?_
          refine w_block ?_
          refine w_loop (X := Nat × Bool) (fun y => [(0, v), (3, .pointer (some ⟨b, 0, none⟩)), (4, vd), (5, .int .i64 (told + 1)), (6, .int .i64 i), (10, .pointer (some ⟨b14, 0, none⟩)), (11, .bool y.2), (12, .int .i64 y.1)]) (fun y => [[(b14, .cells #[.int .i64 1, .int .i64 n] 31 (0, 0))], [(b, .cells art 98 (0, 0))], Tbt, HD, A]) (fun y => y.1 ≤ D.length ∧ y.2 = decide ((1, n) ∈ D.take y.1)) (fun y => D.length - y.1) (0, false) ⟨by simp, by simp⟩ (by repeat (first | exact Sub.nil _ | refine Sub.cons rfl ?_)) (Take.sub (by repeat (first | exact Take.nil | exact Take.all _ | (apply Take.cons; focus (repeat (first | exact Pick.here | apply Pick.next)))))) ?_
          rintro ⟨k, iss⟩ ⟨hk, his⟩
          refine w_seq ?_
          refine w_seq ?_
          refine w_region rfl ?_
          refine o_mov rfl ?_
          refine o_mov rfl ?_
          refine o_lenR hD.rd slc_22 rfl ?_
          refine o_lt rfl rfl ?_
          refine w_nil ?_
          refine w_if_d rfl (fun hkl => ?_) (fun hkl => ?_)
          · rcases Bool.eq_false_or_eq_true iss with rfl | rfl
            · simp only at hk his hkl ⊢
              refine w_skip ?_
              refine w_seq ?_
              refine w_block ?_
              refine w_any [0, 1, 2, 3, 4, 5, 6, 7, 8, 9] mixed (by kernel_rfl) ?_
              refine o_mov rfl ?_
              refine o_mov rfl ?_
              refine o_no rfl rfl rfl ?_
              refine o_no rfl rfl rfl ?_
              refine o_no rfl rfl rfl ?_
              refine o_no rfl rfl rfl ?_
              refine o_no rfl rfl rfl ?_
              refine o_no rfl rfl rfl ?_
              refine o_pick_t rfl rfl ?_
              refine o_asg rfl ?_
              refine w_nil ?_
              refine w_inB ?_
              refine w_region rfl ?_
              refine o_mov rfl ?_
              refine o_add rfl rfl (by first | exact IntWalk.i64_in _ (by omega) | rfl) ?_
              refine o_asg rfl ?_
              refine w_nil ?_
              exact w_again ⟨(k + 1, true), ⟨by simp only; omega, mem_step1 (by omega) his⟩, (by simp only; omega), (by repeat (first | exact Sub.nil _ | refine Sub.cons rfl ?_)), (Take.sub (by repeat (first | exact Take.nil | exact Take.all _ | (apply Take.cons; focus (repeat (first | exact Pick.here | apply Pick.next))))))⟩
            · simp only at hk his hkl ⊢
              refine w_skip ?_
              refine w_seq ?_
              refine w_block ?_
              refine w_any [0, 1, 2, 3, 4, 5, 6, 7, 8, 9] mixed (by kernel_rfl) ?_
              refine o_mov rfl ?_
              refine o_mov rfl ?_
              refine o_yes rfl rfl ?_
              refine o_mov rfl ?_
              refine o_yes rfl rfl ?_
              refine o_mov rfl ?_
              refine o_yes rfl rfl ?_
              refine o_idxR hD.rd (by repeat (first | exact Has.here | apply Has.next)) slc_22 rfl rfl ⟨by omega, by omega⟩ (fun bb ff arr TT fr hm hg => ?_)
              refine o_yes rfl rfl ?_
              refine o_loadL (us := [.int .i64 (D.getD k (0, 0)).1, .int .i64 (D.getD k (0, 0)).2]) lod_31 rfl hm rfl (fun j u hj => hg j u (by simpa using pairs_get (show k < D.length by omega) j u hj)) ?_
              refine o_yes rfl rfl ?_
              refine o_loadN lod_31 rfl (by repeat (first | exact At.here | (refine At.inA ?_; assumption) | apply At.next)) (by first | exact Nat.le_of_ble_eq_true rfl | decide | (simp; done) | omega) rfl ?_
              refine o_yes rfl rfl ?_
              refine o_eqP (k0 := .i64) (k1 := .i64) (by kernel_rfl) (by kernel_rfl) (by kernel_rfl) (by kernel_rfl) rfl rfl ?_
              refine o_pick_f rfl rfl ?_
              refine o_asg rfl ?_
              refine w_nil ?_
              refine w_inB ?_
              refine w_region rfl ?_
              refine o_mov rfl ?_
              refine o_add rfl rfl (by first | exact IntWalk.i64_in _ (by omega) | rfl) ?_
              refine o_asg rfl ?_
              refine w_nil ?_
              exact w_again ⟨(k + 1, decide ((D.getD k (0, 0)).1 = 1 ∧ (D.getD k (0, 0)).2 = n)), ⟨by simp only; omega, mem_step2 (by omega) his⟩, (by simp only; omega), (by repeat (first | exact Sub.nil _ | refine Sub.cons rfl ?_)), (Take.sub (by repeat (first | exact Take.nil | exact Take.all _ | (apply Take.cons; focus (repeat (first | exact Pick.here | apply Pick.next))))))⟩
          · simp only at hk his hkl ⊢
            obtain rfl : k = D.length := by omega
            rw [List.take_length] at his
            by_cases hmem : (1, n) ∈ D
            · rw [decide_eq_true hmem] at his
              subst his
              refine w_exit rfl ?_
              refine w_seq ?_
              refine w_region rfl ?_
              refine o_mov rfl ?_
              refine o_not rfl ?_
              refine w_nil ?_
              refine w_if_f rfl ?_
              have hsk := (hK.mem hix hnrm).2 hmem
              rw [hsk] at hB'
              simp only [if_true, Int.add_zero] at hB'
              refine w_skip ?_
              refine w_seq ?_
              refine w_region rfl ?_
              refine o_mov rfl ?_
              refine o_call (bank_Made (T := 98) hB'.made) fn_15 rfl (by repeat (first | exact Take.nil | exact Take.all _ | (apply Take.cons; focus (repeat (first | exact Pick.here | apply Pick.next))))) ?_
              rintro v ho ⟨rfl, rfl⟩
              refine o_mov rfl ?_
              refine o_lenR hD.rd slc_22 rfl ?_
              refine o_ne_f rfl rfl (by simp) ?_
              refine o_mov rfl ?_
              refine o_yes rfl rfl ?_
              refine o_mov rfl ?_
              refine o_yes rfl rfl ?_
              refine o_call (bank_Told (T := 98) hB'.told) fn_16 rfl (by repeat (first | exact Take.nil | exact Take.all _ | (apply Take.cons; focus (repeat (first | exact Pick.here | apply Pick.next))))) ?_
              rintro v ho ⟨rfl, rfl⟩
              refine o_yes rfl rfl ?_
              refine o_mov rfl ?_
              refine o_yes rfl rfl ?_
              refine o_ne_f rfl rfl (by simp) ?_
              refine o_pick_f rfl rfl ?_
              refine w_nil ?_
              refine w_if_f rfl ?_
              refine w_skip ?_
              refine w_inB ?_
              refine w_region rfl ?_
              refine o_mov rfl ?_
              refine o_add rfl rfl (by first | exact IntWalk.i64_in _ (by omega) | rfl) ?_
              refine o_asg rfl ?_
              refine w_nil ?_
              exact w_again ⟨(i + 1, vd, HD, D, art, Tbt, _, (told + 1)), ⟨by simp only; omega, hD, hB', by simp only [List.length_append, List.length_singleton]; omega, by simp only; omega, by simp only; omega, hK.old hsk⟩, (by simp only; omega), (by repeat (first | exact Sub.nil _ | refine Sub.cons rfl ?_)), (Take.sub (by repeat (first | exact Take.nil | exact Take.all _ | (apply Take.cons; focus (repeat (first | exact Pick.here | apply Pick.next))))))⟩
            · rw [decide_eq_false hmem] at his
              subst his
              refine w_exit rfl ?_
              refine w_seq ?_
              refine w_region rfl ?_
              refine o_mov rfl ?_
              refine o_not rfl ?_
              refine w_nil ?_
              refine w_if_t rfl ?_
              have hsk : s k0 = false := by cases hs : s k0 with
      | false => rfl
      | true => exact absurd ((hK.mem hix hnrm).1 hs) hmem
              rw [hsk] at hB'
              simp only [Bool.false_eq_true, if_false] at hB'
              refine w_region rfl ?_
              refine o_mov rfl ?_
              refine o_loadN lod_31 rfl (by repeat (first | exact At.here | (refine At.inA ?_; assumption) | apply At.next)) (by first | exact Nat.le_of_ble_eq_true rfl | decide | (simp; done) | omega) rfl ?_
              refine o_bslN [_] slc_22 zer_31 (Nat.le_of_ble_eq_true rfl) rfl rfl (fun b17 => ?_)
              refine o_appS [.int .i64 1, .int .i64 n] slc_22 zer_31 rfl rfl rfl hD (by repeat (first | exact Pick.here | apply Pick.next)) rfl (by repeat (first | exact Has.here | apply Has.next)) rfl (Nat.le_of_ble_eq_true rfl) (by simp only [maxLen]; omega) (by omega) (fun v' H' hO2 => ?_)
              have hD' : Own H' v' 31 2 (D ++ [(1, n)]).length (pairsC .i64 .i64 (D ++ [(1, n)])) := by rw [pairsC_app, List.length_append]; exact hO2
              have hB2 : BankRep art Tbt (fun j => j == k0 || s j) ((D ++ [(1, n)]).length : Nat) (told + 1) := by rw [List.length_append]; exact hB'
              refine o_asg rfl ?_
              refine w_nil ?_
              refine w_seq ?_
              refine w_region rfl ?_
              refine o_mov rfl ?_
              refine o_call (bank_Made (T := 98) hB2.made) fn_15 rfl (by repeat (first | exact Take.nil | exact Take.all _ | (apply Take.cons; focus (repeat (first | exact Pick.here | apply Pick.next))))) ?_
              rintro v ho ⟨rfl, rfl⟩
              refine o_mov rfl ?_
              refine o_lenR hD'.rd slc_22 rfl ?_
              refine o_ne_f rfl rfl (by simp) ?_
              refine o_mov rfl ?_
              refine o_yes rfl rfl ?_
              refine o_mov rfl ?_
              refine o_yes rfl rfl ?_
              refine o_call (bank_Told (T := 98) hB2.told) fn_16 rfl (by repeat (first | exact Take.nil | exact Take.all _ | (apply Take.cons; focus (repeat (first | exact Pick.here | apply Pick.next))))) ?_
              rintro v ho ⟨rfl, rfl⟩
              refine o_yes rfl rfl ?_
              refine o_mov rfl ?_
              refine o_yes rfl rfl ?_
              refine o_ne_f rfl rfl (by simp) ?_
              refine o_pick_f rfl rfl ?_
              refine w_nil ?_
              refine w_if_f rfl ?_
              refine w_skip ?_
              refine w_inB ?_
              refine w_region rfl ?_
              refine o_mov rfl ?_
              refine o_add rfl rfl (by first | exact IntWalk.i64_in _ (by omega) | rfl) ?_
              refine o_asg rfl ?_
              refine w_nil ?_
              exact w_again ⟨(i + 1, v', H', (D ++ [(1, n)]), art, Tbt, _, (told + 1)), ⟨by simp only; omega, hD', hB2, by simp only [List.length_append, List.length_singleton]; omega, by simp only; omega, by simp only; omega, hK.new hix hnrm⟩, (by simp only; omega), (by repeat (first | exact Sub.nil _ | refine Sub.cons rfl ?_)), (Take.sub (by repeat (first | exact Take.nil | exact Take.all _ | (apply Take.cons; focus (repeat (first | exact Pick.here | apply Pick.next))))))⟩
        · have hnrm : ((2, n) : Int × Int).1 = 0 ∨ ((2, n) : Int × Int).1 = 1 ∨ ((2, n) : Int × Int).1 = 2 := .inr (.inr rfl)
          have hix : ixOf (2, n) = some k0 := by rw [← hixq]; unfold ixOf; simp only; rw [← tabAsk_norm q n]; unfold normK; rw [if_neg hq2.1, if_neg hq2.2]
          refine w_seq ?_
          refine w_region rfl ?_
          refine o_mov rfl ?_
          refine o_add rfl rfl (by first | exact IntWalk.i64_in _ (by omega) | rfl) ?_
          refine o_asg rfl ?_
          refine w_nil ?_
          refine w_seq ?_
          refine w_region rfl ?_
          refine o_mov rfl ?_
          refine o_mov rfl ?_
          refine o_idxR hr (by repeat (first | exact Has.here | apply Has.next)) slc_22 rfl rfl ⟨by omega, by omega⟩ (fun bb ff arr TT fr hm hg => ?_)
          refine o_loadL (us := [.int .i64 q, .int .i64 n]) lod_31 rfl hm rfl (fun j u hj => hg j u (by simpa using hpg j u hj)) ?_
          refine o_alloc zer_31 (fun b20 => ?_)
          refine o_storeN siz_31 rfl rfl rfl (by repeat (first | exact Upd.here | apply Upd.next)) (by first | exact Nat.le_of_ble_eq_true rfl | decide | (simp; done) | omega) (by first | rfl | simp) ?_
          refine w_nil ?_
          refine w_seq ?_
          refine w_seq ?_
          refine w_region rfl ?_
          refine o_fld fld_31_0 rfl rfl ?_
          refine o_load lod_3 rfl (by repeat (first | exact At.here | (refine At.inA ?_; assumption) | apply At.next)) rfl ?_
          refine o_ne_t rfl rfl (by omega) ?_
          refine o_mov rfl ?_
          refine o_yes rfl rfl ?_
          refine o_fld fld_31_0 rfl rfl ?_
          refine o_yes rfl rfl ?_
          refine o_load lod_3 rfl (by repeat (first | exact At.here | (refine At.inA ?_; assumption) | apply At.next)) rfl ?_
          refine o_yes rfl rfl ?_
          refine o_ne_t rfl rfl (by omega) ?_
          refine o_pick_t rfl rfl ?_
          refine w_nil ?_
          refine w_if_t rfl ?_
          refine w_region rfl ?_
          refine o_fld fld_31_0 rfl rfl ?_
          refine o_store siz_3 rfl rfl rfl (by repeat (first | exact Upd.here | apply Upd.next)) rfl (by simp) ?_
          refine w_nil ?_
          refine w_seq ?_
          refine w_region rfl ?_
          refine o_asg rfl ?_
          refine w_nil ?_
          refine w_seq ?_
          refine w_seq ?_
          refine w_region rfl ?_
          refine o_asg rfl ?_
          refine w_nil ?_
          refine w_block ?_
          refine w_loop (X := Nat × Bool) (fun y => [(0, v), (3, .pointer (some ⟨b, 0, none⟩)), (4, vd), (5, .int .i64 (told + 1)), (6, .int .i64 i), (10, .pointer (some ⟨b20, 0, none⟩)), (11, .bool y.2), (12, .int .i64 y.1)]) (fun y => [[(b20, .cells #[.int .i64 2, .int .i64 n] 31 (0, 0))], [(b, .cells art 98 (0, 0))], Tbt, HD, A]) (fun y => y.1 ≤ D.length ∧ y.2 = decide ((2, n) ∈ D.take y.1)) (fun y => D.length - y.1) (0, false) ⟨by simp, by simp⟩ (by repeat (first | exact Sub.nil _ | refine Sub.cons rfl ?_)) (Take.sub (by repeat (first | exact Take.nil | exact Take.all _ | (apply Take.cons; focus (repeat (first | exact Pick.here | apply Pick.next)))))) ?_
          rintro ⟨k, iss⟩ ⟨hk, his⟩
          refine w_seq ?_
          refine w_seq ?_
          refine w_region rfl ?_
          refine o_mov rfl ?_
          refine o_mov rfl ?_
          refine o_lenR hD.rd slc_22 rfl ?_
          refine o_lt rfl rfl ?_
          refine w_nil ?_
          refine w_if_d rfl (fun hkl => ?_) (fun hkl => ?_)
          · rcases Bool.eq_false_or_eq_true iss with rfl | rfl
            · simp only at hk his hkl ⊢
              refine w_skip ?_
              refine w_seq ?_
              refine w_block ?_
              refine w_any [0, 1, 2, 3, 4, 5, 6, 7, 8, 9] mixed (by kernel_rfl) ?_
              refine o_mov rfl ?_
              refine o_mov rfl ?_
              refine o_no rfl rfl rfl ?_
              refine o_no rfl rfl rfl ?_
              refine o_no rfl rfl rfl ?_
              refine o_no rfl rfl rfl ?_
              refine o_no rfl rfl rfl ?_
              refine o_no rfl rfl rfl ?_
              refine o_pick_t rfl rfl ?_
              refine o_asg rfl ?_
              refine w_nil ?_
              refine w_inB ?_
              refine w_region rfl ?_
              refine o_mov rfl ?_
              refine o_add rfl rfl (by first | exact IntWalk.i64_in _ (by omega) | rfl) ?_
              refine o_asg rfl ?_
              refine w_nil ?_
              exact w_again ⟨(k + 1, true), ⟨by simp only; omega, mem_step1 (by omega) his⟩, (by simp only; omega), (by repeat (first | exact Sub.nil _ | refine Sub.cons rfl ?_)), (Take.sub (by repeat (first | exact Take.nil | exact Take.all _ | (apply Take.cons; focus (repeat (first | exact Pick.here | apply Pick.next))))))⟩
            · simp only at hk his hkl ⊢
              refine w_skip ?_
              refine w_seq ?_
              refine w_block ?_
              refine w_any [0, 1, 2, 3, 4, 5, 6, 7, 8, 9] mixed (by kernel_rfl) ?_
              refine o_mov rfl ?_
              refine o_mov rfl ?_
              refine o_yes rfl rfl ?_
              refine o_mov rfl ?_
              refine o_yes rfl rfl ?_
              refine o_mov rfl ?_
              refine o_yes rfl rfl ?_
              refine o_idxR hD.rd (by repeat (first | exact Has.here | apply Has.next)) slc_22 rfl rfl ⟨by omega, by omega⟩ (fun bb ff arr TT fr hm hg => ?_)
              refine o_yes rfl rfl ?_
              refine o_loadL (us := [.int .i64 (D.getD k (0, 0)).1, .int .i64 (D.getD k (0, 0)).2]) lod_31 rfl hm rfl (fun j u hj => hg j u (by simpa using pairs_get (show k < D.length by omega) j u hj)) ?_
              refine o_yes rfl rfl ?_
              refine o_loadN lod_31 rfl (by repeat (first | exact At.here | (refine At.inA ?_; assumption) | apply At.next)) (by first | exact Nat.le_of_ble_eq_true rfl | decide | (simp; done) | omega) rfl ?_
              refine o_yes rfl rfl ?_
              refine o_eqP (k0 := .i64) (k1 := .i64) (by kernel_rfl) (by kernel_rfl) (by kernel_rfl) (by kernel_rfl) rfl rfl ?_
              refine o_pick_f rfl rfl ?_
              refine o_asg rfl ?_
              refine w_nil ?_
              refine w_inB ?_
              refine w_region rfl ?_
              refine o_mov rfl ?_
              refine o_add rfl rfl (by first | exact IntWalk.i64_in _ (by omega) | rfl) ?_
              refine o_asg rfl ?_
              refine w_nil ?_
              exact w_again ⟨(k + 1, decide ((D.getD k (0, 0)).1 = 2 ∧ (D.getD k (0, 0)).2 = n)), ⟨by simp only; omega, mem_step2 (by omega) his⟩, (by simp only; omega), (by repeat (first | exact Sub.nil _ | refine Sub.cons rfl ?_)), (Take.sub (by repeat (first | exact Take.nil | exact Take.all _ | (apply Take.cons; focus (repeat (first | exact Pick.here | apply Pick.next))))))⟩
          · simp only at hk his hkl ⊢
            obtain rfl : k = D.length := by omega
            rw [List.take_length] at his
            by_cases hmem : (2, n) ∈ D
            · rw [decide_eq_true hmem] at his
              subst his
              refine w_exit rfl ?_
              refine w_seq ?_
              refine w_region rfl ?_
              refine o_mov rfl ?_
              refine o_not rfl ?_
              refine w_nil ?_
              refine w_if_f rfl ?_
              have hsk := (hK.mem hix hnrm).2 hmem
              rw [hsk] at hB'
              simp only [if_true, Int.add_zero] at hB'
              refine w_skip ?_
              refine w_seq ?_
              refine w_region rfl ?_
              refine o_mov rfl ?_
              refine o_call (bank_Made (T := 98) hB'.made) fn_15 rfl (by repeat (first | exact Take.nil | exact Take.all _ | (apply Take.cons; focus (repeat (first | exact Pick.here | apply Pick.next))))) ?_
              rintro v ho ⟨rfl, rfl⟩
              refine o_mov rfl ?_
              refine o_lenR hD.rd slc_22 rfl ?_
              refine o_ne_f rfl rfl (by simp) ?_
              refine o_mov rfl ?_
              refine o_yes rfl rfl ?_
              refine o_mov rfl ?_
              refine o_yes rfl rfl ?_
              refine o_call (bank_Told (T := 98) hB'.told) fn_16 rfl (by repeat (first | exact Take.nil | exact Take.all _ | (apply Take.cons; focus (repeat (first | exact Pick.here | apply Pick.next))))) ?_
              rintro v ho ⟨rfl, rfl⟩
              refine o_yes rfl rfl ?_
              refine o_mov rfl ?_
              refine o_yes rfl rfl ?_
              refine o_ne_f rfl rfl (by simp) ?_
              refine o_pick_f rfl rfl ?_
              refine w_nil ?_
              refine w_if_f rfl ?_
              refine w_skip ?_
              refine w_inB ?_
              refine w_region rfl ?_
              refine o_mov rfl ?_
              refine o_add rfl rfl (by first | exact IntWalk.i64_in _ (by omega) | rfl) ?_
              refine o_asg rfl ?_
              refine w_nil ?_
              exact w_again ⟨(i + 1, vd, HD, D, art, Tbt, _, (told + 1)), ⟨by simp only; omega, hD, hB', by simp only [List.length_append, List.length_singleton]; omega, by simp only; omega, by simp only; omega, hK.old hsk⟩, (by simp only; omega), (by repeat (first | exact Sub.nil _ | refine Sub.cons rfl ?_)), (Take.sub (by repeat (first | exact Take.nil | exact Take.all _ | (apply Take.cons; focus (repeat (first | exact Pick.here | apply Pick.next))))))⟩
            · rw [decide_eq_false hmem] at his
              subst his
              refine w_exit rfl ?_
              refine w_seq ?_
              refine w_region rfl ?_
              refine o_mov rfl ?_
              refine o_not rfl ?_
              refine w_nil ?_
              refine w_if_t rfl ?_
              have hsk : s k0 = false := by cases hs : s k0 with
      | false => rfl
      | true => exact absurd ((hK.mem hix hnrm).1 hs) hmem
              rw [hsk] at hB'
              simp only [Bool.false_eq_true, if_false] at hB'
              refine w_region rfl ?_
              refine o_mov rfl ?_
              refine o_loadN lod_31 rfl (by repeat (first | exact At.here | (refine At.inA ?_; assumption) | apply At.next)) (by first | exact Nat.le_of_ble_eq_true rfl | decide | (simp; done) | omega) rfl ?_
              refine o_bslN [_] slc_22 zer_31 (Nat.le_of_ble_eq_true rfl) rfl rfl (fun b23 => ?_)
              refine o_appS [.int .i64 2, .int .i64 n] slc_22 zer_31 rfl rfl rfl hD (by repeat (first | exact Pick.here | apply Pick.next)) rfl (by repeat (first | exact Has.here | apply Has.next)) rfl (Nat.le_of_ble_eq_true rfl) (by simp only [maxLen]; omega) (by omega) (fun v' H' hO2 => ?_)
              have hD' : Own H' v' 31 2 (D ++ [(2, n)]).length (pairsC .i64 .i64 (D ++ [(2, n)])) := by rw [pairsC_app, List.length_append]; exact hO2
              have hB2 : BankRep art Tbt (fun j => j == k0 || s j) ((D ++ [(2, n)]).length : Nat) (told + 1) := by rw [List.length_append]; exact hB'
              refine o_asg rfl ?_
              refine w_nil ?_
              refine w_seq ?_
              refine w_region rfl ?_
              refine o_mov rfl ?_
              refine o_call (bank_Made (T := 98) hB2.made) fn_15 rfl (by repeat (first | exact Take.nil | exact Take.all _ | (apply Take.cons; focus (repeat (first | exact Pick.here | apply Pick.next))))) ?_
              rintro v ho ⟨rfl, rfl⟩
              refine o_mov rfl ?_
              refine o_lenR hD'.rd slc_22 rfl ?_
              refine o_ne_f rfl rfl (by simp) ?_
              refine o_mov rfl ?_
              refine o_yes rfl rfl ?_
              refine o_mov rfl ?_
              refine o_yes rfl rfl ?_
              refine o_call (bank_Told (T := 98) hB2.told) fn_16 rfl (by repeat (first | exact Take.nil | exact Take.all _ | (apply Take.cons; focus (repeat (first | exact Pick.here | apply Pick.next))))) ?_
              rintro v ho ⟨rfl, rfl⟩
              refine o_yes rfl rfl ?_
              refine o_mov rfl ?_
              refine o_yes rfl rfl ?_
              refine o_ne_f rfl rfl (by simp) ?_
              refine o_pick_f rfl rfl ?_
              refine w_nil ?_
              refine w_if_f rfl ?_
              refine w_skip ?_
              refine w_inB ?_
              refine w_region rfl ?_
              refine o_mov rfl ?_
              refine o_add rfl rfl (by first | exact IntWalk.i64_in _ (by omega) | rfl) ?_
              refine o_asg rfl ?_
              refine w_nil ?_
              exact w_again ⟨(i + 1, v', H', (D ++ [(2, n)]), art, Tbt, _, (told + 1)), ⟨by simp only; omega, hD', hB2, by simp only [List.length_append, List.length_singleton]; omega, by simp only; omega, by simp only; omega, hK.new hix hnrm⟩, (by simp only; omega), (by repeat (first | exact Sub.nil _ | refine Sub.cons rfl ?_)), (Take.sub (by repeat (first | exact Take.nil | exact Take.all _ | (apply Take.cons; focus (repeat (first | exact Pick.here | apply Pick.next))))))⟩
    · refine w_exit rfl ?_
      refine w_seq ?_
      refine w_region rfl ?_
      refine o_asg rfl ?_
      refine w_nil ?_
      exact w_ret (ret1 rfl rfl) ⟨rfl, rfl⟩ (Take.sub (by repeat (first | exact Take.nil | exact Take.all _ | (apply Take.cons; focus (repeat (first | exact Pick.here | apply Pick.next))))))

end Go.Proofs.Ytjmnidcfgkdhcaa
