/- The law BankOnce: whatever was asked ahead, the same is told, and nothing is made twice. No condition but that numbers are of their kinds. -/
import Derived.Test.YtjmnidcfgkdhcaaTy
import Derived.Test.YtjmnidcfgkdhcaaFg
import Derived.Test.YtjmnidcfgkdhcaaEi
namespace Go.Proofs.Ytjmnidcfgkdhcaa
open Go.Eng
set_option linter.unusedVariables false
set_option linter.unusedSimpArgs false
set_option maxRecDepth 20000
attribute [local irreducible] WL WT
theorem mem_getD {L : List (Int × Int)} {i : Nat} (h : i < L.length) : L.getD i (0, 0) ∈ L := by
  rw [List.getD_eq_getElem?_getD, List.getElem?_eq_getElem h]
  exact List.getElem_mem h
def ansL (o : Option (Nat × List Int)) : List Int := match o with
  | some p => p.2
  | none => []
def ansE (o : Option (Nat × List Int)) : Int := match o with
  | some _ => 0
  | none => 1
theorem ans_any {el : TypeId} {o : Option (Nat × List Int)} {ar : Array Value} {Tb : Hp} {s : Nat → Bool} {made told : Int} {t : Value} {e : Int} {ar' : Array Value} {Tb' H : Hp} (hr : BankRep ar Tb s made told) (h : BankAns el o ar Tb s made told t e ar' Tb' H) :
    ∃ s' made' told', BankRep ar' Tb' s' made' told' ∧ made ≤ made' ∧ made' ≤ made + 1 ∧ told ≤ told' ∧ told' ≤ told + 1 ∧ OwnI H t el .i16 (ansL o) ∧ e = ansE o ∧ (∀ p, o = some p → s' p.1 = true) ∧ ((∀ p, o = some p → s p.1 = true) → made' = made) := by
  cases o with
  | none => obtain ⟨rfl, rfl, rfl, rfl, rfl⟩ := h; exact ⟨s, made, told, hr, by omega, by omega, by omega, by omega, OwnI.nil _ _, rfl, fun p hp => (by cases hp), fun _ => rfl⟩
  | some p => obtain ⟨rfl, _, h1, h2⟩ := h; exact ⟨_, _, _, h2, by split <;> omega, by split <;> omega, by omega, by omega, h1, rfl, fun q hq => by obtain rfl := Option.some.inj hq; simp, fun hs => by rw [hs p rfl]; simp⟩

theorem BankOnce_ctr {v : Value} {Ls : List (Int × Int)} {A : Hp} (hr : Rd A v 2 Ls.length (pairsC .i64 .i64 Ls)) (hwf : ∀ p ∈ Ls, (Lit.int .i64 p.1).wf = true ∧ (Lit.int .i64 p.2).wf = true) (q n : Int) (hw : -9223372036854775808 ≤ n ∧ n ≤ 9223372036854775807) : Ctr Try.prog 4 [v, .agg #[.int .i64 q, .int .i64 n]] ([A]) (fun v ho => v = .bool true ∧ ho = [A]) := by
  refine spec_of Try.func4 rfl rfl fun w0 L => ?_
  refine w_seq ?_
  refine w_region rfl ?_
  refine o_box rfl (fun b1 => ?_)
  refine o_asg rfl ?_
  refine w_nil ?_
  refine w_seq ?_
  refine w_seq ?_
  refine w_region rfl ?_
  refine o_call (alive04) fn_11 rfl (by repeat (first | exact Take.nil | exact Take.all _ | (apply Take.cons; focus (repeat (first | exact Pick.here | apply Pick.next))))) ?_
  rintro v ho ⟨rfl, rfl⟩
  refine o_not rfl ?_
  refine w_nil ?_
  refine w_if_f rfl ?_
  refine w_skip ?_
  refine w_seq ?_
  refine w_seq ?_
  refine w_region rfl ?_
  refine o_mov rfl ?_
  refine o_lenR hr slc_22 rfl ?_
  refine o_gt rfl rfl ?_
  refine w_nil ?_
  refine w_if_d rfl (fun hlen => ?_) (fun hlen => ?_)
  · refine w_seq ?_
    refine w_region rfl ?_
    refine o_asg rfl ?_
    refine w_nil ?_
    exact w_ret (ret1 rfl rfl) ⟨rfl, rfl⟩ (Take.sub (by repeat (first | exact Take.nil | exact Take.all _ | (apply Take.cons; focus (repeat (first | exact Pick.here | apply Pick.next))))))
  · refine w_emp ?_
    refine w_emp ?_
    refine w_skip ?_
    refine w_seq ?_
    refine w_region rfl ?_
    refine o_call (bank_New) fn_12 rfl (by repeat (first | exact Take.nil | exact Take.all _ | (apply Take.cons; focus (repeat (first | exact Pick.here | apply Pick.next))))) ?_
    rintro v ho ⟨b, rfl, rfl⟩
    refine o_call (bank_New) fn_12 rfl (by repeat (first | exact Take.nil | exact Take.all _ | (apply Take.cons; focus (repeat (first | exact Pick.here | apply Pick.next))))) ?_
    rintro v ho ⟨bc, rfl, rfl⟩
    refine o_asg rfl ?_
    refine o_asg rfl ?_
    refine w_nil ?_
    refine w_seq ?_
    refine w_region rfl ?_
    refine o_mov rfl ?_
    refine o_loadN lod_31 rfl (by repeat (first | exact At.here | (refine At.inA ?_; assumption) | apply At.next)) (by first | exact Nat.le_of_ble_eq_true rfl | decide | (simp; done) | omega) rfl ?_
    refine o_call (ask_any (T := 98) BankRep.new (by omega) (by omega) (q) (n) hw) fn_13 rfl (by repeat (first | exact Take.nil | exact Take.all _ | (apply Take.cons; focus (repeat (first | exact Pick.here | apply Pick.next))))) ?_
    rintro v ho ⟨tc, ec, wc, arc, Tbc, Hc, Gc, rfl, rfl, hBc, hRc⟩
    have hB0 : BankRep bankZero [] (fun _ => false) 0 0 := BankRep.new
    obtain ⟨-, -, -, -, -, -, -, -, hOc, hec, -, -⟩ := ans_any hB0 hBc
    refine o_mov rfl ?_
    refine o_ext rfl rfl ?_
    refine o_ext rfl rfl ?_
    refine o_ext rfl rfl ?_
    refine o_asg rfl ?_
    refine o_asg rfl ?_
    refine o_asg rfl ?_
    refine w_nil ?_
    refine w_seq ?_
    refine w_seq ?_
    refine w_region rfl ?_
    refine o_asg rfl ?_
    refine w_nil ?_
    refine w_block ?_
    refine w_loop (X := Nat × Array Value × Hp × (Nat → Bool) × Int × Int) (fun x => [(0, v), (3, .pointer (some ⟨b1, 0, none⟩)), (5, .pointer (some ⟨b, 0, none⟩)), (7, tc), (8, .int .i64 ec), (10, .int .i64 x.1)]) (fun x => [[(b, .cells x.2.1 98 (0, 0))], x.2.2.1, Hc, A, [(b1, .cells #[.int .i64 q, .int .i64 n] 31 (0, 0))]]) (fun x => x.1 ≤ Ls.length ∧ BankRep x.2.1 x.2.2.1 x.2.2.2.1 x.2.2.2.2.1 x.2.2.2.2.2 ∧ 0 ≤ x.2.2.2.2.1 ∧ x.2.2.2.2.1 ≤ x.1 ∧ 0 ≤ x.2.2.2.2.2 ∧ x.2.2.2.2.2 ≤ x.1) (fun x => Ls.length - x.1) (0, bankZero, [], (fun _ => false), 0, 0) ⟨by simp, hB0, by simp, by simp, by simp, by simp⟩ (by repeat (first | exact Sub.nil _ | refine Sub.cons rfl ?_)) (Take.sub (by repeat (first | exact Take.nil | exact Take.all _ | (apply Take.cons; focus (repeat (first | exact Pick.here | apply Pick.next)))))) ?_
    rintro ⟨i, ar, Tb, s, made, told⟩ ⟨hi, hB, hm0, hm1, ht0, ht1⟩
    refine w_seq ?_
    refine w_seq ?_
    refine w_region rfl ?_
    refine o_mov rfl ?_
    refine o_mov rfl ?_
    refine o_lenR hr slc_22 rfl ?_
    refine o_lt rfl rfl ?_
    refine w_nil ?_
    refine w_if_d rfl (fun hl => ?_) (fun hl => ?_)
    · simp only at hi hB hm0 hm1 ht0 ht1 hl ⊢
      have hlt : i < Ls.length := by omega
      refine w_skip ?_
      refine w_seq ?_
      refine w_block ?_
      refine w_seq ?_
      refine w_region rfl ?_
      refine o_mov rfl ?_
      refine o_mov rfl ?_
      refine o_mov rfl ?_
      refine o_idxR hr (by repeat (first | exact Has.here | apply Has.next)) slc_22 rfl rfl ⟨by omega, by omega⟩ (fun bb ff arr TT fr hm hg => ?_)
      refine o_loadL (us := [.int .i64 (Ls.getD i (0, 0)).1, .int .i64 (Ls.getD i (0, 0)).2]) lod_31 rfl hm rfl (fun j u hj => hg j u (by simpa using pairs_get hlt j u hj)) ?_
      refine o_call (ask_any (T := 98) hB (by omega) (by omega) ((Ls.getD i (0, 0)).1) ((Ls.getD i (0, 0)).2) (wf_i64 (hwf _ (mem_getD hlt)).2)) fn_13 rfl (by repeat (first | exact Take.nil | exact Take.all _ | (apply Take.cons; focus (repeat (first | exact Pick.here | apply Pick.next))))) ?_
      rintro v ho ⟨tt, et, wt, art, Tbt, Ht, Gt, rfl, rfl, hBt, hRt⟩
      refine o_mov rfl ?_
      refine o_ext rfl rfl ?_
      refine o_ext rfl rfl ?_
      refine o_ext rfl rfl ?_
      refine o_asg rfl ?_
      refine o_asg rfl ?_
      refine o_asg rfl ?_
      refine w_nil ?_
      obtain ⟨s', made', told', hB', k1, k2, k3, k4, hO, -, -, -⟩ := ans_any hB hBt
      generalize ansL (tabAsk (Ls.getD i (0, 0)).1 (Ls.getD i (0, 0)).2) = xs at hO
      refine w_seq ?_
      refine w_region rfl ?_
      refine o_asg rfl ?_
      refine w_nil ?_
      refine w_block ?_
      refine w_loop (X := Nat × List Int × Hp) (fun y => [(0, v), (3, .pointer (some ⟨b1, 0, none⟩)), (5, .pointer (some ⟨b, 0, none⟩)), (7, tc), (8, .int .i64 ec), (10, .int .i64 i), (11, tt), (14, .int .i64 y.1)]) (fun y => y.2.2 :: [[(b, .cells art 98 (0, 0))], Tbt, Hc, A, [(b1, .cells #[.int .i64 q, .int .i64 n] 31 (0, 0))]]) (fun y => y.1 ≤ xs.length ∧ y.2.1.length = xs.length ∧ OwnI y.2.2 tt 35 .i16 y.2.1) (fun y => xs.length - y.1) (0, xs, Ht) ⟨by omega, rfl, hO⟩ (by repeat (first | exact Sub.nil _ | refine Sub.cons rfl ?_)) (Take.sub (by repeat (first | exact Take.nil | exact Take.all _ | (apply Take.cons; focus (repeat (first | exact Pick.here | apply Pick.next)))))) ?_
      rintro ⟨k, ys, Hy⟩ ⟨hk, hy, hOy⟩
      refine w_seq ?_
      refine w_seq ?_
      refine w_region rfl ?_
      refine o_mov rfl ?_
      refine o_mov rfl ?_
      refine o_lenI hOy.ints slc_26 rfl ?_
      refine o_lt rfl rfl ?_
      refine w_nil ?_
      refine w_if_d rfl (fun hkl => ?_) (fun hkl => ?_)
      · simp only at hk hy hOy hkl ⊢
        have hmy := hOy.ints.2.1
        obtain ⟨by_, cy, cu, rfl, rfl, hset, hget⟩ := hOy.blk (by omega)
        refine w_skip ?_
        refine w_seq ?_
        refine w_block ?_
        refine w_region rfl ?_
        refine o_mov rfl ?_
        refine o_mov rfl ?_
        refine o_idx slc_26 (off := k) rfl rfl ⟨by omega, by omega⟩ (by simp) ?_
        refine o_store siz_35 rfl rfl rfl (by repeat (first | exact Upd.here | apply Upd.next)) (hget k (by omega)) (by simp) ?_
        refine w_nil ?_
        refine w_inB ?_
        refine w_region rfl ?_
        refine o_mov rfl ?_
        refine o_add rfl rfl (by first | exact IntWalk.i64_in _ (by omega) | rfl) ?_
        refine o_asg rfl ?_
        refine w_nil ?_
        exact w_again ⟨(k + 1, ys.set k 7, _), ⟨by simp only; omega, by simp only [List.length_set]; exact hy, hset 7 k⟩, (by simp only; omega), (by repeat (first | exact Sub.nil _ | refine Sub.cons rfl ?_)), (Take.sub (by repeat (first | exact Take.nil | exact Take.all _ | (apply Take.cons; focus (repeat (first | exact Pick.here | apply Pick.next))))))⟩
      · refine w_exit rfl ?_
        refine w_inB ?_
        refine w_region rfl ?_
        refine o_mov rfl ?_
        refine o_add rfl rfl (by first | exact IntWalk.i64_in _ (by omega) | rfl) ?_
        refine o_asg rfl ?_
        refine w_nil ?_
        exact w_again ⟨(i + 1, art, Tbt, s', made', told'), ⟨by simp only; omega, hB', by simp only; omega, by simp only; omega, by simp only; omega, by simp only; omega⟩, (by simp only; omega), (by repeat (first | exact Sub.nil _ | refine Sub.cons rfl ?_)), (Take.sub (by repeat (first | exact Take.nil | exact Take.all _ | (apply Take.cons; focus (repeat (first | exact Pick.here | apply Pick.next))))))⟩
    · simp only at hi hB hm0 hm1 ht0 ht1 hl ⊢
      refine w_exit rfl ?_
      refine w_seq ?_
      refine w_region rfl ?_
      refine o_mov rfl ?_
      refine o_call (bank_Made (T := 98) hB.made) fn_15 rfl (by repeat (first | exact Take.nil | exact Take.all _ | (apply Take.cons; focus (repeat (first | exact Pick.here | apply Pick.next))))) ?_
      rintro v ho ⟨rfl, rfl⟩
      refine o_asg rfl ?_
      refine w_nil ?_
      refine w_seq ?_
      refine w_region rfl ?_
      refine o_mov rfl ?_
      refine o_loadN lod_31 rfl (by repeat (first | exact At.here | (refine At.inA ?_; assumption) | apply At.next)) (by first | exact Nat.le_of_ble_eq_true rfl | decide | (simp; done) | omega) rfl ?_
      refine o_call (ask_any (T := 98) hB (by omega) (by omega) (q) (n) hw) fn_13 rfl (by repeat (first | exact Take.nil | exact Take.all _ | (apply Take.cons; focus (repeat (first | exact Pick.here | apply Pick.next))))) ?_
      rintro v ho ⟨ty, ey, wy, ary, Tby, Hy, Gy, rfl, rfl, hBy, hRy⟩
      refine o_mov rfl ?_
      refine o_ext rfl rfl ?_
      refine o_ext rfl rfl ?_
      refine o_ext rfl rfl ?_
      refine o_asg rfl ?_
      refine o_asg rfl ?_
      refine o_asg rfl ?_
      refine w_nil ?_
      refine w_seq ?_
      refine w_region rfl ?_
      obtain ⟨s1, m1, o1, hB1, j1, j2, j3, j4, hO1, he1, hs1, -⟩ := ans_any hB hBy
      refine o_mov rfl ?_
      refine o_call (bank_Made (T := 98) hB1.made) fn_15 rfl (by repeat (first | exact Take.nil | exact Take.all _ | (apply Take.cons; focus (repeat (first | exact Pick.here | apply Pick.next))))) ?_
      rintro v ho ⟨rfl, rfl⟩
      refine o_asg rfl ?_
      refine w_nil ?_
      refine w_seq ?_
      refine w_region rfl ?_
      refine o_mov rfl ?_
      refine o_loadN lod_31 rfl (by repeat (first | exact At.here | (refine At.inA ?_; assumption) | apply At.next)) (by first | exact Nat.le_of_ble_eq_true rfl | decide | (simp; done) | omega) rfl ?_
      refine o_call (ask_any (T := 98) hB1 (by omega) (by omega) (q) (n) hw) fn_13 rfl (by repeat (first | exact Take.nil | exact Take.all _ | (apply Take.cons; focus (repeat (first | exact Pick.here | apply Pick.next))))) ?_
      rintro v ho ⟨tz, ez, wz, arz, Tbz, Hz, Gz, rfl, rfl, hBz, hRz⟩
      refine o_mov rfl ?_
      refine o_ext rfl rfl ?_
      refine o_ext rfl rfl ?_
      refine o_ext rfl rfl ?_
      refine o_asg rfl ?_
      refine o_asg rfl ?_
      refine o_asg rfl ?_
      refine w_nil ?_
      obtain ⟨s2, m2, o2, hB2, i1, i2, i3, i4, hO2, he2, -, hm2⟩ := ans_any hB1 hBz
      have hmm := hm2 hs1
      refine w_seq ?_
      refine w_region rfl ?_
      refine o_mov rfl ?_
      refine o_mov rfl ?_
      refine o_eq_t rfl rfl (by omega) ?_
      refine o_mov rfl ?_
      refine o_yes rfl rfl ?_
      refine o_mov rfl ?_
      refine o_yes rfl rfl ?_
      refine o_mov rfl ?_
      refine o_yes rfl rfl ?_
      refine o_eq_t rfl rfl (by omega) ?_
      refine o_pick_t rfl rfl ?_
      refine o_mov rfl ?_
      refine o_yes rfl rfl ?_
      refine o_mov rfl ?_
      refine o_yes rfl rfl ?_
      refine o_mov rfl ?_
      refine o_yes rfl rfl ?_
      refine o_call (same_i16 hOc.ints hO1.ints) fn_14 rfl (by repeat (first | exact Take.nil | exact Take.all _ | (apply Take.cons; focus (repeat (first | exact Pick.here | apply Pick.next))))) ?_
      rintro v ho ⟨rfl, rfl⟩
      rw [decide_eq_true rfl]
      refine o_pick_t rfl rfl ?_
      refine o_mov rfl ?_
      refine o_yes rfl rfl ?_
      refine o_mov rfl ?_
      refine o_yes rfl rfl ?_
      refine o_mov rfl ?_
      refine o_yes rfl rfl ?_
      refine o_call (same_i16 hO1.ints hO2.ints) fn_14 rfl (by repeat (first | exact Take.nil | exact Take.all _ | (apply Take.cons; focus (repeat (first | exact Pick.here | apply Pick.next))))) ?_
      rintro v ho ⟨rfl, rfl⟩
      rw [decide_eq_true rfl]
      refine o_pick_t rfl rfl ?_
      refine o_mov rfl ?_
      refine o_yes rfl rfl ?_
      refine o_mov rfl ?_
      refine o_yes rfl rfl ?_
      refine o_mov rfl ?_
      refine o_yes rfl rfl ?_
      refine o_sub rfl rfl (by first | exact IntWalk.i64_in _ (by omega) | rfl) ?_
      refine o_yes rfl rfl ?_
      refine o_le_t rfl rfl (by omega) ?_
      refine o_pick_t rfl rfl ?_
      refine o_mov rfl ?_
      refine o_yes rfl rfl ?_
      refine o_mov rfl ?_
      refine o_yes rfl rfl ?_
      refine o_call (bank_Made (T := 98) hB2.made) fn_15 rfl (by repeat (first | exact Take.nil | exact Take.all _ | (apply Take.cons; focus (repeat (first | exact Pick.here | apply Pick.next))))) ?_
      rintro v ho ⟨rfl, rfl⟩
      refine o_yes rfl rfl ?_
      refine o_mov rfl ?_
      refine o_yes rfl rfl ?_
      refine o_eq_t rfl rfl (by omega) ?_
      refine o_pick_t rfl rfl ?_
      refine o_asg rfl ?_
      refine w_nil ?_
      exact w_ret (ret1 rfl rfl) ⟨rfl, rfl⟩ (Take.sub (by repeat (first | exact Take.nil | exact Take.all _ | (apply Take.cons; focus (repeat (first | exact Pick.here | apply Pick.next))))))

end Go.Proofs.Ytjmnidcfgkdhcaa
