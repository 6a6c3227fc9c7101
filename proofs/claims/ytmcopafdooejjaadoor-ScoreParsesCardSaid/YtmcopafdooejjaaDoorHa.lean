/- Contracts of the library's functions on texts, at one byte. No condition but on the lengths. -/
import Derived.Test.YtmcopafdooejjaaDoorTy
import Derived.Test.YtmcopafdooejjaaDoorPs
namespace Go.Proofs.YtmcopafdooejjaaDoor
open Go.Eng
set_option linter.unusedVariables false
set_option linter.unusedSimpArgs false
set_option maxRecDepth 20000
attribute [local irreducible] WL WT
theorem sl_IndexByte (l : List UInt8) (c : UInt8) : Ctr Tryd.prog 47 [str l, .int .u8 (c.toNat : Int)] ([]) (fun v ho => v = .int .i64 (Lib.indexByte l c) ∧ ho = []) := by
  refine spec_of Tryd.func47 rfl rfl fun w0 L => ?_
  refine w_seq ?_
  refine w_region rfl ?_
  refine o_asg rfl ?_
  refine w_nil ?_
  refine w_seq ?_
  refine w_region rfl ?_
  refine o_mov rfl ?_
  refine o_mov rfl ?_
  refine o_ixB xf_64 (by kernel_rfl) rfl ?_
  rw [show ((c.toNat : Int)).toNat.toUInt8 = c by simp]
  refine o_asg rfl ?_
  refine w_nil ?_
  exact w_ret (ret1 rfl rfl) ⟨rfl, rfl⟩ (Take.sub (by repeat (first | exact Take.nil | exact Take.all _ | (apply Take.cons; focus (repeat (first | exact Pick.here | apply Pick.next))))))

theorem sl_Index (l : List UInt8) (c : UInt8) : Ctr Tryd.prog 30 [str l, str [c]] ([]) (fun v ho => v = .int .i64 (Lib.indexByte l c) ∧ ho = []) := by
  refine spec_of Tryd.func30 rfl rfl fun w0 L => ?_
  have h1 : ([c] : List UInt8).length = 1 := rfl
  refine w_seq ?_
  refine w_region rfl ?_
  refine o_asg rfl ?_
  refine w_nil ?_
  refine w_seq ?_
  refine w_region rfl ?_
  refine o_mov rfl ?_
  refine o_lenT Tryd.underlying9 rfl ?_
  refine o_asg rfl ?_
  refine w_nil ?_
  refine w_seq ?_
  refine w_block ?_
  refine w_seq ?_
  refine w_region rfl ?_
  refine o_mov rfl ?_
  refine o_eq_f rfl rfl (by omega) ?_
  refine o_mov rfl ?_
  refine o_yes rfl rfl ?_
  refine o_mov rfl ?_
  refine o_yes rfl rfl ?_
  refine o_mov rfl ?_
  refine o_yes rfl rfl ?_
  refine o_eqT_s rfl rfl (fun he => ?_) (fun he => ?_)
  · refine o_pick_f rfl rfl ?_
    refine o_asg rfl ?_
    refine w_nil ?_
    refine w_if_t rfl ?_
    refine w_seq ?_
    refine w_region rfl ?_
    refine o_asg rfl ?_
    refine w_nil ?_
    exact w_ret (ret1 rfl rfl) ⟨by rw [← he]; simp [Lib.indexByte], rfl⟩ (Take.sub (by repeat (first | exact Take.nil | exact Take.all _ | (apply Take.cons; focus (repeat (first | exact Pick.here | apply Pick.next))))))
  · refine o_pick_f rfl rfl ?_
    refine o_asg rfl ?_
    refine w_nil ?_
    refine w_if_f rfl ?_
    refine w_seq ?_
    refine w_region rfl ?_
    refine o_mov rfl ?_
    refine o_eq_t rfl rfl (by omega) ?_
    refine o_asg rfl ?_
    refine w_nil ?_
    refine w_if_t rfl ?_
    refine w_seq ?_
    refine w_region rfl ?_
    refine o_mov rfl ?_
    refine o_mov rfl ?_
    refine o_idxT Tryd.underlying9 rfl rfl ⟨by omega, by omega⟩ ?_
    rw [show (([c] : List UInt8).getD (0 : Int).toNat 0) = c from rfl]
    refine o_call (sl_IndexByte l c) fn_47 rfl (by repeat (first | exact Take.nil | exact Take.all _ | (apply Take.cons; focus (repeat (first | exact Pick.here | apply Pick.next))))) ?_
    rintro v ho ⟨rfl, rfl⟩
    refine o_asg rfl ?_
    refine w_nil ?_
    exact w_ret (ret1 rfl rfl) ⟨rfl, rfl⟩ (Take.sub (by repeat (first | exact Take.nil | exact Take.all _ | (apply Take.cons; focus (repeat (first | exact Pick.here | apply Pick.next))))))

theorem s_Index (l : List UInt8) (c : UInt8) : Ctr Tryd.prog 33 [str l, str [c]] ([]) (fun v ho => v = .int .i64 (Lib.indexByte l c) ∧ ho = []) := by
  refine spec_of Tryd.func33 rfl rfl fun w0 L => ?_
  refine w_seq ?_
  refine w_region rfl ?_
  refine o_asg rfl ?_
  refine w_nil ?_
  refine w_seq ?_
  refine w_region rfl ?_
  refine o_mov rfl ?_
  refine o_mov rfl ?_
  refine o_call (sl_Index l c) fn_30 rfl (by repeat (first | exact Take.nil | exact Take.all _ | (apply Take.cons; focus (repeat (first | exact Pick.here | apply Pick.next))))) ?_
  rintro v ho ⟨rfl, rfl⟩
  refine o_asg rfl ?_
  refine w_nil ?_
  exact w_ret (ret1 rfl rfl) ⟨rfl, rfl⟩ (Take.sub (by repeat (first | exact Take.nil | exact Take.all _ | (apply Take.cons; focus (repeat (first | exact Pick.here | apply Pick.next))))))

theorem s_Count (l : List UInt8) (c : UInt8) : Ctr Tryd.prog 32 [str l, str [c]] ([]) (fun v ho => v = .int .i64 (l.count c : Nat) ∧ ho = []) := by
  refine spec_of Tryd.func32 rfl rfl fun w0 L => ?_
  have h1 : ([c] : List UInt8).length = 1 := rfl
  refine w_seq ?_
  refine w_region rfl ?_
  refine o_asg rfl ?_
  refine w_nil ?_
  refine w_seq ?_
  refine w_seq ?_
  refine w_region rfl ?_
  refine o_mov rfl ?_
  refine o_lenT Tryd.underlying9 rfl ?_
  refine o_eq_f rfl rfl (by omega) ?_
  refine w_nil ?_
  refine w_if_f rfl ?_
  refine w_skip ?_
  refine w_seq ?_
  refine w_seq ?_
  refine w_region rfl ?_
  refine o_mov rfl ?_
  refine o_lenT Tryd.underlying9 rfl ?_
  refine o_eq_t rfl rfl (by omega) ?_
  refine w_nil ?_
  refine w_if_t rfl ?_
  refine w_seq ?_
  refine w_region rfl ?_
  refine o_mov rfl ?_
  refine o_mov rfl ?_
  refine o_idxT Tryd.underlying9 rfl rfl ⟨by omega, by omega⟩ ?_
  rw [show (([c] : List UInt8).getD (0 : Int).toNat 0) = c from rfl]
  refine o_cnt xf_53 (by kernel_rfl) rfl ?_
  rw [show ((c.toNat : Int)).toNat.toUInt8 = c by simp]
  refine o_asg rfl ?_
  refine w_nil ?_
  exact w_ret (ret1 rfl rfl) ⟨rfl, rfl⟩ (Take.sub (by repeat (first | exact Take.nil | exact Take.all _ | (apply Take.cons; focus (repeat (first | exact Pick.here | apply Pick.next))))))

theorem sl_Cut (l : List UInt8) (c : UInt8) (hl : l.length ≤ 1000000) : Ctr Tryd.prog 14 [str l, str [c]] ([]) (fun v ho => ∃ a b f, v = .tuple #[str a, str b, .bool f] ∧ (f = true → c ∉ a ∧ l = a ++ c :: b) ∧ (f = false → a = l ∧ b = [] ∧ c ∉ l) ∧ ho = []) := by
  refine spec_of Tryd.func14 rfl rfl fun w0 L => ?_
  have h1 : ([c] : List UInt8).length = 1 := rfl
  rcases ix_cases l c with ⟨hx, hc⟩ | ⟨i, hx, hi, hl2, hc⟩
  · refine w_seq ?_
    refine w_region rfl ?_
    refine o_asg rfl ?_
    refine o_asg rfl ?_
    refine o_asg rfl ?_
    refine w_nil ?_
    refine w_seq ?_
    refine w_seq ?_
    refine w_region rfl ?_
    refine o_mov rfl ?_
    refine o_mov rfl ?_
    refine o_call (sl_Index l c) fn_30 rfl (by repeat (first | exact Take.nil | exact Take.all _ | (apply Take.cons; focus (repeat (first | exact Pick.here | apply Pick.next))))) ?_
    rintro v ho ⟨rfl, rfl⟩
    rw [hx]
    refine o_asg rfl ?_
    refine w_nil ?_
    refine w_seq ?_
    refine w_region rfl ?_
    refine o_mov rfl ?_
    refine o_ge rfl rfl ?_
    refine w_nil ?_
    refine w_if_f rfl ?_
    refine w_skip ?_
    refine w_seq ?_
    refine w_region rfl ?_
    refine o_mov rfl ?_
    refine o_asg rfl ?_
    refine o_asg rfl ?_
    refine o_asg rfl ?_
    refine w_nil ?_
    exact w_ret (ret3 rfl rfl rfl rfl) ⟨l, [], false, rfl, fun h => (by cases h), fun _ => ⟨rfl, rfl, hc⟩, rfl⟩ (Take.sub (by repeat (first | exact Take.nil | exact Take.all _ | (apply Take.cons; focus (repeat (first | exact Pick.here | apply Pick.next))))))
  · refine w_seq ?_
    refine w_region rfl ?_
    refine o_asg rfl ?_
    refine o_asg rfl ?_
    refine o_asg rfl ?_
    refine w_nil ?_
    refine w_seq ?_
    refine w_seq ?_
    refine w_region rfl ?_
    refine o_mov rfl ?_
    refine o_mov rfl ?_
    refine o_call (sl_Index l c) fn_30 rfl (by repeat (first | exact Take.nil | exact Take.all _ | (apply Take.cons; focus (repeat (first | exact Pick.here | apply Pick.next))))) ?_
    rintro v ho ⟨rfl, rfl⟩
    rw [hx]
    refine o_asg rfl ?_
    refine w_nil ?_
    refine w_seq ?_
    refine w_region rfl ?_
    refine o_mov rfl ?_
    refine o_ge rfl rfl ?_
    refine w_nil ?_
    refine w_if_t rfl ?_
    refine w_seq ?_
    refine w_any [0, 1, 2, 3, 4, 5, 6, 7, 8, 9, 10, 11] mixed (by kernel_rfl) ?_
    refine o_mov rfl ?_
    refine o_mov rfl ?_
    refine o_slT (i := 0) (j := (i : Int)) Tryd.underlying9 rfl rfl ⟨_, rfl⟩ ⟨by omega, by omega, by omega⟩ ?_
    refine o_mov rfl ?_
    refine o_mov rfl ?_
    refine o_mov rfl ?_
    refine o_lenT Tryd.underlying9 rfl ?_
    refine o_add rfl rfl (by first | exact IntWalk.i64_in _ (by omega) | rfl) ?_
    refine o_slT (i := (i : Int) + (([c] : List UInt8).length : Nat)) (j := (l.length : Nat)) Tryd.underlying9 rfl ⟨_, rfl⟩ rfl ⟨by omega, by omega, by omega⟩ ?_
    rw [show (l.take (i : Int).toNat).drop (0 : Int).toNat = l.take i from by simp, show (l.take ((l.length : Nat) : Int).toNat).drop ((i : Int) + (([c] : List UInt8).length : Nat)).toNat = l.drop (i + 1) from by rw [Int.toNat_natCast, List.take_length]; congr 1]
    refine o_asg rfl ?_
    refine o_asg rfl ?_
    refine o_asg rfl ?_
    refine w_nil ?_
    exact w_ret (ret3 rfl rfl rfl rfl) ⟨l.take i, l.drop (i + 1), true, rfl, fun _ => ⟨hc, hl2⟩, fun h => (by cases h), rfl⟩ (Take.sub (by repeat (first | exact Take.nil | exact Take.all _ | (apply Take.cons; focus (repeat (first | exact Pick.here | apply Pick.next))))))

theorem s_Cut (l : List UInt8) (c : UInt8) (hl : l.length ≤ 1000000) : Ctr Tryd.prog 9 [str l, str [c]] ([]) (fun v ho => ∃ a b f, v = .tuple #[str a, str b, .bool f] ∧ (f = true → c ∉ a ∧ l = a ++ c :: b) ∧ (f = false → a = l ∧ b = [] ∧ c ∉ l) ∧ ho = []) := by
  refine spec_of Tryd.func9 rfl rfl fun w0 L => ?_
  refine w_seq ?_
  refine w_region rfl ?_
  refine o_asg rfl ?_
  refine o_asg rfl ?_
  refine o_asg rfl ?_
  refine w_nil ?_
  refine w_seq ?_
  refine w_region rfl ?_
  refine o_mov rfl ?_
  refine o_mov rfl ?_
  refine o_call (sl_Cut l c hl) fn_14 rfl (by repeat (first | exact Take.nil | exact Take.all _ | (apply Take.cons; focus (repeat (first | exact Pick.here | apply Pick.next))))) ?_
  rintro v ho ⟨a, b, f, rfl, h1, h2, rfl⟩
  refine o_ext rfl rfl ?_
  refine o_ext rfl rfl ?_
  refine o_ext rfl rfl ?_
  refine o_asg rfl ?_
  refine o_asg rfl ?_
  refine o_asg rfl ?_
  refine w_nil ?_
  exact w_ret (ret3 rfl rfl rfl rfl) ⟨a, b, f, rfl, h1, h2, rfl⟩ (Take.sub (by repeat (first | exact Take.nil | exact Take.all _ | (apply Take.cons; focus (repeat (first | exact Pick.here | apply Pick.next))))))

theorem s_genSplit (l : List UInt8) (c : UInt8) (hl : l.length ≤ 1000000) : Ctr Tryd.prog 15 [str l, str [c], .int .i64 0, .int .i64 (-1)] ([]) (fun v ho => ∃ H, Own H v 9 1 (cutB c l).length ((cutB c l).map str) ∧ ho = [H]) := by
  refine spec_of Tryd.func15 rfl rfl fun w0 L => ?_
  have h1 : ([c] : List UInt8).length = 1 := rfl
  have hne : ¬ ([c] : List UInt8) = [] := by simp
  refine w_seq ?_
  refine w_region rfl ?_
  refine o_asg rfl ?_
  refine w_nil ?_
  refine w_seq ?_
  refine w_seq ?_
  refine w_region rfl ?_
  refine o_mov rfl ?_
  refine o_eq_f rfl rfl (by omega) ?_
  refine w_nil ?_
  refine w_if_f rfl ?_
  refine w_skip ?_
  refine w_seq ?_
  refine w_seq ?_
  refine w_region rfl ?_
  refine o_mov rfl ?_
  refine o_eqT_f rfl rfl (by assumption) ?_
  refine w_nil ?_
  refine w_if_f rfl ?_
  refine w_skip ?_
  refine w_seq ?_
  refine w_seq ?_
  refine w_region rfl ?_
  refine o_mov rfl ?_
  refine o_lt_t rfl rfl (by omega) ?_
  refine w_nil ?_
  refine w_if_t rfl ?_
  have hcl := cutB_len c l
  have hcc := cutB_count c l
  refine w_region rfl ?_
  refine o_mov rfl ?_
  refine o_mov rfl ?_
  refine o_call (s_Count l c) fn_32 rfl (by repeat (first | exact Take.nil | exact Take.all _ | (apply Take.cons; focus (repeat (first | exact Pick.here | apply Pick.next))))) ?_
  rintro v ho ⟨rfl, rfl⟩
  refine o_add rfl rfl (by first | exact IntWalk.i64_in _ (by omega) | rfl) ?_
  refine o_asg rfl ?_
  refine w_nil ?_
  refine w_seq ?_
  refine w_region rfl ?_
  refine o_mov rfl ?_
  refine o_mov rfl ?_
  refine o_lenT Tryd.underlying9 rfl ?_
  refine o_add rfl rfl (by first | exact IntWalk.i64_in _ (by omega) | rfl) ?_
  refine o_min rfl rfl ?_
  rw [show (if ((l.length : Nat) : Int) + 1 < ((l.count c : Nat) : Int) + 1 then ((l.length : Nat) : Int) + 1 else ((l.count c : Nat) : Int) + 1) = (((cutB c l).length : Nat) : Int) from by rw [if_neg (by omega)]; omega]
  refine o_asg rfl ?_
  refine w_nil ?_
  refine w_seq ?_
  refine w_region rfl ?_
  refine o_mov rfl ?_
  refine o_mks slc_43 zer_9 rfl rfl (by omega) (by omega) (by omega) (by omega) (fun b2 => ?_)
  rw [Int.toNat_natCast, show madeCells _ ((cutB c l).length * 1) = strs (List.replicate (cutB c l).length []) from by rw [Nat.mul_one]; exact strs_made _]
  refine o_asg rfl ?_
  refine w_nil ?_
  refine w_seq ?_
  refine w_region rfl ?_
  refine o_mov rfl ?_
  refine o_sub rfl rfl (by first | exact IntWalk.i64_in _ (by omega) | rfl) ?_
  rw [show (((cutB c l).length : Nat) : Int) - 1 = ((l.count c : Nat) : Int) by omega]
  refine o_asg rfl ?_
  refine w_nil ?_
  refine w_seq ?_
  refine w_region rfl ?_
  refine o_asg rfl ?_
  refine w_nil ?_
  refine w_seq ?_
  refine w_block ?_
  refine w_loop (X := Nat × List UInt8) (fun x => [(1, str [c]), (2, .int .i64 0), (3, .int .i64 (l.count c : Nat)), (9, .slice (some ⟨b2, 0, none⟩) (cutB c l).length (cutB c l).length), (0, str x.2), (10, .int .i64 x.1)]) (fun x => [[(b2, .cells (strs ((cutB c l).take x.1 ++ List.replicate ((cutB c l).length - x.1) [])) 9 (0, 0))]]) (fun x => x.1 < (cutB c l).length ∧ (cutB c l).drop x.1 = cutB c x.2 ∧ x.2.length ≤ l.length) (fun x => (cutB c l).length - x.1) (0, l) ⟨by simp only; omega, by simp, by simp⟩ (by repeat (first | exact Sub.nil _ | refine Sub.cons rfl ?_)) (Take.sub (by repeat (first | exact Take.nil | exact Take.all _ | (apply Take.cons; focus (repeat (first | exact Pick.here | apply Pick.next)))))) ?_
  rintro ⟨i, r⟩ ⟨hi, hr, hrl⟩
  refine w_seq ?_
  refine w_seq ?_
  refine w_region rfl ?_
  refine o_mov rfl ?_
  refine o_mov rfl ?_
  refine o_lt rfl rfl ?_
  refine w_nil ?_
  refine w_if_d rfl (fun hlt => ?_) (fun hlt => ?_)
  · simp only at hi hr hrl hlt ⊢
    have hlen : (cutB c r).length = (cutB c l).length - i := by rw [← hr, List.length_drop]
    have hcr := cutB_len c r
    rcases ix_cases r c with ⟨hx, hc⟩ | ⟨j, hx, hj, hr2, hc⟩
    · exact absurd (List.count_eq_zero.2 hc) (by omega)
    · refine w_skip ?_
      refine w_block ?_
      refine w_seq ?_
      refine w_region rfl ?_
      refine o_mov rfl ?_
      refine o_mov rfl ?_
      refine o_call (s_Index r c) fn_33 rfl (by repeat (first | exact Take.nil | exact Take.all _ | (apply Take.cons; focus (repeat (first | exact Pick.here | apply Pick.next))))) ?_
      rintro v ho ⟨rfl, rfl⟩
      rw [hx]
      refine o_asg rfl ?_
      refine w_nil ?_
      refine w_seq ?_
      refine w_seq ?_
      refine w_region rfl ?_
      refine o_mov rfl ?_
      refine o_lt rfl rfl ?_
      refine w_nil ?_
      refine w_if_d rfl (fun hneg => ?_) (fun hneg => ?_)
      · omega
      · have hcut : cutB c r = r.take j :: cutB c (r.drop (j + 1)) := (congrArg (cutB c) hr2).trans (cutB_first hc _)
        have hget : (cutB c l).getD i [] = r.take j := by have h0 := congrArg (fun L => L.getD 0 []) hr; simp only [hcut, List.getD_eq_getElem?_getD, List.getElem?_drop, Nat.add_zero, List.getElem?_cons_zero, Option.getD_some] at h0; rw [List.getD_eq_getElem?_getD]; exact h0
        have hdr : (cutB c l).drop (i + 1) = cutB c (r.drop (j + 1)) := by have h0 := congrArg (List.drop 1) hr; rw [List.drop_drop, hcut] at h0; exact h0
        refine w_skip ?_
        refine w_seq ?_
        refine w_region rfl ?_
        refine o_mov rfl ?_
        refine o_mov rfl ?_
        refine o_mov rfl ?_
        refine o_mov rfl ?_
        refine o_mov rfl ?_
        refine o_add rfl rfl (by first | exact IntWalk.i64_in _ (by omega) | rfl) ?_
        refine o_slT (i := 0) (j := (j : Int) + 0) Tryd.underlying9 rfl rfl ⟨_, rfl⟩ ⟨by omega, by omega, by omega⟩ ?_
        rw [show (r.take ((j : Int) + 0).toNat).drop (0 : Int).toNat = r.take j from by rw [show ((j : Int) + 0).toNat = j by omega]; rfl, ← hget]
        refine o_idx slc_43 (off := i) rfl rfl ⟨by omega, by omega⟩ (by simp) ?_
        refine o_store siz_9 rfl rfl rfl (by repeat (first | exact Upd.here | apply Upd.next)) (strs_get (by simp only [List.length_append, List.length_take, List.length_replicate]; omega)) (by simp [str]) ?_
        refine w_nil ?_
        refine w_seq ?_
        refine w_region rfl ?_
        refine o_mov rfl ?_
        refine o_mov rfl ?_
        refine o_mov rfl ?_
        refine o_lenT Tryd.underlying9 rfl ?_
        refine o_add rfl rfl (by first | exact IntWalk.i64_in _ (by omega) | rfl) ?_
        refine o_slT (i := (j : Int) + (([c] : List UInt8).length : Nat)) (j := (r.length : Nat)) Tryd.underlying9 rfl ⟨_, rfl⟩ rfl ⟨by omega, by simp only [List.length_cons, List.length_nil]; omega, by omega⟩ ?_
        rw [show (r.take ((r.length : Nat) : Int).toNat).drop ((j : Int) + (([c] : List UInt8).length : Nat)).toNat = r.drop (j + 1) from by rw [Int.toNat_natCast, List.take_length]; congr 1]
        refine o_asg rfl ?_
        refine w_nil ?_
        refine w_region rfl ?_
        rw [strs_set, fill_stepG rfl hi]
        refine o_mov rfl ?_
        refine o_add rfl rfl (by first | exact IntWalk.i64_in _ (by omega) | rfl) ?_
        refine o_asg rfl ?_
        refine w_nil ?_
        refine w_inB ?_
        exact w_again ⟨(i + 1, r.drop (j + 1)), ⟨by simp only; omega, hdr, by simp only [List.length_drop]; omega⟩, (by simp only; omega), (by repeat (first | exact Sub.nil _ | refine Sub.cons rfl ?_)), (Take.sub (by repeat (first | exact Take.nil | exact Take.all _ | (apply Take.cons; focus (repeat (first | exact Pick.here | apply Pick.next))))))⟩
  · simp only at hi hr hrl hlt ⊢
    have hlen : (cutB c r).length = (cutB c l).length - i := by rw [← hr, List.length_drop]
    have hcr := cutB_len c r
    have hnot : c ∉ r := fun hm => by have := List.count_pos_iff.2 hm; omega
    have hget : (cutB c l).getD i [] = r := by have h0 := congrArg (fun L => L.getD 0 []) hr; simp only [cutB_none hnot, List.getD_eq_getElem?_getD, List.getElem?_drop, Nat.add_zero, List.getElem?_cons_zero, Option.getD_some] at h0; rw [List.getD_eq_getElem?_getD]; exact h0
    refine w_exit rfl ?_
    refine w_seq ?_
    refine w_region rfl ?_
    refine o_mov rfl ?_
    refine o_mov rfl ?_
    refine o_mov rfl ?_
    rw [← hget]
    refine o_idx slc_43 (off := i) rfl rfl ⟨by omega, by omega⟩ (by simp) ?_
    refine o_store siz_9 rfl rfl rfl (by repeat (first | exact Upd.here | apply Upd.next)) (strs_get (by simp only [List.length_append, List.length_take, List.length_replicate]; omega)) (by simp [str]) ?_
    refine w_nil ?_
    refine w_seq ?_
    refine w_region rfl ?_
    rw [strs_set, fill_stepG rfl hi]
    refine o_mov rfl ?_
    refine o_mov rfl ?_
    refine o_add rfl rfl (by first | exact IntWalk.i64_in _ (by omega) | rfl) ?_
    refine o_slS2 (o' := 0) (l' := (cutB c l).length) (c' := (cutB c l).length) (i := 0) (j := (i : Int) + 1) slc_43 rfl rfl ⟨_, rfl⟩ ⟨by omega, by omega, by omega⟩ ⟨by omega, by omega⟩ (by omega) (by omega) ?_
    rw [show i + 1 = (cutB c l).length by omega, Nat.sub_self, List.replicate_zero, List.append_nil, List.take_length]
    refine o_asg rfl ?_
    refine w_nil ?_
    exact w_ret (ret1 rfl rfl) ⟨_, (Own.mk_ (cap := (cutB c l).length) (Nat.le_refl _) (by simp only [maxLen]; omega) (by rw [strs_size, Nat.mul_one]) (by simp [strs, List.take_of_length_le]) : Own [(b2, .cells (strs (cutB c l)) 9 (0, 0))] _ 9 1 (cutB c l).length ((cutB c l).map str)), rfl⟩ (Take.sub (by repeat (first | exact Take.nil | exact Take.all _ | (apply Take.cons; focus (repeat (first | exact Pick.here | apply Pick.next))))))

theorem s_Split (l : List UInt8) (c : UInt8) (hl : l.length ≤ 1000000) : Ctr Tryd.prog 10 [str l, str [c]] ([]) (fun v ho => ∃ H, Own H v 9 1 (cutB c l).length ((cutB c l).map str) ∧ ho = [H]) := by
  refine spec_of Tryd.func10 rfl rfl fun w0 L => ?_
  refine w_seq ?_
  refine w_region rfl ?_
  refine o_asg rfl ?_
  refine w_nil ?_
  refine w_seq ?_
  refine w_region rfl ?_
  refine o_mov rfl ?_
  refine o_mov rfl ?_
  refine o_call (s_genSplit l c hl) fn_15 rfl (by repeat (first | exact Take.nil | exact Take.all _ | (apply Take.cons; focus (repeat (first | exact Pick.here | apply Pick.next))))) ?_
  rintro v ho ⟨H, hO, rfl⟩
  refine o_asg rfl ?_
  refine w_nil ?_
  exact w_ret (ret1 rfl rfl) ⟨H, hO, rfl⟩ (Take.sub (by repeat (first | exact Take.nil | exact Take.all _ | (apply Take.cons; focus (repeat (first | exact Pick.here | apply Pick.next))))))

theorem take1_eq {l : List UInt8} {c : UInt8} (h : 1 ≤ l.length) : l.take 1 = [c] ↔ l.head? = some c := by
  cases l with
  | nil => simp at h
  | cons b r => simp

theorem sl_HasPrefix (l : List UInt8) (c : UInt8) (hl : l.length ≤ 1000000) : Ctr Tryd.prog 67 [str l, str [c]] ([]) (fun v ho => v = .bool (decide (l.head? = some c)) ∧ ho = []) := by
  refine spec_of Tryd.func67 rfl rfl fun w0 L => ?_
  have h1 : ([c] : List UInt8).length = 1 := rfl
  refine w_seq ?_
  refine w_region rfl ?_
  refine o_asg rfl ?_
  refine w_nil ?_
  refine w_seq ?_
  refine w_region rfl ?_
  refine o_mov rfl ?_
  refine o_lenT Tryd.underlying9 rfl ?_
  refine o_mov rfl ?_
  refine o_lenT Tryd.underlying9 rfl ?_
  refine o_ge_s rfl rfl (fun hg => ?_) (fun hg => ?_)
  · refine o_mov rfl ?_
    refine o_yes rfl rfl ?_
    refine o_mov rfl ?_
    refine o_yes rfl rfl ?_
    refine o_mov rfl ?_
    refine o_yes rfl rfl ?_
    refine o_lenT Tryd.underlying9 rfl ?_
    refine o_yes rfl rfl ?_
    refine o_slT (i := 0) (j := (([c] : List UInt8).length : Nat)) Tryd.underlying9 rfl rfl ⟨_, rfl⟩ ⟨by omega, by omega, by omega⟩ ?_
    refine o_yes rfl rfl ?_
    refine o_mov rfl ?_
    rw [show (l.take ((([c] : List UInt8).length : Nat) : Int).toNat).drop (0 : Int).toNat = l.take 1 from rfl]
    refine o_yes rfl rfl ?_
    refine o_eqT_s rfl rfl (fun he => ?_) (fun he => ?_)
    · refine o_pick_t rfl rfl ?_
      refine o_asg rfl ?_
      refine w_nil ?_
      exact w_ret (ret1 rfl rfl) ⟨by rw [decide_eq_true ((take1_eq (by omega)).1 he)], rfl⟩ (Take.sub (by repeat (first | exact Take.nil | exact Take.all _ | (apply Take.cons; focus (repeat (first | exact Pick.here | apply Pick.next))))))
    · refine o_pick_t rfl rfl ?_
      refine o_asg rfl ?_
      refine w_nil ?_
      exact w_ret (ret1 rfl rfl) ⟨by rw [decide_eq_false (fun h => he ((take1_eq (by omega)).2 h))], rfl⟩ (Take.sub (by repeat (first | exact Take.nil | exact Take.all _ | (apply Take.cons; focus (repeat (first | exact Pick.here | apply Pick.next))))))
  · refine o_mov rfl ?_
    refine o_no rfl rfl rfl ?_
    refine o_no rfl rfl rfl ?_
    refine o_no rfl rfl rfl ?_
    refine o_no rfl rfl rfl ?_
    refine o_no rfl rfl rfl ?_
    refine o_no rfl rfl rfl ?_
    refine o_pick_f rfl rfl ?_
    refine o_asg rfl ?_
    refine w_nil ?_
    exact w_ret (ret1 rfl rfl) ⟨by rw [decide_eq_false (fun h => by cases l with | nil => cases h | cons b r => simp at hg; omega)], rfl⟩ (Take.sub (by repeat (first | exact Take.nil | exact Take.all _ | (apply Take.cons; focus (repeat (first | exact Pick.here | apply Pick.next))))))

theorem sl_CutPrefix (l : List UInt8) (c : UInt8) (hl : l.length ≤ 1000000) : Ctr Tryd.prog 54 [str l, str [c]] ([]) (fun v ho => v = .tuple #[str (if l.head? = some c then l.tail else l), .bool (decide (l.head? = some c))] ∧ ho = []) := by
  refine spec_of Tryd.func54 rfl rfl fun w0 L => ?_
  have h1 : ([c] : List UInt8).length = 1 := rfl
  by_cases hc : l.head? = some c
  · refine w_seq ?_
    refine w_region rfl ?_
    refine o_asg rfl ?_
    refine o_asg rfl ?_
    refine w_nil ?_
    refine w_seq ?_
    refine w_seq ?_
    refine w_region rfl ?_
    refine o_mov rfl ?_
    refine o_mov rfl ?_
    refine o_call (sl_HasPrefix l c hl) fn_67 rfl (by repeat (first | exact Take.nil | exact Take.all _ | (apply Take.cons; focus (repeat (first | exact Pick.here | apply Pick.next))))) ?_
    rintro v ho ⟨rfl, rfl⟩
    rw [decide_eq_true hc]
    refine o_not rfl ?_
    refine w_nil ?_
    refine w_if_f rfl ?_
    have hlp : 1 ≤ l.length := by cases l with | nil => cases hc | cons b r => simp
    refine w_skip ?_
    refine w_seq ?_
    refine w_region rfl ?_
    refine o_mov rfl ?_
    refine o_mov rfl ?_
    refine o_lenT Tryd.underlying9 rfl ?_
    refine o_slT (i := (([c] : List UInt8).length : Nat)) (j := (l.length : Nat)) Tryd.underlying9 rfl ⟨_, rfl⟩ rfl ⟨by omega, by omega, by omega⟩ ?_
    rw [show (l.take ((l.length : Nat) : Int).toNat).drop ((([c] : List UInt8).length : Nat) : Int).toNat = l.tail from by rw [Int.toNat_natCast, Int.toNat_natCast, List.take_length]; cases l <;> rfl]
    refine o_asg rfl ?_
    refine o_asg rfl ?_
    refine w_nil ?_
    exact w_ret (ret2 rfl rfl rfl) ⟨by simp [hc], rfl⟩ (Take.sub (by repeat (first | exact Take.nil | exact Take.all _ | (apply Take.cons; focus (repeat (first | exact Pick.here | apply Pick.next))))))
  · refine w_seq ?_
    refine w_region rfl ?_
    refine o_asg rfl ?_
    refine o_asg rfl ?_
    refine w_nil ?_
    refine w_seq ?_
    refine w_seq ?_
    refine w_region rfl ?_
    refine o_mov rfl ?_
    refine o_mov rfl ?_
    refine o_call (sl_HasPrefix l c hl) fn_67 rfl (by repeat (first | exact Take.nil | exact Take.all _ | (apply Take.cons; focus (repeat (first | exact Pick.here | apply Pick.next))))) ?_
    rintro v ho ⟨rfl, rfl⟩
    rw [decide_eq_false hc]
    refine o_not rfl ?_
    refine w_nil ?_
    refine w_if_t rfl ?_
    refine w_seq ?_
    refine w_region rfl ?_
    refine o_mov rfl ?_
    refine o_asg rfl ?_
    refine o_asg rfl ?_
    refine w_nil ?_
    exact w_ret (ret2 rfl rfl rfl) ⟨by simp [hc], rfl⟩ (Take.sub (by repeat (first | exact Take.nil | exact Take.all _ | (apply Take.cons; focus (repeat (first | exact Pick.here | apply Pick.next))))))

theorem s_CutPrefix (l : List UInt8) (c : UInt8) (hl : l.length ≤ 1000000) : Ctr Tryd.prog 34 [str l, str [c]] ([]) (fun v ho => v = .tuple #[str (if l.head? = some c then l.tail else l), .bool (decide (l.head? = some c))] ∧ ho = []) := by
  refine spec_of Tryd.func34 rfl rfl fun w0 L => ?_
  refine w_seq ?_
  refine w_region rfl ?_
  refine o_asg rfl ?_
  refine o_asg rfl ?_
  refine w_nil ?_
  refine w_seq ?_
  refine w_region rfl ?_
  refine o_mov rfl ?_
  refine o_mov rfl ?_
  refine o_call (sl_CutPrefix l c hl) fn_54 rfl (by repeat (first | exact Take.nil | exact Take.all _ | (apply Take.cons; focus (repeat (first | exact Pick.here | apply Pick.next))))) ?_
  rintro v ho ⟨rfl, rfl⟩
  refine o_ext rfl rfl ?_
  refine o_ext rfl rfl ?_
  refine o_asg rfl ?_
  refine o_asg rfl ?_
  refine w_nil ?_
  exact w_ret (ret2 rfl rfl rfl) ⟨rfl, rfl⟩ (Take.sub (by repeat (first | exact Take.nil | exact Take.all _ | (apply Take.cons; focus (repeat (first | exact Pick.here | apply Pick.next))))))

theorem s_IndexByte (l : List UInt8) (c : UInt8) : Ctr Tryd.prog 58 [str l, .int .u8 (c.toNat : Int)] ([]) (fun v ho => v = .int .i64 (Lib.indexByte l c) ∧ ho = []) := by
  refine spec_of Tryd.func58 rfl rfl fun w0 L => ?_
  refine w_seq ?_
  refine w_region rfl ?_
  refine o_asg rfl ?_
  refine w_nil ?_
  refine w_seq ?_
  refine w_region rfl ?_
  refine o_mov rfl ?_
  refine o_mov rfl ?_
  refine o_call (sl_IndexByte l c) fn_47 rfl (by repeat (first | exact Take.nil | exact Take.all _ | (apply Take.cons; focus (repeat (first | exact Pick.here | apply Pick.next))))) ?_
  rintro v ho ⟨rfl, rfl⟩
  refine o_asg rfl ?_
  refine w_nil ?_
  exact w_ret (ret1 rfl rfl) ⟨rfl, rfl⟩ (Take.sub (by repeat (first | exact Take.nil | exact Take.all _ | (apply Take.cons; focus (repeat (first | exact Pick.here | apply Pick.next))))))

end Go.Proofs.YtmcopafdooejjaaDoor
