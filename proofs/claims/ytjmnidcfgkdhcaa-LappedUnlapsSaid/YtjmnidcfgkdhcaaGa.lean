/- Contracts of the library's functions that the layer lapped uses: Index, Contains, Grow, Concat of two, Repeat of one, Reverse; lengths. No condition but on the counts. -/
import Derived.Test.YtjmnidcfgkdhcaaTy
import Derived.Test.YtjmnidcfgkdhcaaEk
import Derived.Test.YtjmnidcfgkdhcaaPf
import Derived.Test.YtjmnidcfgkdhcaaFq
namespace Go.Proofs.Ytjmnidcfgkdhcaa
open Go.Eng
set_option linter.unusedVariables false
set_option linter.unusedSimpArgs false
set_option maxRecDepth 20000
attribute [local irreducible] WL WT
theorem Ints.arr {b : Nat} {k : IntKind} {xs : List Int} {T : TypeId} {fr : Nat × Nat} (h : xs.length ≤ 1000000) : Ints [(b, .cells (ints k xs) T fr)] (.slice (some ⟨b, 0, none⟩) xs.length xs.length) k xs :=
  ⟨by simp, by omega, _, _, rfl, Nat.le_refl _, fun _ => ⟨b, 0, _, T, fr, rfl, List.mem_cons_self .., fun j u hj => by simpa [ints] using hj⟩⟩
theorem OwnI.app {H : Hp} {v : Value} {el : TypeId} {k : IntKind} {xs ys : List Int} (h : Own H v el 1 (xs.length + ys.length) (xs.map (Value.int k) ++ ys.map (Value.int k))) : OwnI H v el k (xs ++ ys) := by
  unfold OwnI; rw [List.length_append, List.map_append]; exact h
theorem OwnI.spare {b n cap : Nat} {el : TypeId} {k : IntKind} (h : n ≤ cap) (hc : cap ≤ 1000000) : OwnI [(b, .cells (ints k (List.replicate cap 0)) el (0, 0))] (.slice (some ⟨b, 0, none⟩) n cap) el k (List.replicate n 0) := by
  unfold OwnI
  rw [List.length_replicate]
  exact Own.mk_ h (by simp only [maxLen]; omega) (by simp [ints]) (by simp [ints, List.take_replicate, Nat.min_eq_left h])
theorem OwnI.set1 {b : Nat} {cur : Array Value} {v : Value} {el : TypeId} {k : IntKind} {xs : List Int} (h : OwnI [(b, .cells cur el (0, 0))] v el k xs) (a : Int) (q : Nat) : OwnI [(b, .cells (cur.setIfInBounds q (.int k a)) el (0, 0))] v el k (xs.set q a) := by
  unfold OwnI at h ⊢
  obtain ⟨h0, h⟩ := h
  rcases h with ⟨_, _, he⟩ | ⟨b', cap, cur', rfl, he, h1, h2, h3, h4⟩
  · cases he
  · injection he with he _
    injection he with e1 e2
    injection e2 with e2
    subst e1 e2
    refine ⟨by simp, .inr ⟨b, cap, _, by rw [List.length_set], rfl, by rw [List.length_set]; exact h1, h2, by simpa using h3, ?_⟩⟩
    rw [List.length_set, Array.toList_setIfInBounds, List.take_set, h4, List.map_set]
theorem OwnI.get1 {b : Nat} {cur : Array Value} {v : Value} {el : TypeId} {k : IntKind} {xs : List Int} (h : OwnI [(b, .cells cur el (0, 0))] v el k xs) {q : Nat} (hq : q < xs.length) : cur[q]? = some (.int k (xs.getD q 0)) := by
  unfold OwnI at h
  obtain ⟨h0, h⟩ := h
  rcases h with ⟨_, _, he⟩ | ⟨b', cap, cur', rfl, he, h1, h2, h3, h4⟩
  · cases he
  · injection he with he _
    injection he with e1 e2
    injection e2 with e2
    subst e1 e2
    have h5 : (cur.toList.take (xs.length * 1))[q]? = some (.int k (xs.getD q 0)) := by rw [h4]; simp [hq]
    rw [List.getElem?_take] at h5
    split at h5
    · simpa using h5
    · cases h5
/-- What of two lists is laid behind i of them. -/
def catL (xs ys : List Int) : Nat → List Int
  | 0 => []
  | 1 => xs
  | _ => xs ++ ys
/-- A list whose i outer pairs are changed. -/
def revS (xs : List Int) (i : Nat) : List Int := (List.range xs.length).map fun k => if k < i ∨ xs.length ≤ k + i then xs.getD (xs.length - 1 - k) 0 else xs.getD k 0
theorem revS_len (xs : List Int) (i : Nat) : (revS xs i).length = xs.length := by simp [revS]
theorem revS_0 (xs : List Int) : revS xs 0 = xs := by
  apply List.ext_getElem (revS_len _ _)
  intro k h1 h2
  simp [revS, h2]
  intro h; omega
theorem revS_get {xs : List Int} {i k : Nat} (h : k < xs.length) : (revS xs i).getD k 0 = if k < i ∨ xs.length ≤ k + i then xs.getD (xs.length - 1 - k) 0 else xs.getD k 0 := by
  simp [revS, h]
theorem revS_step {xs : List Int} {i : Nat} (h : i < xs.length - 1 - i) : ((revS xs i).set i ((revS xs i).getD (xs.length - 1 - i) 0)).set (xs.length - 1 - i) ((revS xs i).getD i 0) = revS xs (i + 1) := by
  rw [revS_get (by omega), revS_get (by omega), if_neg (by omega), if_neg (by omega)]
  apply List.ext_getElem (by simp [revS_len])
  intro k h1 h2
  rw [revS_len] at h2
  simp only [List.getElem_set]
  by_cases e1 : xs.length - 1 - i = k
  · rw [if_pos e1]; simp [revS]; rw [if_pos (by omega), show xs.length - 1 - k = i by omega]
  · rw [if_neg e1]
    by_cases e2 : i = k
    · rw [if_pos e2]; subst e2; simp [revS]
    · rw [if_neg e2]
      simp only [revS, List.getElem_map, List.getElem_range]
      by_cases e3 : k < i ∨ xs.length ≤ k + i
      · rw [if_pos e3, if_pos (by omega)]
      · rw [if_neg e3, if_neg (by omega)]
theorem revS_end {xs : List Int} {i : Nat} (h : ¬ (i < xs.length - 1 - i)) : revS xs i = xs.reverse := by
  apply List.ext_getElem (by simp [revS_len])
  intro k h1 h2
  rw [revS_len] at h1
  rw [List.getElem_reverse]
  simp only [revS, List.getElem_map, List.getElem_range, List.getD_eq_getElem?_getD]
  by_cases e3 : k < i ∨ xs.length ≤ k + i
  · rw [if_pos e3, List.getElem?_eq_getElem (by omega)]; rfl
  · rw [if_neg e3, List.getElem?_eq_getElem h1]
    simp only [Option.getD_some]
    congr 1
    omega

theorem lengths_arr  : Ctr Try.prog 64 [] ([]) (fun v ho => v = .agg #[.int .i64 40, .int .i64 60, .int .i64 80, .int .i64 120] ∧ ho = []) := by
  refine spec_of Try.func64 rfl rfl fun w0 L => ?_
  refine w_seq ?_
  refine w_region rfl ?_
  refine o_alloc zer_124 (fun b1 => ?_)
  refine w_nil ?_
  refine w_seq ?_
  refine w_region rfl ?_
  refine o_bld bld_124 rfl rfl ?_
  refine o_storeN siz_124 rfl rfl rfl (by repeat (first | exact Upd.here | apply Upd.next)) (by first | exact Nat.le_of_ble_eq_true rfl | decide | (simp; done) | omega) (by first | rfl | simp) ?_
  refine w_nil ?_
  exact w_ret (ret1c rfl lod_124 rfl (by repeat (first | exact At.here | (refine At.inA ?_; assumption) | apply At.next)) (Nat.le_of_ble_eq_true rfl) rfl) ⟨rfl, rfl⟩ (Take.sub (by repeat (first | exact Take.nil | exact Take.all _ | (apply Take.cons; focus (repeat (first | exact Pick.here | apply Pick.next))))))

theorem lapped_Lengths  : Ctr Try.prog 56 [] ([]) (fun v ho => ∃ H, Ints H v .i64 [40, 60, 80, 120] ∧ ho = [H]) := by
  refine spec_of Try.func56 rfl rfl fun w0 L => ?_
  refine w_seq ?_
  refine w_region rfl ?_
  refine o_asg rfl ?_
  refine w_nil ?_
  refine w_seq ?_
  refine w_region rfl ?_
  refine o_call (lengths_arr) fn_64 rfl (by repeat (first | exact Take.nil | exact Take.all _ | (apply Take.cons; focus (repeat (first | exact Pick.here | apply Pick.next))))) ?_
  rintro v ho ⟨rfl, rfl⟩
  refine o_alloc zer_124 (fun b2 => ?_)
  refine o_storeN siz_124 rfl rfl rfl (by repeat (first | exact Upd.here | apply Upd.next)) (by first | exact Nat.le_of_ble_eq_true rfl | decide | (simp; done) | omega) (by first | rfl | simp) ?_
  refine w_nil ?_
  refine w_seq ?_
  refine w_region rfl ?_
  refine o_slA arr_124 rfl ?_
  refine o_asg rfl ?_
  refine w_nil ?_
  exact w_ret (ret1 rfl rfl) ⟨[(b2, .cells #[.int .i64 40, .int .i64 60, .int .i64 80, .int .i64 120] 124 (0, 0))], Ints.arr (k := .i64) (xs := [40, 60, 80, 120]) (by decide), rfl⟩ (Take.sub (by repeat (first | exact Take.nil | exact Take.all _ | (apply Take.cons; focus (repeat (first | exact Pick.here | apply Pick.next))))))

theorem mem_take_step {xs : List Int} {n : Int} {i : Nat} (hi : i < xs.length) (h : n ∉ xs.take i) (h2 : n ≠ xs.getD i 0) : n ∉ xs.take (i + 1) := by
  rw [← take_get_step hi]
  intro hm
  rcases List.mem_append.1 hm with h3 | h3
  · exact h h3
  · exact h2 (List.mem_singleton.1 h3)

theorem slices_Index {v : Value} {xs : List Int} {A : Hp} (hx : Ints A v .i64 xs) (n : Int) : Ctr Try.prog 86 [v, .int .i64 n] ([A]) (fun w ho => ∃ r : Int, w = .int .i64 r ∧ (0 ≤ r ↔ n ∈ xs) ∧ ho = [A]) := by
  refine spec_of Try.func86 rfl rfl fun w0 L => ?_
  have hmax := hx.2.1
  refine w_seq ?_
  refine w_region rfl ?_
  refine o_asg rfl ?_
  refine w_nil ?_
  refine w_seq ?_
  refine w_seq ?_
  refine w_region rfl ?_
  refine o_mov rfl ?_
  refine o_lenI hx slc_112 rfl ?_
  refine o_mov rfl ?_
  refine w_nil ?_
  refine w_block ?_
  refine w_loop (X := Nat) (fun i => [(0, v), (1, .int .i64 n), (6, v), (7, .int .i64 xs.length), (8, .int .i64 i)]) (fun _ => [A]) (fun i => i ≤ xs.length ∧ n ∉ xs.take i) (fun i => xs.length - i) 0 ⟨by omega, by simp⟩ (by repeat (first | exact Sub.nil _ | refine Sub.cons rfl ?_)) (Take.sub (by repeat (first | exact Take.nil | exact Take.all _ | (apply Take.cons; focus (repeat (first | exact Pick.here | apply Pick.next)))))) ?_
  rintro i ⟨hi, hn⟩
  refine w_seq ?_
  refine w_region rfl ?_
  refine o_lt rfl rfl ?_
  refine w_nil ?_
  refine w_seq ?_
  refine w_if_d rfl (fun hl => ?_) (fun hl => ?_)
  · have hli : i < xs.length := by omega
    refine w_skip ?_
    refine w_seq ?_
    refine w_block ?_
    refine w_seq ?_
    refine w_region rfl ?_
    refine o_mov rfl ?_
    refine o_asg rfl ?_
    refine w_nil ?_
    refine w_seq ?_
    refine w_region rfl ?_
    refine o_mov rfl ?_
    refine o_mov rfl ?_
    refine o_mov rfl ?_
    refine o_idxI hx (by repeat (first | exact Has.here | apply Has.next)) slc_112 rfl rfl ⟨by omega, by omega⟩ (fun bb1 ff1 ar1 TT1 fr1 hm1 hg1 => ?_)
    refine o_load lod_3 rfl hm1 hg1 ?_
    refine o_eq rfl rfl ?_
    refine w_nil ?_
    refine w_if_d rfl (fun he => ?_) (fun he => ?_)
    · refine w_seq ?_
      refine w_region rfl ?_
      refine o_mov rfl ?_
      refine o_asg rfl ?_
      refine w_nil ?_
      exact w_ret (ret1 rfl rfl) ⟨(i : Int), rfl, ⟨fun _ => (by rw [he, Int.toNat_natCast, List.getD_eq_getElem?_getD, List.getElem?_eq_getElem hli]; exact List.getElem_mem hli), fun _ => Int.natCast_nonneg _⟩, rfl⟩ (Take.sub (by repeat (first | exact Take.nil | exact Take.all _ | (apply Take.cons; focus (repeat (first | exact Pick.here | apply Pick.next))))))
    · refine w_skip ?_
      refine w_inB ?_
      refine w_region rfl ?_
      refine o_add rfl rfl (by first | exact IntWalk.i64_in _ (by omega) | rfl) ?_
      refine o_mov rfl ?_
      refine w_nil ?_
      exact w_again ⟨(i + 1), ⟨by omega, mem_take_step hli hn (by simpa using he)⟩, (by omega), (by repeat (first | exact Sub.nil _ | refine Sub.cons rfl ?_)), (Take.sub (by repeat (first | exact Take.nil | exact Take.all _ | (apply Take.cons; focus (repeat (first | exact Pick.here | apply Pick.next))))))⟩
  · obtain rfl : i = xs.length := by omega
    rw [List.take_length] at hn
    refine w_exit rfl ?_
    refine w_seq ?_
    refine w_region rfl ?_
    refine o_asg rfl ?_
    refine w_nil ?_
    exact w_ret (ret1 rfl rfl) ⟨-1, rfl, ⟨fun h => absurd h (by omega), fun h => absurd h hn⟩, rfl⟩ (Take.sub (by repeat (first | exact Take.nil | exact Take.all _ | (apply Take.cons; focus (repeat (first | exact Pick.here | apply Pick.next))))))

theorem slices_Contains {v : Value} {xs : List Int} {A : Hp} (hx : Ints A v .i64 xs) (n : Int) : Ctr Try.prog 65 [v, .int .i64 n] ([A]) (fun w ho => w = .bool (decide (n ∈ xs)) ∧ ho = [A]) := by
  refine spec_of Try.func65 rfl rfl fun w0 L => ?_
  refine w_seq ?_
  refine w_region rfl ?_
  refine o_asg rfl ?_
  refine w_nil ?_
  refine w_seq ?_
  refine w_region rfl ?_
  refine o_mov rfl ?_
  refine o_mov rfl ?_
  refine o_call (slices_Index hx n) fn_86 rfl (by repeat (first | exact Take.nil | exact Take.all _ | (apply Take.cons; focus (repeat (first | exact Pick.here | apply Pick.next))))) ?_
  rintro w ho ⟨r, rfl, hr, rfl⟩
  refine o_ge rfl rfl ?_
  refine o_asg rfl ?_
  refine w_nil ?_
  exact w_ret (ret1 rfl rfl) ⟨by rw [← decide_eq_decide.2 hr], rfl⟩ (Take.sub (by repeat (first | exact Take.nil | exact Take.all _ | (apply Take.cons; focus (repeat (first | exact Pick.here | apply Pick.next))))))

theorem grow_i16 (m : Nat) (hm : m ≤ 1000000) : Ctr Try.prog 85 [.slice none 0 0, .int .i64 m] ([]) (fun v ho => ∃ H, OwnI H v 35 .i16 [] ∧ ho = [H]) := by
  refine spec_of Try.func85 rfl rfl fun w0 L => ?_
  refine w_seq ?_
  refine w_region rfl ?_
  refine o_asg rfl ?_
  refine w_nil ?_
  refine w_seq ?_
  refine w_seq ?_
  refine w_region rfl ?_
  refine o_mov rfl ?_
  refine o_lt rfl rfl ?_
  refine w_nil ?_
  refine w_if_d rfl (fun h0 => ?_) (fun h0 => ?_)
  · omega
  · refine w_skip ?_
    refine w_seq ?_
    refine w_seq ?_
    refine w_region rfl ?_
    refine o_mov rfl ?_
    refine o_mov rfl ?_
    refine o_cap slc_26 rfl ?_
    refine o_mov rfl ?_
    refine o_len slc_26 rfl ?_
    refine o_sub rfl rfl (by first | exact IntWalk.i64_in _ (by omega) | rfl) ?_
    refine o_sub (c := (m : Int)) rfl rfl (by simpa using IntWalk.i64_in (m : Int) (by omega)) ?_
    refine o_asg rfl ?_
    refine w_nil ?_
    refine w_seq ?_
    refine w_region rfl ?_
    refine o_mov rfl ?_
    refine o_gt rfl rfl ?_
    refine w_nil ?_
    refine w_if_d rfl (fun h1 => ?_) (fun h1 => ?_)
    · refine w_region rfl ?_
      refine o_mov rfl ?_
      refine o_mov rfl ?_
      refine o_cap slc_26 rfl ?_
      refine o_slS (i := 0) (j := 0) slc_26 rfl rfl ⟨_, rfl⟩ ⟨by omega, by omega, by omega⟩ ?_
      refine o_mov rfl ?_
      refine o_appZ (m := m) (kn := .i64) slc_26 (by kernel_rfl) zer_35 rfl rfl rfl (by omega) (by simp only [maxLen]; omega) (by omega) (fun b c cur hc1 hc2 hc3 => ?_)
      refine o_mov rfl ?_
      refine o_len slc_26 rfl ?_
      refine o_slS2 (o' := 0) (l' := 0) (c' := c) (i := 0) (j := 0) slc_26 rfl rfl ⟨_, rfl⟩ ⟨by omega, by omega, by omega⟩ ⟨by omega, by omega⟩ (by omega) (by omega) ?_
      refine o_asg rfl ?_
      refine w_nil ?_
      refine w_seq ?_
      refine w_region rfl ?_
      refine o_mov rfl ?_
      refine o_asg rfl ?_
      refine w_nil ?_
      exact w_ret (ret1 rfl rfl) ⟨_, Own.mk_ (Nat.zero_le _) hc2 hc3 (by simp), rfl⟩ (Take.sub (by repeat (first | exact Take.nil | exact Take.all _ | (apply Take.cons; focus (repeat (first | exact Pick.here | apply Pick.next))))))
    · refine w_emp ?_
      refine w_skip ?_
      refine w_seq ?_
      refine w_region rfl ?_
      refine o_mov rfl ?_
      refine o_asg rfl ?_
      refine w_nil ?_
      exact w_ret (ret1 rfl rfl) ⟨[], OwnI.nil _ _, rfl⟩ (Take.sub (by repeat (first | exact Take.nil | exact Take.all _ | (apply Take.cons; focus (repeat (first | exact Pick.here | apply Pick.next))))))

theorem concat_i16 {b : Nat} {T : TypeId} {v1 v2 : Value} {xs ys : List Int} {A1 A2 : Hp} (hx : Ints A1 v1 .i16 xs) (hy : Ints A2 v2 .i16 ys) (hl : xs.length + ys.length ≤ 1000000) : Ctr Try.prog 58 [.slice (some ⟨b, 0, none⟩) 2 2] ([[(b, .cells #[v1, v2] T (0, 0))], A1, A2]) (fun v ho => ∃ H, OwnI H v 35 .i16 (xs ++ ys) ∧ ho = [H, [(b, .cells #[v1, v2] T (0, 0))], A1, A2]) := by
  refine spec_of Try.func58 rfl rfl fun w0 L => ?_
  have hc0 : (catL xs ys 0).length = 0 := rfl
  have hc1 : (catL xs ys 1).length = xs.length := rfl
  have hc2 : (catL xs ys 2).length = xs.length + ys.length := by simp [catL]
  refine w_seq ?_
  refine w_region rfl ?_
  refine o_asg rfl ?_
  refine w_nil ?_
  refine w_seq ?_
  refine w_region rfl ?_
  refine o_asg rfl ?_
  refine w_nil ?_
  refine w_seq ?_
  refine w_seq ?_
  refine w_region rfl ?_
  refine o_mov rfl ?_
  refine o_len slc_41 rfl ?_
  refine o_mov rfl ?_
  refine w_nil ?_
  refine w_block ?_
  refine w_loop (X := Nat) (fun i => [(0, .slice (some ⟨b, 0, none⟩) 2 2), (9, .slice (some ⟨b, 0, none⟩) 2 2), (10, .int .i64 2), (11, .int .i64 i), (3, .int .i64 ((catL xs ys i).length : Nat))]) (fun _ => [[(b, .cells #[v1, v2] T (0, 0))], A1, A2]) (fun i => i ≤ 2) (fun i => 2 - i) 0 (by omega) (by repeat (first | exact Sub.nil _ | refine Sub.cons rfl ?_)) (Take.sub (by repeat (first | exact Take.nil | exact Take.all _ | (apply Take.cons; focus (repeat (first | exact Pick.here | apply Pick.next)))))) ?_
  intro i hi
  refine w_seq ?_
  refine w_region rfl ?_
  refine o_lt rfl rfl ?_
  refine w_nil ?_
  refine w_seq ?_
  refine w_if_d rfl (fun hl1 => ?_) (fun hl1 => ?_)
  · rcases (show i = 0 ∨ i = 1 by omega) with rfl | rfl
    · refine w_skip ?_
      refine w_seq ?_
      refine w_block ?_
      refine w_seq ?_
      refine w_region rfl ?_
      refine o_idx slc_41 (off := 0) rfl rfl ⟨by omega, by omega⟩ rfl ?_
      refine o_load (v := v1) lod_26 rfl (by repeat (first | exact At.here | (refine At.inA ?_; assumption) | apply At.next)) rfl ?_
      refine o_asg rfl ?_
      refine w_nil ?_
      refine w_seq ?_
      refine w_region rfl ?_
      refine o_mov rfl ?_
      refine o_mov rfl ?_
      refine o_lenI hx slc_26 rfl ?_
      refine o_add rfl rfl (by first | exact IntWalk.i64_in _ (by omega) | rfl) ?_
      refine o_asg rfl ?_
      refine w_nil ?_
      refine w_seq ?_
      refine w_region rfl ?_
      rw [show (((catL xs ys 0).length : Nat) : Int) + xs.length = ((catL xs ys 1).length : Nat) by simp [catL]]
      refine o_mov rfl ?_
      refine o_lt rfl rfl ?_
      refine w_nil ?_
      refine w_if_d rfl (fun hneg => ?_) (fun hneg => ?_)
      · omega
      · refine w_skip ?_
        refine w_inB ?_
        refine w_region rfl ?_
        refine o_add rfl rfl (by first | exact IntWalk.i64_in _ (by omega) | rfl) ?_
        refine o_mov rfl ?_
        refine w_nil ?_
        exact w_again ⟨1, (by omega), (by omega), (by repeat (first | exact Sub.nil _ | refine Sub.cons rfl ?_)), (Take.sub (by repeat (first | exact Take.nil | exact Take.all _ | (apply Take.cons; focus (repeat (first | exact Pick.here | apply Pick.next))))))⟩
    · refine w_skip ?_
      refine w_seq ?_
      refine w_block ?_
      refine w_seq ?_
      refine w_region rfl ?_
      refine o_idx slc_41 (off := 1) rfl rfl ⟨by omega, by omega⟩ rfl ?_
      refine o_load (v := v2) lod_26 rfl (by repeat (first | exact At.here | (refine At.inA ?_; assumption) | apply At.next)) rfl ?_
      refine o_asg rfl ?_
      refine w_nil ?_
      refine w_seq ?_
      refine w_region rfl ?_
      refine o_mov rfl ?_
      refine o_mov rfl ?_
      refine o_lenI hy slc_26 rfl ?_
      refine o_add rfl rfl (by first | exact IntWalk.i64_in _ (by omega) | rfl) ?_
      refine o_asg rfl ?_
      refine w_nil ?_
      refine w_seq ?_
      refine w_region rfl ?_
      rw [show (((catL xs ys 1).length : Nat) : Int) + ys.length = ((catL xs ys 2).length : Nat) by simp [catL]]
      refine o_mov rfl ?_
      refine o_lt rfl rfl ?_
      refine w_nil ?_
      refine w_if_d rfl (fun hneg => ?_) (fun hneg => ?_)
      · omega
      · refine w_skip ?_
        refine w_inB ?_
        refine w_region rfl ?_
        refine o_add rfl rfl (by first | exact IntWalk.i64_in _ (by omega) | rfl) ?_
        refine o_mov rfl ?_
        refine w_nil ?_
        exact w_again ⟨2, (by omega), (by omega), (by repeat (first | exact Sub.nil _ | refine Sub.cons rfl ?_)), (Take.sub (by repeat (first | exact Take.nil | exact Take.all _ | (apply Take.cons; focus (repeat (first | exact Pick.here | apply Pick.next))))))⟩
  · obtain rfl : i = 2 := by omega
    refine w_exit rfl ?_
    refine w_seq ?_
    refine w_region rfl ?_
    refine o_mov rfl ?_
    refine o_call (grow_i16 (catL xs ys 2).length (by simp only [catL, List.length_append]; omega)) fn_85 rfl (by repeat (first | exact Take.nil | exact Take.all _ | (apply Take.cons; focus (repeat (first | exact Pick.here | apply Pick.next))))) ?_
    rintro u0 ho ⟨H0, hO0, rfl⟩
    refine o_asg rfl ?_
    refine w_nil ?_
    refine w_seq ?_
    refine w_seq ?_
    refine w_region rfl ?_
    refine o_mov rfl ?_
    refine o_len slc_41 rfl ?_
    refine o_mov rfl ?_
    refine w_nil ?_
    refine w_block ?_
    refine w_loop (X := Nat × Value × Hp) (fun x => [(0, .slice (some ⟨b, 0, none⟩) 2 2), (6, x.2.1), (25, .slice (some ⟨b, 0, none⟩) 2 2), (26, .int .i64 2), (27, .int .i64 x.1)]) (fun x => [x.2.2, [(b, .cells #[v1, v2] T (0, 0))], A1, A2]) (fun x => x.1 ≤ 2 ∧ OwnI x.2.2 x.2.1 35 .i16 (catL xs ys x.1)) (fun x => 2 - x.1) (0, u0, H0) ⟨by simp, hO0⟩ (by repeat (first | exact Sub.nil _ | refine Sub.cons rfl ?_)) (Take.sub (by repeat (first | exact Take.nil | exact Take.all _ | (apply Take.cons; focus (repeat (first | exact Pick.here | apply Pick.next)))))) ?_
    rintro ⟨i, u, H⟩ ⟨hi2, hO⟩
    refine w_seq ?_
    refine w_region rfl ?_
    refine o_lt rfl rfl ?_
    refine w_nil ?_
    refine w_seq ?_
    refine w_if_d rfl (fun hl2 => ?_) (fun hl2 => ?_)
    · simp only at hi2 hO hl2 ⊢
      rcases (show i = 0 ∨ i = 1 by omega) with rfl | rfl
      · refine w_skip ?_
        refine w_seq ?_
        refine w_block ?_
        refine w_seq ?_
        refine w_region rfl ?_
        refine o_idx slc_41 (off := 0) rfl rfl ⟨by omega, by omega⟩ rfl ?_
        refine o_load (v := v1) lod_26 rfl (by repeat (first | exact At.here | (refine At.inA ?_; assumption) | apply At.next)) rfl ?_
        refine o_asg rfl ?_
        refine w_nil ?_
        refine w_region rfl ?_
        refine o_mov rfl ?_
        refine o_mov rfl ?_
        refine o_app slc_26 zer_35 rfl rfl rfl hO (by repeat (first | exact Pick.here | apply Pick.next)) hx (by repeat (first | exact Has.here | apply Has.next)) (one_ints _ _) (by simp only [maxLen, catL, List.length_nil]; omega) (by simp only [catL, List.length_nil]; omega) (fun v' H' hO2 _ => ?_)
        refine o_asg rfl ?_
        refine w_nil ?_
        refine w_inB ?_
        refine w_region rfl ?_
        refine o_add rfl rfl (by first | exact IntWalk.i64_in _ (by omega) | rfl) ?_
        refine o_mov rfl ?_
        refine w_nil ?_
        exact w_again ⟨(1, v', H'), ⟨by simp, (by have := OwnI.app (xs := []) (ys := xs) hO2; rw [List.nil_append] at this; exact this)⟩, (by simp only; omega), (by repeat (first | exact Sub.nil _ | refine Sub.cons rfl ?_)), (Take.sub (by repeat (first | exact Take.nil | exact Take.all _ | (apply Take.cons; focus (repeat (first | exact Pick.here | apply Pick.next))))))⟩
      · refine w_skip ?_
        refine w_seq ?_
        refine w_block ?_
        refine w_seq ?_
        refine w_region rfl ?_
        refine o_idx slc_41 (off := 1) rfl rfl ⟨by omega, by omega⟩ rfl ?_
        refine o_load (v := v2) lod_26 rfl (by repeat (first | exact At.here | (refine At.inA ?_; assumption) | apply At.next)) rfl ?_
        refine o_asg rfl ?_
        refine w_nil ?_
        refine w_region rfl ?_
        refine o_mov rfl ?_
        refine o_mov rfl ?_
        refine o_app slc_26 zer_35 rfl rfl rfl hO (by repeat (first | exact Pick.here | apply Pick.next)) hy (by repeat (first | exact Has.here | apply Has.next)) (one_ints _ _) (by simp only [maxLen, catL, List.length_nil]; omega) (by simp only [catL, List.length_nil]; omega) (fun v' H' hO2 _ => ?_)
        refine o_asg rfl ?_
        refine w_nil ?_
        refine w_inB ?_
        refine w_region rfl ?_
        refine o_add rfl rfl (by first | exact IntWalk.i64_in _ (by omega) | rfl) ?_
        refine o_mov rfl ?_
        refine w_nil ?_
        exact w_again ⟨(2, v', H'), ⟨by simp, OwnI.app (xs := xs) (ys := ys) hO2⟩, (by simp only; omega), (by repeat (first | exact Sub.nil _ | refine Sub.cons rfl ?_)), (Take.sub (by repeat (first | exact Take.nil | exact Take.all _ | (apply Take.cons; focus (repeat (first | exact Pick.here | apply Pick.next))))))⟩
    · simp only at hi2 hO hl2 ⊢
      obtain rfl : i = 2 := by omega
      refine w_exit rfl ?_
      refine w_seq ?_
      refine w_region rfl ?_
      refine o_mov rfl ?_
      refine o_asg rfl ?_
      refine w_nil ?_
      exact w_ret (ret1 rfl rfl) ⟨H, hO, rfl⟩ (Take.sub (by repeat (first | exact Take.nil | exact Take.all _ | (apply Take.cons; focus (repeat (first | exact Pick.here | apply Pick.next))))))

theorem bits_Mul64_10  : Ctr Try.prog 97 [.int .u64 1, .int .u64 10] ([]) (fun v ho => v = .tuple #[.int .u64 0, .int .u64 10] ∧ ho = []) := by
  refine spec_of Try.func97 rfl rfl fun w0 L => ?_
  refine w_seq ?_
  refine w_region rfl ?_
  refine o_asg rfl ?_
  refine o_asg rfl ?_
  refine w_nil ?_
  refine w_seq ?_
  refine w_region rfl ?_
  refine o_mov rfl ?_
  refine o_and rfl rfl rfl ?_
  refine o_asg rfl ?_
  refine w_nil ?_
  refine w_seq ?_
  refine w_region rfl ?_
  refine o_mov rfl ?_
  refine o_shr rfl rfl (by decide) (shr_k _ _ _ 4294967296 rfl (by decide)) ?_
  refine o_asg rfl ?_
  refine w_nil ?_
  refine w_seq ?_
  refine w_region rfl ?_
  refine o_mov rfl ?_
  refine o_and rfl rfl rfl ?_
  refine o_asg rfl ?_
  refine w_nil ?_
  refine w_seq ?_
  refine w_region rfl ?_
  refine o_mov rfl ?_
  refine o_shr rfl rfl (by decide) (shr_k _ _ _ 4294967296 rfl (by decide)) ?_
  refine o_asg rfl ?_
  refine w_nil ?_
  refine w_seq ?_
  refine w_region rfl ?_
  refine o_mov rfl ?_
  refine o_mov rfl ?_
  refine o_mul rfl rfl (by first | exact IntWalk.u64_in _ (by omega) | rfl) ?_
  refine o_asg rfl ?_
  refine w_nil ?_
  refine w_seq ?_
  refine w_region rfl ?_
  refine o_mov rfl ?_
  refine o_mov rfl ?_
  refine o_mul rfl rfl (by first | exact IntWalk.u64_in _ (by omega) | rfl) ?_
  refine o_mov rfl ?_
  refine o_shr rfl rfl (by decide) (shr_k _ _ _ 4294967296 rfl (by decide)) ?_
  refine o_add rfl rfl (by first | exact IntWalk.u64_in _ (by omega) | rfl) ?_
  refine o_asg rfl ?_
  refine w_nil ?_
  refine w_seq ?_
  refine w_region rfl ?_
  refine o_mov rfl ?_
  refine o_and rfl rfl rfl ?_
  refine o_asg rfl ?_
  refine w_nil ?_
  refine w_seq ?_
  refine w_region rfl ?_
  refine o_mov rfl ?_
  refine o_shr rfl rfl (by decide) (shr_k _ _ _ 4294967296 rfl (by decide)) ?_
  refine o_asg rfl ?_
  refine w_nil ?_
  refine w_seq ?_
  refine w_region rfl ?_
  refine o_mov rfl ?_
  refine o_mov rfl ?_
  refine o_mov rfl ?_
  refine o_mul rfl rfl (by first | exact IntWalk.u64_in _ (by omega) | rfl) ?_
  refine o_add rfl rfl (by first | exact IntWalk.u64_in _ (by omega) | rfl) ?_
  refine o_asg rfl ?_
  refine w_nil ?_
  refine w_seq ?_
  refine w_region rfl ?_
  refine o_mov rfl ?_
  refine o_mov rfl ?_
  refine o_mul rfl rfl (by first | exact IntWalk.u64_in _ (by omega) | rfl) ?_
  refine o_mov rfl ?_
  refine o_add rfl rfl (by first | exact IntWalk.u64_in _ (by omega) | rfl) ?_
  refine o_mov rfl ?_
  refine o_shr rfl rfl (by decide) (shr_k _ _ _ 4294967296 rfl (by decide)) ?_
  refine o_add rfl rfl (by first | exact IntWalk.u64_in _ (by omega) | rfl) ?_
  refine o_asg rfl ?_
  refine w_nil ?_
  refine w_seq ?_
  refine w_region rfl ?_
  refine o_mov rfl ?_
  refine o_mov rfl ?_
  refine o_mul rfl rfl (by first | exact IntWalk.u64_in _ (by omega) | rfl) ?_
  refine o_asg rfl ?_
  refine w_nil ?_
  exact w_ret (ret2 rfl rfl rfl) ⟨rfl, rfl⟩ (HSub.refl _)

theorem bits_Mul_10  : Ctr Try.prog 87 [.int .u64 1, .int .u64 10] ([]) (fun v ho => v = .tuple #[.int .u64 0, .int .u64 10] ∧ ho = []) := by
  refine spec_of Try.func87 rfl rfl fun w0 L => ?_
  refine w_seq ?_
  refine w_region rfl ?_
  refine o_asg rfl ?_
  refine o_asg rfl ?_
  refine w_nil ?_
  refine w_seq ?_
  refine w_if_f rfl ?_
  refine w_skip ?_
  refine w_seq ?_
  refine w_region rfl ?_
  refine o_mov rfl ?_
  refine o_mov rfl ?_
  refine o_call (bits_Mul64_10) fn_97 rfl (by repeat (first | exact Take.nil | exact Take.all _ | (apply Take.cons; focus (repeat (first | exact Pick.here | apply Pick.next))))) ?_
  rintro v ho ⟨rfl, rfl⟩
  refine o_mov rfl ?_
  refine o_ext rfl rfl ?_
  refine o_ext rfl rfl ?_
  refine o_asg rfl ?_
  refine o_asg rfl ?_
  refine w_nil ?_
  refine w_seq ?_
  refine w_region rfl ?_
  refine o_mov rfl ?_
  refine o_mov rfl ?_
  refine o_asg rfl ?_
  refine o_asg rfl ?_
  refine w_nil ?_
  exact w_ret (ret2 rfl rfl rfl) ⟨rfl, rfl⟩ (HSub.refl _)

theorem bits_Mul64_15  : Ctr Try.prog 97 [.int .u64 1, .int .u64 15] ([]) (fun v ho => v = .tuple #[.int .u64 0, .int .u64 15] ∧ ho = []) := by
  refine spec_of Try.func97 rfl rfl fun w0 L => ?_
  refine w_seq ?_
  refine w_region rfl ?_
  refine o_asg rfl ?_
  refine o_asg rfl ?_
  refine w_nil ?_
  refine w_seq ?_
  refine w_region rfl ?_
  refine o_mov rfl ?_
  refine o_and rfl rfl rfl ?_
  refine o_asg rfl ?_
  refine w_nil ?_
  refine w_seq ?_
  refine w_region rfl ?_
  refine o_mov rfl ?_
  refine o_shr rfl rfl (by decide) (shr_k _ _ _ 4294967296 rfl (by decide)) ?_
  refine o_asg rfl ?_
  refine w_nil ?_
  refine w_seq ?_
  refine w_region rfl ?_
  refine o_mov rfl ?_
  refine o_and rfl rfl rfl ?_
  refine o_asg rfl ?_
  refine w_nil ?_
  refine w_seq ?_
  refine w_region rfl ?_
  refine o_mov rfl ?_
  refine o_shr rfl rfl (by decide) (shr_k _ _ _ 4294967296 rfl (by decide)) ?_
  refine o_asg rfl ?_
  refine w_nil ?_
  refine w_seq ?_
  refine w_region rfl ?_
  refine o_mov rfl ?_
  refine o_mov rfl ?_
  refine o_mul rfl rfl (by first | exact IntWalk.u64_in _ (by omega) | rfl) ?_
  refine o_asg rfl ?_
  refine w_nil ?_
  refine w_seq ?_
  refine w_region rfl ?_
  refine o_mov rfl ?_
  refine o_mov rfl ?_
  refine o_mul rfl rfl (by first | exact IntWalk.u64_in _ (by omega) | rfl) ?_
  refine o_mov rfl ?_
  refine o_shr rfl rfl (by decide) (shr_k _ _ _ 4294967296 rfl (by decide)) ?_
  refine o_add rfl rfl (by first | exact IntWalk.u64_in _ (by omega) | rfl) ?_
  refine o_asg rfl ?_
  refine w_nil ?_
  refine w_seq ?_
  refine w_region rfl ?_
  refine o_mov rfl ?_
  refine o_and rfl rfl rfl ?_
  refine o_asg rfl ?_
  refine w_nil ?_
  refine w_seq ?_
  refine w_region rfl ?_
  refine o_mov rfl ?_
  refine o_shr rfl rfl (by decide) (shr_k _ _ _ 4294967296 rfl (by decide)) ?_
  refine o_asg rfl ?_
  refine w_nil ?_
  refine w_seq ?_
  refine w_region rfl ?_
  refine o_mov rfl ?_
  refine o_mov rfl ?_
  refine o_mov rfl ?_
  refine o_mul rfl rfl (by first | exact IntWalk.u64_in _ (by omega) | rfl) ?_
  refine o_add rfl rfl (by first | exact IntWalk.u64_in _ (by omega) | rfl) ?_
  refine o_asg rfl ?_
  refine w_nil ?_
  refine w_seq ?_
  refine w_region rfl ?_
  refine o_mov rfl ?_
  refine o_mov rfl ?_
  refine o_mul rfl rfl (by first | exact IntWalk.u64_in _ (by omega) | rfl) ?_
  refine o_mov rfl ?_
  refine o_add rfl rfl (by first | exact IntWalk.u64_in _ (by omega) | rfl) ?_
  refine o_mov rfl ?_
  refine o_shr rfl rfl (by decide) (shr_k _ _ _ 4294967296 rfl (by decide)) ?_
  refine o_add rfl rfl (by first | exact IntWalk.u64_in _ (by omega) | rfl) ?_
  refine o_asg rfl ?_
  refine w_nil ?_
  refine w_seq ?_
  refine w_region rfl ?_
  refine o_mov rfl ?_
  refine o_mov rfl ?_
  refine o_mul rfl rfl (by first | exact IntWalk.u64_in _ (by omega) | rfl) ?_
  refine o_asg rfl ?_
  refine w_nil ?_
  exact w_ret (ret2 rfl rfl rfl) ⟨rfl, rfl⟩ (HSub.refl _)

theorem bits_Mul_15  : Ctr Try.prog 87 [.int .u64 1, .int .u64 15] ([]) (fun v ho => v = .tuple #[.int .u64 0, .int .u64 15] ∧ ho = []) := by
  refine spec_of Try.func87 rfl rfl fun w0 L => ?_
  refine w_seq ?_
  refine w_region rfl ?_
  refine o_asg rfl ?_
  refine o_asg rfl ?_
  refine w_nil ?_
  refine w_seq ?_
  refine w_if_f rfl ?_
  refine w_skip ?_
  refine w_seq ?_
  refine w_region rfl ?_
  refine o_mov rfl ?_
  refine o_mov rfl ?_
  refine o_call (bits_Mul64_15) fn_97 rfl (by repeat (first | exact Take.nil | exact Take.all _ | (apply Take.cons; focus (repeat (first | exact Pick.here | apply Pick.next))))) ?_
  rintro v ho ⟨rfl, rfl⟩
  refine o_mov rfl ?_
  refine o_ext rfl rfl ?_
  refine o_ext rfl rfl ?_
  refine o_asg rfl ?_
  refine o_asg rfl ?_
  refine w_nil ?_
  refine w_seq ?_
  refine w_region rfl ?_
  refine o_mov rfl ?_
  refine o_mov rfl ?_
  refine o_asg rfl ?_
  refine o_asg rfl ?_
  refine w_nil ?_
  exact w_ret (ret2 rfl rfl rfl) ⟨rfl, rfl⟩ (HSub.refl _)

theorem bits_Mul64_20  : Ctr Try.prog 97 [.int .u64 1, .int .u64 20] ([]) (fun v ho => v = .tuple #[.int .u64 0, .int .u64 20] ∧ ho = []) := by
  refine spec_of Try.func97 rfl rfl fun w0 L => ?_
  refine w_seq ?_
  refine w_region rfl ?_
  refine o_asg rfl ?_
  refine o_asg rfl ?_
  refine w_nil ?_
  refine w_seq ?_
  refine w_region rfl ?_
  refine o_mov rfl ?_
  refine o_and rfl rfl rfl ?_
  refine o_asg rfl ?_
  refine w_nil ?_
  refine w_seq ?_
  refine w_region rfl ?_
  refine o_mov rfl ?_
  refine o_shr rfl rfl (by decide) (shr_k _ _ _ 4294967296 rfl (by decide)) ?_
  refine o_asg rfl ?_
  refine w_nil ?_
  refine w_seq ?_
  refine w_region rfl ?_
  refine o_mov rfl ?_
  refine o_and rfl rfl rfl ?_
  refine o_asg rfl ?_
  refine w_nil ?_
  refine w_seq ?_
  refine w_region rfl ?_
  refine o_mov rfl ?_
  refine o_shr rfl rfl (by decide) (shr_k _ _ _ 4294967296 rfl (by decide)) ?_
  refine o_asg rfl ?_
  refine w_nil ?_
  refine w_seq ?_
  refine w_region rfl ?_
  refine o_mov rfl ?_
  refine o_mov rfl ?_
  refine o_mul rfl rfl (by first | exact IntWalk.u64_in _ (by omega) | rfl) ?_
  refine o_asg rfl ?_
  refine w_nil ?_
  refine w_seq ?_
  refine w_region rfl ?_
  refine o_mov rfl ?_
  refine o_mov rfl ?_
  refine o_mul rfl rfl (by first | exact IntWalk.u64_in _ (by omega) | rfl) ?_
  refine o_mov rfl ?_
  refine o_shr rfl rfl (by decide) (shr_k _ _ _ 4294967296 rfl (by decide)) ?_
  refine o_add rfl rfl (by first | exact IntWalk.u64_in _ (by omega) | rfl) ?_
  refine o_asg rfl ?_
  refine w_nil ?_
  refine w_seq ?_
  refine w_region rfl ?_
  refine o_mov rfl ?_
  refine o_and rfl rfl rfl ?_
  refine o_asg rfl ?_
  refine w_nil ?_
  refine w_seq ?_
  refine w_region rfl ?_
  refine o_mov rfl ?_
  refine o_shr rfl rfl (by decide) (shr_k _ _ _ 4294967296 rfl (by decide)) ?_
  refine o_asg rfl ?_
  refine w_nil ?_
  refine w_seq ?_
  refine w_region rfl ?_
  refine o_mov rfl ?_
  refine o_mov rfl ?_
  refine o_mov rfl ?_
  refine o_mul rfl rfl (by first | exact IntWalk.u64_in _ (by omega) | rfl) ?_
  refine o_add rfl rfl (by first | exact IntWalk.u64_in _ (by omega) | rfl) ?_
  refine o_asg rfl ?_
  refine w_nil ?_
  refine w_seq ?_
  refine w_region rfl ?_
  refine o_mov rfl ?_
  refine o_mov rfl ?_
  refine o_mul rfl rfl (by first | exact IntWalk.u64_in _ (by omega) | rfl) ?_
  refine o_mov rfl ?_
  refine o_add rfl rfl (by first | exact IntWalk.u64_in _ (by omega) | rfl) ?_
  refine o_mov rfl ?_
  refine o_shr rfl rfl (by decide) (shr_k _ _ _ 4294967296 rfl (by decide)) ?_
  refine o_add rfl rfl (by first | exact IntWalk.u64_in _ (by omega) | rfl) ?_
  refine o_asg rfl ?_
  refine w_nil ?_
  refine w_seq ?_
  refine w_region rfl ?_
  refine o_mov rfl ?_
  refine o_mov rfl ?_
  refine o_mul rfl rfl (by first | exact IntWalk.u64_in _ (by omega) | rfl) ?_
  refine o_asg rfl ?_
  refine w_nil ?_
  exact w_ret (ret2 rfl rfl rfl) ⟨rfl, rfl⟩ (HSub.refl _)

theorem bits_Mul_20  : Ctr Try.prog 87 [.int .u64 1, .int .u64 20] ([]) (fun v ho => v = .tuple #[.int .u64 0, .int .u64 20] ∧ ho = []) := by
  refine spec_of Try.func87 rfl rfl fun w0 L => ?_
  refine w_seq ?_
  refine w_region rfl ?_
  refine o_asg rfl ?_
  refine o_asg rfl ?_
  refine w_nil ?_
  refine w_seq ?_
  refine w_if_f rfl ?_
  refine w_skip ?_
  refine w_seq ?_
  refine w_region rfl ?_
  refine o_mov rfl ?_
  refine o_mov rfl ?_
  refine o_call (bits_Mul64_20) fn_97 rfl (by repeat (first | exact Take.nil | exact Take.all _ | (apply Take.cons; focus (repeat (first | exact Pick.here | apply Pick.next))))) ?_
  rintro v ho ⟨rfl, rfl⟩
  refine o_mov rfl ?_
  refine o_ext rfl rfl ?_
  refine o_ext rfl rfl ?_
  refine o_asg rfl ?_
  refine o_asg rfl ?_
  refine w_nil ?_
  refine w_seq ?_
  refine w_region rfl ?_
  refine o_mov rfl ?_
  refine o_mov rfl ?_
  refine o_asg rfl ?_
  refine o_asg rfl ?_
  refine w_nil ?_
  exact w_ret (ret2 rfl rfl rfl) ⟨rfl, rfl⟩ (HSub.refl _)

theorem bits_Mul64_30  : Ctr Try.prog 97 [.int .u64 1, .int .u64 30] ([]) (fun v ho => v = .tuple #[.int .u64 0, .int .u64 30] ∧ ho = []) := by
  refine spec_of Try.func97 rfl rfl fun w0 L => ?_
  refine w_seq ?_
  refine w_region rfl ?_
  refine o_asg rfl ?_
  refine o_asg rfl ?_
  refine w_nil ?_
  refine w_seq ?_
  refine w_region rfl ?_
  refine o_mov rfl ?_
  refine o_and rfl rfl rfl ?_
  refine o_asg rfl ?_
  refine w_nil ?_
  refine w_seq ?_
  refine w_region rfl ?_
  refine o_mov rfl ?_
  refine o_shr rfl rfl (by decide) (shr_k _ _ _ 4294967296 rfl (by decide)) ?_
  refine o_asg rfl ?_
  refine w_nil ?_
  refine w_seq ?_
  refine w_region rfl ?_
  refine o_mov rfl ?_
  refine o_and rfl rfl rfl ?_
  refine o_asg rfl ?_
  refine w_nil ?_
  refine w_seq ?_
  refine w_region rfl ?_
  refine o_mov rfl ?_
  refine o_shr rfl rfl (by decide) (shr_k _ _ _ 4294967296 rfl (by decide)) ?_
  refine o_asg rfl ?_
  refine w_nil ?_
  refine w_seq ?_
  refine w_region rfl ?_
  refine o_mov rfl ?_
  refine o_mov rfl ?_
  refine o_mul rfl rfl (by first | exact IntWalk.u64_in _ (by omega) | rfl) ?_
  refine o_asg rfl ?_
  refine w_nil ?_
  refine w_seq ?_
  refine w_region rfl ?_
  refine o_mov rfl ?_
  refine o_mov rfl ?_
  refine o_mul rfl rfl (by first | exact IntWalk.u64_in _ (by omega) | rfl) ?_
  refine o_mov rfl ?_
  refine o_shr rfl rfl (by decide) (shr_k _ _ _ 4294967296 rfl (by decide)) ?_
  refine o_add rfl rfl (by first | exact IntWalk.u64_in _ (by omega) | rfl) ?_
  refine o_asg rfl ?_
  refine w_nil ?_
  refine w_seq ?_
  refine w_region rfl ?_
  refine o_mov rfl ?_
  refine o_and rfl rfl rfl ?_
  refine o_asg rfl ?_
  refine w_nil ?_
  refine w_seq ?_
  refine w_region rfl ?_
  refine o_mov rfl ?_
  refine o_shr rfl rfl (by decide) (shr_k _ _ _ 4294967296 rfl (by decide)) ?_
  refine o_asg rfl ?_
  refine w_nil ?_
  refine w_seq ?_
  refine w_region rfl ?_
  refine o_mov rfl ?_
  refine o_mov rfl ?_
  refine o_mov rfl ?_
  refine o_mul rfl rfl (by first | exact IntWalk.u64_in _ (by omega) | rfl) ?_
  refine o_add rfl rfl (by first | exact IntWalk.u64_in _ (by omega) | rfl) ?_
  refine o_asg rfl ?_
  refine w_nil ?_
  refine w_seq ?_
  refine w_region rfl ?_
  refine o_mov rfl ?_
  refine o_mov rfl ?_
  refine o_mul rfl rfl (by first | exact IntWalk.u64_in _ (by omega) | rfl) ?_
  refine o_mov rfl ?_
  refine o_add rfl rfl (by first | exact IntWalk.u64_in _ (by omega) | rfl) ?_
  refine o_mov rfl ?_
  refine o_shr rfl rfl (by decide) (shr_k _ _ _ 4294967296 rfl (by decide)) ?_
  refine o_add rfl rfl (by first | exact IntWalk.u64_in _ (by omega) | rfl) ?_
  refine o_asg rfl ?_
  refine w_nil ?_
  refine w_seq ?_
  refine w_region rfl ?_
  refine o_mov rfl ?_
  refine o_mov rfl ?_
  refine o_mul rfl rfl (by first | exact IntWalk.u64_in _ (by omega) | rfl) ?_
  refine o_asg rfl ?_
  refine w_nil ?_
  exact w_ret (ret2 rfl rfl rfl) ⟨rfl, rfl⟩ (HSub.refl _)

theorem bits_Mul_30  : Ctr Try.prog 87 [.int .u64 1, .int .u64 30] ([]) (fun v ho => v = .tuple #[.int .u64 0, .int .u64 30] ∧ ho = []) := by
  refine spec_of Try.func87 rfl rfl fun w0 L => ?_
  refine w_seq ?_
  refine w_region rfl ?_
  refine o_asg rfl ?_
  refine o_asg rfl ?_
  refine w_nil ?_
  refine w_seq ?_
  refine w_if_f rfl ?_
  refine w_skip ?_
  refine w_seq ?_
  refine w_region rfl ?_
  refine o_mov rfl ?_
  refine o_mov rfl ?_
  refine o_call (bits_Mul64_30) fn_97 rfl (by repeat (first | exact Take.nil | exact Take.all _ | (apply Take.cons; focus (repeat (first | exact Pick.here | apply Pick.next))))) ?_
  rintro v ho ⟨rfl, rfl⟩
  refine o_mov rfl ?_
  refine o_ext rfl rfl ?_
  refine o_ext rfl rfl ?_
  refine o_asg rfl ?_
  refine o_asg rfl ?_
  refine w_nil ?_
  refine w_seq ?_
  refine w_region rfl ?_
  refine o_mov rfl ?_
  refine o_mov rfl ?_
  refine o_asg rfl ?_
  refine o_asg rfl ?_
  refine w_nil ?_
  exact w_ret (ret2 rfl rfl rfl) ⟨rfl, rfl⟩ (HSub.refl _)

theorem bits_Mul {c : Nat} (hc : c = 10 ∨ c = 15 ∨ c = 20 ∨ c = 30) : Ctr Try.prog 87 [.int .u64 1, .int .u64 c] [] (fun v ho => v = .tuple #[.int .u64 0, .int .u64 c] ∧ ho = []) := by
  rcases hc with rfl | rfl | rfl | rfl
  · exact bits_Mul_10
  · exact bits_Mul_15
  · exact bits_Mul_20
  · exact bits_Mul_30
/-- A repeated number on its way: as many are there, then 0. -/
def repS (a : Int) (c k : Nat) : List Int := List.replicate k a ++ List.replicate (c - k) 0
theorem repS_len {a : Int} {c k : Nat} (h : k ≤ c) : (repS a c k).length = c := by unfold repS; rw [List.length_append, List.length_replicate, List.length_replicate]; omega
theorem repS_first {a : Int} {c : Nat} (h : 1 ≤ c) : setN (ints .i16 (List.replicate c 0)) 0 (([a].map (Value.int .i16)).take (min [a].length c)) = ints .i16 (repS a c 1) := by
  rw [show min [a].length c = 1 by simp; omega, setN_eq _ _ _ (by rw [ints_size]; simp; omega)]
  apply Array.ext'
  unfold repS
  simp [ints, List.map_append, List.drop_replicate]
theorem repS_grow {a : Int} {c k : Nat} (h : k ≤ c) : setN (ints .i16 (repS a c k)) k (((List.replicate k a).map (Value.int .i16)).take (min k (c - k))) = ints .i16 (repS a c (k + min k (c - k))) := by
  rw [setN_eq _ _ _ (by rw [ints_size, repS_len h]; simp; omega)]
  apply Array.ext'
  unfold repS
  simp only [ints, List.map_append, List.map_replicate, List.take_replicate, List.length_replicate]
  rw [List.take_append_of_le_length (by simp), List.take_of_length_le (by simp), List.drop_append, List.drop_of_length_le (by simp), List.nil_append, List.length_replicate, List.drop_replicate, List.replicate_append_replicate, show min (min k (c - k)) k = min k (c - k) by omega, show c - k - (k + min k (c - k) - k) = c - (k + min k (c - k)) by omega]

theorem repeat_i16 {v : Value} {a : Int} {c : Nat} {A : Hp} (hx : Ints A v .i16 [a]) (hc : c = 10 ∨ c = 15 ∨ c = 20 ∨ c = 30) : Ctr Try.prog 66 [v, .int .i64 c] ([A]) (fun v ho => ∃ H, OwnI H v 35 .i16 (List.replicate c a) ∧ ho = [H, A]) := by
  refine spec_of Try.func66 rfl rfl fun w0 L => ?_
  refine w_seq ?_
  refine w_region rfl ?_
  refine o_asg rfl ?_
  refine w_nil ?_
  refine w_seq ?_
  refine w_seq ?_
  refine w_region rfl ?_
  refine o_mov rfl ?_
  refine o_lt rfl rfl ?_
  refine w_nil ?_
  refine w_if_d rfl (fun h0 => ?_) (fun h0 => ?_)
  · omega
  · refine w_skip ?_
    refine w_seq ?_
    refine w_region rfl ?_
    refine o_mov rfl ?_
    refine o_lenI hx slc_26 rfl ?_
    refine o_conv int_149 (by rw [Try.underlying3]; rfl) rfl (by first | exact IntWalk.u64_in _ (by omega) | rfl) ?_
    refine o_mov rfl ?_
    refine o_conv int_149 (by rw [Try.underlying3]; rfl) rfl (by first | exact IntWalk.u64_in _ (by omega) | rfl) ?_
    refine o_call (bits_Mul hc) fn_87 rfl (by repeat (first | exact Take.nil | exact Take.all _ | (apply Take.cons; focus (repeat (first | exact Pick.here | apply Pick.next))))) ?_
    rintro v ho ⟨rfl, rfl⟩
    refine o_mov rfl ?_
    refine o_ext rfl rfl ?_
    refine o_ext rfl rfl ?_
    refine o_asg rfl ?_
    refine o_asg rfl ?_
    refine w_nil ?_
    refine w_seq ?_
    refine w_seq ?_
    refine w_region rfl ?_
    refine o_mov rfl ?_
    refine o_gt_f rfl rfl (by omega) ?_
    refine o_mov rfl ?_
    refine o_yes rfl rfl ?_
    refine o_mov rfl ?_
    refine o_yes rfl rfl ?_
    refine o_gt_f rfl rfl (by omega) ?_
    refine o_pick_f rfl rfl ?_
    refine w_nil ?_
    refine w_if_f rfl ?_
    refine w_skip ?_
    refine w_seq ?_
    refine w_region rfl ?_
    refine o_mov rfl ?_
    refine o_conv int_3 (by rw [Try.underlying149]; rfl) rfl (by first | exact IntWalk.i64_in _ (by omega) | rfl) ?_
    refine o_mks slc_26 zer_35 rfl rfl (by omega) (by omega) (by omega) (by omega) (fun b2 => ?_)
    rw [Int.toNat_natCast, show madeCells _ (c * 1) = ints .i16 (List.replicate c 0) from by rw [Nat.mul_one]; exact ints_made _ _]
    refine o_asg rfl ?_
    refine w_nil ?_
    refine w_seq ?_
    refine w_region rfl ?_
    refine o_mov rfl ?_
    refine o_mov rfl ?_
    refine o_copy slc_26 rfl rfl hx (by repeat (first | exact Has.here | apply Has.next)) (one_ints _ _) (by repeat (first | exact Upd.here | apply Upd.next)) (by rw [ints_size]; simp; omega) ?_
    rw [repS_first (by omega), show min [a].length c = 1 by simp; omega]
    refine o_asg rfl ?_
    refine w_nil ?_
    refine w_seq ?_
    refine w_block ?_
    refine w_loop (X := Nat) (fun k => [(7, .slice (some ⟨b2, 0, none⟩) c c), (8, .int .i64 k)]) (fun k => [[(b2, .cells (ints .i16 (repS a c k)) 35 (0, 0))], A]) (fun k => 1 ≤ k ∧ k ≤ c) (fun k => c - k) 1 (by omega) (by repeat (first | exact Sub.nil _ | refine Sub.cons rfl ?_)) (Take.sub (by repeat (first | exact Take.nil | exact Take.all _ | (apply Take.cons; focus (repeat (first | exact Pick.here | apply Pick.next)))))) ?_
    rintro k ⟨hk1, hk⟩
    refine w_seq ?_
    refine w_seq ?_
    refine w_region rfl ?_
    refine o_mov rfl ?_
    refine o_mov rfl ?_
    refine o_len slc_26 rfl ?_
    refine o_lt rfl rfl ?_
    refine w_nil ?_
    refine w_if_d rfl (fun hl => ?_) (fun hl => ?_)
    · have hsl := repS_len (a := a) hk
      have hrd : Rd [(b2, .cells (ints .i16 (repS a c k)) 35 (0, 0))] (.slice (some ⟨b2, 0, none⟩) k c) 1 k ((List.replicate k a).map (Value.int .i16)) := ⟨by simp, by omega, _, _, rfl, hk, fun _ => ⟨b2, 0, _, _, _, rfl, List.mem_cons_self .., fun j u hj => by
      simp only [List.getElem?_map, List.getElem?_replicate] at hj
      split at hj
      · rename_i hjk
        simp [ints, repS, List.getElem?_append, hjk, List.getElem?_replicate] at hj ⊢
        exact hj
      · cases hj⟩⟩
      refine w_skip ?_
      refine w_block ?_
      refine w_line [(0, true), (1, true), (2, true), (3, true), (4, true), (5, true), (6, true), (7, false), (8, true), (9, true)] mixed (by kernel_rfl) ?_
      refine o_mov rfl ?_
      refine o_mov rfl ?_
      refine o_mov rfl ?_
      refine o_slS2 (o' := k) (l' := c - k) (c' := c - k) (i := (k : Int)) (j := (c : Int)) slc_26 rfl ⟨_, rfl⟩ rfl ⟨by omega, by omega, by omega⟩ ⟨by omega, by omega⟩ (by omega) (by omega) ?_
      refine o_mov rfl ?_
      refine o_mov rfl ?_
      refine o_slS2 (o' := 0) (l' := k) (c' := c) (i := 0) (j := (k : Int)) slc_26 rfl rfl ⟨_, rfl⟩ ⟨by omega, by omega, by omega⟩ ⟨by omega, by omega⟩ (by omega) (by omega) ?_
      refine o_copy slc_26 rfl rfl hrd (by repeat (first | exact Has.here | apply Has.next)) (one_ints _ _) (by repeat (first | exact Upd.here | apply Upd.next)) (by rw [ints_size, hsl]; omega) ?_
      rw [repS_grow hk]
      refine o_add rfl rfl (by first | exact IntWalk.i64_in _ (by omega) | rfl) ?_
      refine o_asg rfl ?_
      refine w_nil ?_
      refine w_inB ?_
      exact w_again ⟨(k + min k (c - k)), (by omega), (by omega), (by repeat (first | exact Sub.nil _ | refine Sub.cons rfl ?_)), (Take.sub (by repeat (first | exact Take.nil | exact Take.all _ | (apply Take.cons; focus (repeat (first | exact Pick.here | apply Pick.next))))))⟩
    · obtain rfl : c = k := by omega
      have hO : OwnI [(b2, .cells (ints .i16 (List.replicate c a)) 35 (0, 0))] (.slice (some ⟨b2, 0, none⟩) c c) 35 .i16 (List.replicate c a) := by have := OwnI.mk_ (b := b2) (el := 35) (k := .i16) (xs := List.replicate c a) (by simp [maxLen]; omega); rwa [List.length_replicate] at this
      rw [show repS a c c = List.replicate c a by simp [repS]]
      refine w_exit rfl ?_
      refine w_seq ?_
      refine w_region rfl ?_
      refine o_mov rfl ?_
      refine o_asg rfl ?_
      refine w_nil ?_
      exact w_ret (ret1 rfl rfl) ⟨_, hO, rfl⟩ (Take.sub (by repeat (first | exact Take.nil | exact Take.all _ | (apply Take.cons; focus (repeat (first | exact Pick.here | apply Pick.next))))))

theorem reverse_i16 {v : Value} {xs : List Int} {H : Hp} (hx : OwnI H v 35 .i16 xs) (hp : 0 < xs.length) : Ctr Try.prog 68 [v] ([H]) (fun w ho => w = .tuple #[] ∧ ∃ H', OwnI H' v 35 .i16 xs.reverse ∧ ho = [H']) := by
  have hmx := hx.ints.2.1
  obtain ⟨b, cap, cur, rfl, rfl, -, -⟩ := hx.blk hp
  refine spec_of Try.func68 rfl rfl fun w0 L => ?_
  refine w_seq ?_
  refine w_region rfl ?_
  refine o_mov rfl ?_
  refine o_len slc_26 rfl ?_
  refine o_sub rfl rfl (by first | exact IntWalk.i64_in _ (by omega) | rfl) ?_
  refine o_asg rfl ?_
  rw [show ((xs.length : Int) - 1) = (xs.length : Int) - 1 - ((0 : Nat) : Int) by omega]
  refine o_asg rfl ?_
  refine w_nil ?_
  refine w_block ?_
  refine w_loop (X := Nat × Array Value) (fun x => [(0, .slice (some ⟨b, 0, none⟩) xs.length cap), (2, .int .i64 x.1), (3, .int .i64 ((xs.length : Int) - 1 - x.1))]) (fun x => [[(b, .cells x.2 35 (0, 0))]]) (fun x => x.1 ≤ xs.length ∧ OwnI [(b, .cells x.2 35 (0, 0))] (.slice (some ⟨b, 0, none⟩) xs.length cap) 35 .i16 (revS xs x.1)) (fun x => xs.length - x.1) (0, cur) ⟨by simp, by rw [revS_0]; exact hx⟩ (by repeat (first | exact Sub.nil _ | refine Sub.cons rfl ?_)) (Take.sub (by repeat (first | exact Take.nil | exact Take.all _ | (apply Take.cons; focus (repeat (first | exact Pick.here | apply Pick.next)))))) ?_
  rintro ⟨i, cu⟩ ⟨hi, hO⟩
  refine w_seq ?_
  refine w_seq ?_
  refine w_region rfl ?_
  refine o_mov rfl ?_
  refine o_mov rfl ?_
  refine o_lt rfl rfl ?_
  refine w_nil ?_
  refine w_if_d rfl (fun hl => ?_) (fun hl => ?_)
  · simp only at hi hO hl ⊢
    have hrl := revS_len xs i
    refine w_skip ?_
    refine w_seq ?_
    refine w_block ?_
    refine w_line [(0, true), (1, true), (2, true), (3, true), (4, true), (5, true), (6, true), (7, true), (8, true), (9, true), (10, true), (11, true), (12, true), (13, false), (14, true), (15, false)] mixed (by kernel_rfl) ?_
    refine o_mov rfl ?_
    refine o_mov rfl ?_
    refine o_mov rfl ?_
    refine o_mov rfl ?_
    refine o_mov rfl ?_
    refine o_mov rfl ?_
    refine o_idx slc_26 (off := xs.length - 1 - i) rfl rfl ⟨by omega, by omega⟩ (by omega) ?_
    refine o_load lod_35 rfl (by repeat (first | exact At.here | (refine At.inA ?_; assumption) | apply At.next)) (OwnI.get1 hO (by omega)) ?_
    refine o_mov rfl ?_
    refine o_mov rfl ?_
    refine o_idx slc_26 (off := i) rfl rfl ⟨by omega, by omega⟩ (by omega) ?_
    refine o_load lod_35 rfl (by repeat (first | exact At.here | (refine At.inA ?_; assumption) | apply At.next)) (OwnI.get1 hO (by omega)) ?_
    refine o_idx slc_26 (off := i) rfl rfl ⟨by omega, by omega⟩ (by omega) ?_
    refine o_store siz_35 rfl rfl rfl (by repeat (first | exact Upd.here | apply Upd.next)) (OwnI.get1 hO (by omega)) (by simp) ?_
    refine o_idx slc_26 (off := xs.length - 1 - i) rfl rfl ⟨by omega, by omega⟩ (by omega) ?_
    refine o_store siz_35 rfl rfl rfl (by repeat (first | exact Upd.here | apply Upd.next)) (OwnI.get1 (OwnI.set1 hO _ i) (by rw [List.length_set]; omega)) (by simp) ?_
    refine w_nil ?_
    refine w_inB ?_
    refine w_region rfl ?_
    refine o_mov rfl ?_
    refine o_add rfl rfl (by first | exact IntWalk.i64_in _ (by omega) | rfl) ?_
    refine o_mov rfl ?_
    refine o_sub rfl rfl (by first | exact IntWalk.i64_in _ (by omega) | rfl) ?_
    refine o_asg rfl ?_
    rw [show ((xs.length : Int) - 1 - i - 1) = (xs.length : Int) - 1 - ((i + 1 : Nat) : Int) by omega]
    refine o_asg rfl ?_
    refine w_nil ?_
    exact w_again ⟨(i + 1, _), ⟨by simp only; omega, by rw [← revS_step (by omega)]; exact OwnI.set1 (OwnI.set1 hO ((revS xs i).getD (xs.length - 1 - i) 0) i) ((revS xs i).getD i 0) (xs.length - 1 - i)⟩, (by simp only; omega), (by repeat (first | exact Sub.nil _ | refine Sub.cons rfl ?_)), (Take.sub (by repeat (first | exact Take.nil | exact Take.all _ | (apply Take.cons; focus (repeat (first | exact Pick.here | apply Pick.next))))))⟩
  · simp only at hi hO hl ⊢
    rw [revS_end (by omega)] at hO
    refine w_exit rfl ?_
    exact w_end (ret0 rfl) ⟨rfl, _, hO, rfl⟩ (Take.sub (by repeat (first | exact Take.nil | exact Take.all _ | (apply Take.cons; focus (repeat (first | exact Pick.here | apply Pick.next))))))

end Go.Proofs.Ytjmnidcfgkdhcaa
