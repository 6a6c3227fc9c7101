/- Contracts of the layer bank: a table that is made, what is told: Turn, Slope, Filter, of any bank, of no bank. No condition but on the numbers' sizes. -/
import Derived.Test.YtjmnidcfgkdhcaaTy
import Derived.Test.YtjmnidcfgkdhcaaFb
namespace Go.Proofs.Ytjmnidcfgkdhcaa
open Go.Eng
set_option linter.unusedVariables false
set_option linter.unusedSimpArgs false
set_option maxRecDepth 20000
attribute [local irreducible] WL WT
theorem tell1 {b k : Nat} {ar : Array Value} {T T1 T2 T3 T4 : TypeId} {N : Nat} {xs : List Int} {g : FuncId} {cap : Array Value} {Hc : Hp} {made : Int} {c1 c2 c3 c4 : Nat} {u : Value} (hg : fnB Try.prog g = true) (hx : xs.length = N) (hN : N ≤ 100000) (h3 : ar[4 * k + 3]? = some u) (hm : ar[1552]? = some (.int .i64 made)) (hk : 4 * k + 3 < 1552) (hmade : 0 ≤ made ∧ made ≤ 1000000000) (num : ∀ i : Nat, i < N → Ctr Try.prog g (.int .i64 i :: cap.toList) [Hc] (fun v ho => v = .int .i16 (xs.getD i 0) ∧ ho = [Hc])) : Ctr Try.prog 90 [.pointer (some ⟨c1, 0, none⟩), .pointer (some ⟨c2, 0, none⟩), .pointer (some ⟨c3, 0, none⟩), .pointer (some ⟨c4, 0, none⟩)] ([[(b, .cells (ar) T (0, 0))], [(c1, .cells #[.int .i64 N] T1 (0, 0))], [(c2, .cells #[.pointer (some ⟨b, 4 * k, none⟩)] T2 (0, 0))], [(c3, .cells #[.func (.func g) #[] cap] T3 (0, 0))], [(c4, .cells #[.pointer (some ⟨b, 0, none⟩)] T4 (0, 0))], Hc]) (fun v ho => v = .tuple #[] ∧ ∃ bn, ho = [[(b, .cells (((ar.setIfInBounds (4 * k + 3) (.slice (some ⟨bn, 0, none⟩) N N)).setIfInBounds 1552 (.int .i64 (made + 1)))) T (0, 0))], [(bn, .cells (ints .i16 xs) 35 (0, 0))], [(c1, .cells #[.int .i64 N] T1 (0, 0))], [(c2, .cells #[.pointer (some ⟨b, 4 * k, none⟩)] T2 (0, 0))], [(c3, .cells #[.func (.func g) #[] cap] T3 (0, 0))], [(c4, .cells #[.pointer (some ⟨b, 0, none⟩)] T4 (0, 0))], Hc]) := by
  refine spec_of Try.func90 rfl rfl fun w0 L => ?_
  refine w_seq ?_
  refine w_line [(0, true), (1, true), (2, false), (3, true), (4, true), (5, false)] mixed (by kernel_rfl) ?_
  refine o_load lod_136 rfl (by repeat (first | exact At.here | (refine At.inA ?_; assumption) | apply At.next)) rfl ?_
  refine o_load lod_3 rfl (by repeat (first | exact At.here | (refine At.inA ?_; assumption) | apply At.next)) rfl ?_
  refine o_mks slc_26 zer_35 rfl rfl (by omega) (by omega) (by omega) (by omega) (fun b1 => ?_)
  rw [Int.toNat_natCast, show madeCells _ (N * 1) = ints .i16 (List.replicate N 0) from by rw [Nat.mul_one]; exact ints_made _ _]
  refine o_nilc rfl ?_
  refine o_fld fld_90_1 rfl rfl ?_
  refine o_store siz_26 rfl rfl rfl (by repeat (first | exact Upd.here | apply Upd.next)) h3 (by simp) ?_
  refine w_nil ?_
  refine w_seq ?_
  refine w_seq ?_
  refine w_region rfl ?_
  refine o_load lod_136 rfl (by repeat (first | exact At.here | (refine At.inA ?_; assumption) | apply At.next)) rfl ?_
  refine o_nilc rfl ?_
  refine o_fld fld_90_1 rfl rfl ?_
  refine o_load lod_26 rfl (by repeat (first | exact At.here | (refine At.inA ?_; assumption) | apply At.next)) (get_set h3 _) ?_
  refine o_len slc_26 rfl ?_
  refine o_mov rfl ?_
  refine w_nil ?_
  refine w_block ?_
  refine w_loop (X := Nat) (fun i => [(0, .pointer (some ⟨c1, 0, none⟩)), (1, .pointer (some ⟨c2, 0, none⟩)), (2, .pointer (some ⟨c3, 0, none⟩)), (3, .pointer (some ⟨c4, 0, none⟩)), (14, .int .i64 N), (15, .int .i64 i)]) (fun i => [[(b1, .cells (ints .i16 (xs.take i ++ List.replicate (N - i) 0)) 35 (0, 0))], [(b, .cells (ar.setIfInBounds (4 * k + 3) (.slice (some ⟨b1, 0, none⟩) N N)) T (0, 0))], [(c1, .cells #[.int .i64 N] T1 (0, 0))], [(c2, .cells #[.pointer (some ⟨b, 4 * k, none⟩)] T2 (0, 0))], [(c3, .cells #[.func (.func g) #[] cap] T3 (0, 0))], [(c4, .cells #[.pointer (some ⟨b, 0, none⟩)] T4 (0, 0))], Hc]) (fun i => i ≤ N) (fun i => N - i) 0 (by omega) (by repeat (first | exact Sub.nil _ | refine Sub.cons rfl ?_)) (Take.sub (by repeat (first | exact Take.nil | exact Take.all _ | (apply Take.cons; focus (repeat (first | exact Pick.here | apply Pick.next)))))) ?_
  intro i hi
  refine w_seq ?_
  refine w_region rfl ?_
  refine o_lt rfl rfl ?_
  refine w_nil ?_
  refine w_seq ?_
  refine w_if_d rfl (fun hl => ?_) (fun hl => ?_)
  · refine w_skip ?_
    refine w_seq ?_
    refine w_block ?_
    refine w_seq ?_
    refine w_region rfl ?_
    refine o_mov rfl ?_
    refine o_asg rfl ?_
    refine w_nil ?_
    refine w_cut_x (X := Unit) (fun _ => [(0, .pointer (some ⟨c1, 0, none⟩)), (1, .pointer (some ⟨c2, 0, none⟩)), (2, .pointer (some ⟨c3, 0, none⟩)), (3, .pointer (some ⟨c4, 0, none⟩)), (14, .int .i64 N), (15, .int .i64 i)]) (fun _ => [[(b1, .cells (ints .i16 ((xs.take i ++ List.replicate (N - i) 0).set i (xs.getD i 0))) 35 (0, 0))], [(b, .cells (ar.setIfInBounds (4 * k + 3) (.slice (some ⟨b1, 0, none⟩) N N)) T (0, 0))], [(c1, .cells #[.int .i64 N] T1 (0, 0))], [(c2, .cells #[.pointer (some ⟨b, 4 * k, none⟩)] T2 (0, 0))], [(c3, .cells #[.func (.func g) #[] cap] T3 (0, 0))], [(c4, .cells #[.pointer (some ⟨b, 0, none⟩)] T4 (0, 0))], Hc]) (fun _ => True) ?_ ?_
    · refine w_plan (takes [4, 5, 6] (.alt 0 (takes [1, 2] (.alt 3 (.alt 7 (takes [8] (.alt 9 .done .stop)) .stop) (.alt 7 (takes [3, 8] (.alt 9 .done .stop)) .stop))) (.alt 7 (takes [0, 1, 2, 3, 8] (.alt 9 .done .stop)) .stop))) mixed (by kernel_rfl) ?_
      refine wp_take _ _ ?_
      refine o_mov rfl ?_
      refine o_load lod_139 rfl (by repeat (first | exact At.here | (refine At.inA ?_; assumption) | apply At.next)) rfl ?_
      refine o_mov rfl ?_
      refine wl_nil ?_
      refine wp_alt ?_ ?_
      · refine o_load lod_136 rfl (by repeat (first | exact At.here | (refine At.inA ?_; assumption) | apply At.next)) rfl ?_
        refine wl_nil ?_
        refine wp_take _ _ ?_
        refine o_nilc rfl ?_
        refine o_fld fld_90_1 rfl rfl ?_
        refine wl_nil ?_
        refine wp_alt ?_ ?_
        · refine o_load lod_26 rfl (by repeat (first | exact At.here | (refine At.inA ?_; assumption) | apply At.next)) (get_set h3 _) ?_
          refine wl_nil ?_
          refine wp_alt ?_ ?_
          · refine o_callv (num i (by omega)) hg rfl rfl rfl (by repeat (first | exact Take.nil | exact Take.all _ | (apply Take.cons; focus (repeat (first | exact Pick.here | apply Pick.next))))) ?_
            rintro v ho ⟨rfl, rfl⟩
            refine wl_nil ?_
            refine wp_take _ _ ?_
            refine o_idx slc_26 (off := i) rfl rfl ⟨by omega, by omega⟩ (by simp) ?_
            refine wl_nil ?_
            refine wp_alt ?_ ?_
            · refine o_storeI siz_35 rfl rfl (by repeat (first | exact Upd.here | apply Upd.next)) (by simp; omega) ?_
              refine wl_nil ?_
              refine wp_done ?_
              exact w_again ⟨(), trivial, (by repeat (first | exact Sub.nil _ | refine Sub.cons rfl ?_)), (Take.sub (by repeat (first | exact Take.nil | exact Take.all _ | (apply Take.cons; focus (repeat (first | exact Pick.here | apply Pick.next))))))⟩
            exact wp_stop
          exact wp_stop
        refine wp_alt ?_ ?_
        · refine o_callv (num i (by omega)) hg rfl rfl rfl (by repeat (first | exact Take.nil | exact Take.all _ | (apply Take.cons; focus (repeat (first | exact Pick.here | apply Pick.next))))) ?_
          rintro v ho ⟨rfl, rfl⟩
          refine wl_nil ?_
          refine wp_take _ _ ?_
          refine o_load lod_26 rfl (by repeat (first | exact At.here | (refine At.inA ?_; assumption) | apply At.next)) (get_set h3 _) ?_
          refine o_idx slc_26 (off := i) rfl rfl ⟨by omega, by omega⟩ (by simp) ?_
          refine wl_nil ?_
          refine wp_alt ?_ ?_
          · refine o_storeI siz_35 rfl rfl (by repeat (first | exact Upd.here | apply Upd.next)) (by simp; omega) ?_
            refine wl_nil ?_
            refine wp_done ?_
            exact w_again ⟨(), trivial, (by repeat (first | exact Sub.nil _ | refine Sub.cons rfl ?_)), (Take.sub (by repeat (first | exact Take.nil | exact Take.all _ | (apply Take.cons; focus (repeat (first | exact Pick.here | apply Pick.next))))))⟩
          exact wp_stop
        exact wp_stop
      refine wp_alt ?_ ?_
      · refine o_callv (num i (by omega)) hg rfl rfl rfl (by repeat (first | exact Take.nil | exact Take.all _ | (apply Take.cons; focus (repeat (first | exact Pick.here | apply Pick.next))))) ?_
        rintro v ho ⟨rfl, rfl⟩
        refine wl_nil ?_
        refine wp_take _ _ ?_
        refine o_load lod_136 rfl (by repeat (first | exact At.here | (refine At.inA ?_; assumption) | apply At.next)) rfl ?_
        refine o_nilc rfl ?_
        refine o_fld fld_90_1 rfl rfl ?_
        refine o_load lod_26 rfl (by repeat (first | exact At.here | (refine At.inA ?_; assumption) | apply At.next)) (get_set h3 _) ?_
        refine o_idx slc_26 (off := i) rfl rfl ⟨by omega, by omega⟩ (by simp) ?_
        refine wl_nil ?_
        refine wp_alt ?_ ?_
        · refine o_storeI siz_35 rfl rfl (by repeat (first | exact Upd.here | apply Upd.next)) (by simp; omega) ?_
          refine wl_nil ?_
          refine wp_done ?_
          exact w_again ⟨(), trivial, (by repeat (first | exact Sub.nil _ | refine Sub.cons rfl ?_)), (Take.sub (by repeat (first | exact Take.nil | exact Take.all _ | (apply Take.cons; focus (repeat (first | exact Pick.here | apply Pick.next))))))⟩
        exact wp_stop
      exact wp_stop
    rintro ⟨⟩ -
    refine w_inB ?_
    refine w_region rfl ?_
    rw [fill_step hx (by omega)]
    refine o_add rfl rfl (by first | exact IntWalk.i64_in _ (by omega) | rfl) ?_
    refine o_mov rfl ?_
    refine w_nil ?_
    exact w_again ⟨(i + 1), (by omega), (by omega), (by repeat (first | exact Sub.nil _ | refine Sub.cons rfl ?_)), (Take.sub (by repeat (first | exact Take.nil | exact Take.all _ | (apply Take.cons; focus (repeat (first | exact Pick.here | apply Pick.next))))))⟩
  · refine w_exit rfl ?_
    refine w_region rfl ?_
    obtain rfl : i = N := by omega
    rw [List.take_of_length_le (by omega), Nat.sub_self, List.replicate_zero, List.append_nil]
    refine o_load lod_24 rfl (by repeat (first | exact At.here | (refine At.inA ?_; assumption) | apply At.next)) rfl ?_
    refine o_nilc rfl ?_
    refine o_fld fld_98_3 rfl rfl ?_
    refine o_call (i64_Add (off := 1552) (show (ar.setIfInBounds (4 * k + 3) (.slice (some ⟨b1, 0, none⟩) i i))[1552]? = some (.int .i64 made) from (get_set_ne (by omega) _).trans hm) (by omega)) fn_91 rfl (by repeat (first | exact Take.nil | exact Take.all _ | (apply Take.cons; focus (repeat (first | exact Pick.here | apply Pick.next))))) ?_
    rintro v ho ⟨rfl, rfl⟩
    refine w_nil ?_
    exact w_end (ret0 rfl) ⟨rfl, b1, rfl⟩ (Take.sub (by repeat (first | exact Take.nil | exact Take.all _ | (apply Take.cons; focus (repeat (first | exact Pick.here | apply Pick.next))))))

theorem tell_new {b k : Nat} {ar : Array Value} {T : TypeId} {Tb Hc : Hp} {s : Nat → Bool} {made told : Int} {N : Nat} {g : FuncId} {cap : Array Value} (hr : BankRep ar Tb s made told) (hk : k < 388) (hmade : 0 ≤ made ∧ made ≤ 1000000000) (htold : 0 ≤ told ∧ told ≤ 1000000000) (hx : (tabOf k).length = N) (hg : fnB Try.prog g = true) (num : ∀ i : Nat, i < N → Ctr Try.prog g (.int .i64 i :: cap.toList) [Hc] (fun v ho => v = .int .i16 ((tabOf k).getD i 0) ∧ ho = [Hc])) (hs : s k = false) : Ctr Try.prog 72 [.pointer (some ⟨b, 0, none⟩), .pointer (some ⟨b, 4 * k, none⟩), .int .i64 N, .func (.func g) #[] cap] ([[(b, .cells (ar) T (0, 0))], Tb, Hc]) (fun v ho => ∃ v1 ar' Tb' H', v = .tuple #[v1, .int .i64 0] ∧ isNilS v1 = false ∧ OwnI H' v1 35 .i16 (tabOf k) ∧ BankRep ar' Tb' (fun j => j == k || s j) (made + (if s k then 0 else 1)) (told + 1) ∧ ho = [H', [(b, .cells (ar') T (0, 0))], Tb', Hc]) := by
  refine spec_of Try.func72 rfl rfl fun w0 L => ?_
  refine w_seq ?_
  refine w_region rfl ?_
  refine o_box rfl (fun b1 => ?_)
  refine o_box rfl (fun b2 => ?_)
  refine o_box rfl (fun b3 => ?_)
  refine o_box rfl (fun b4 => ?_)
  refine o_asg rfl ?_
  refine o_asg rfl ?_
  refine w_nil ?_
  refine w_seq ?_
  refine w_region rfl ?_
  refine o_load lod_136 rfl (by repeat (first | exact At.here | (refine At.inA ?_; assumption) | apply At.next)) rfl ?_
  refine o_nilc rfl ?_
  refine o_fld fld_90_0 rfl rfl ?_
  refine o_mkf rfl rfl ?_
  have hN : N ≤ 1024 := by have := tabOf_len k hk; omega
  obtain ⟨u, hu, _, hun⟩ := hr.tab k hk
  have h0 := hr.done k hk
  rw [hs] at h0
  have hdo := once_Do (T := T) (b := b) (cap := #[.pointer (some ⟨b3, 0, none⟩), .pointer (some ⟨b2, 0, none⟩), .pointer (some ⟨b4, 0, none⟩), .pointer (some ⟨b1, 0, none⟩)]) (hr := [[(b3, .cells #[.int .i64 N] 3 (0, 0))], [(b2, .cells #[.pointer (some ⟨b, 4 * k, none⟩)] 136 (0, 0))], [(b4, .cells #[.func (.func g) #[] cap] 139 (0, 0))], [(b1, .cells #[.pointer (some ⟨b, 0, none⟩)] 24 (0, 0))], Hc]) (Q := fun ar' hr' => ∃ bn, ar' = ((ar.setIfInBounds (4 * k + 1) (.int .i32 1)).setIfInBounds (4 * k + 3) (.slice (some ⟨bn, 0, none⟩) N N)).setIfInBounds 1552 (.int .i64 (made + 1)) ∧ hr' = [[(bn, .cells (ints .i16 (tabOf k)) 35 (0, 0))], [(b3, .cells #[.int .i64 N] 3 (0, 0))], [(b2, .cells #[.pointer (some ⟨b, 4 * k, none⟩)] 136 (0, 0))], [(b4, .cells #[.func (.func g) #[] cap] 139 (0, 0))], [(b1, .cells #[.pointer (some ⟨b, 0, none⟩)] 24 (0, 0))], Hc]) fn_90 h0 (hr.lock k hk) ((tell1 (ar := ar.setIfInBounds (4 * k + 1) (.int .i32 1)) (u := u) hg hx (by omega) (by rw [get_set_ne (by omega)]; exact hu) (by rw [get_set_ne (by omega)]; exact hr.made) (by omega) hmade num).mono (by rintro v ho ⟨rfl, bn, rfl⟩; refine ⟨_, _, rfl, ?_, ?_, bn, rfl, rfl⟩; (rw [get_set_ne (by omega), get_set_ne (by omega), get_set_ne (by omega)]; exact h0); (rw [get_set_ne (by omega), get_set_ne (by omega)]; exact get_set (hr.lock k hk) _)))
  refine o_call (hdo) fn_89 rfl (by repeat (first | exact Take.nil | exact Take.all _ | (apply Take.cons; focus (repeat (first | exact Pick.here | apply Pick.next))))) ?_
  rintro v ho ⟨rfl, ar', hr', ⟨bn, rfl, rfl⟩, rfl⟩
  refine w_nil ?_
  refine w_seq ?_
  refine w_region rfl ?_
  have hI : Ints [(bn, Obj.cells (ints .i16 (tabOf k)) 35 (0, 0))] (.slice (some ⟨bn, 0, none⟩) N N) .i16 (tabOf k) := by have := (OwnI.mk_ (b := bn) (el := 35) (k := .i16) (xs := tabOf k) (by simp only [maxLen]; omega)).ints; rwa [hx] at this
  have hT : TabV ((bn, Obj.cells (ints .i16 (tabOf k)) 35 (0, 0)) :: Tb) (.slice (some ⟨bn, 0, none⟩) N N) (tabOf k) := ⟨hI.more (by simp), _, _, _, rfl⟩
  have hr2 := hr.done5 hk hT (by intro x hx; simp [hx])
  refine o_load lod_24 rfl (by repeat (first | exact At.here | (refine At.inA ?_; assumption) | apply At.next)) rfl ?_
  refine o_nilc rfl ?_
  refine o_fld fld_98_4 rfl rfl ?_
  refine o_call (i64_Add (off := 1553) hr2.told (by omega)) fn_91 rfl (by repeat (first | exact Take.nil | exact Take.all _ | (apply Take.cons; focus (repeat (first | exact Pick.here | apply Pick.next))))) ?_
  rintro v ho ⟨rfl, rfl⟩
  refine w_nil ?_
  refine w_seq ?_
  refine w_region rfl ?_
  refine o_load lod_136 rfl (by repeat (first | exact At.here | (refine At.inA ?_; assumption) | apply At.next)) rfl ?_
  refine o_nilc rfl ?_
  refine o_fld fld_90_1 rfl rfl ?_
  refine o_load lod_26 rfl (by repeat (first | exact At.here | (refine At.inA ?_; assumption) | apply At.next)) (show _ = some (.slice (some ⟨bn, 0, none⟩) N N) from by rw [get_set_ne (by omega), get_set_ne (by omega), get_set_ne (by omega), get_set_ne (by omega)]; exact get_set (show (ar.setIfInBounds (4 * k + 1) (.int .i32 1))[4 * k + 3]? = some u by rw [get_set_ne (by omega)]; exact hu) _) ?_
  refine o_call (clone_i16 hI (by omega)) fn_67 rfl (by repeat (first | exact Take.nil | exact Take.all _ | (apply Take.cons; focus (repeat (first | exact Pick.here | apply Pick.next))))) ?_
  rintro v ho ⟨hnil, H', hO, rfl⟩
  refine o_asg rfl ?_
  refine o_asg rfl ?_
  refine w_nil ?_
  refine WT.sub (h' := [(bn, .cells (ints .i16 (tabOf k)) 35 (0, 0))] :: Tb :: H' :: [(b, .cells (_) T (0, 0))] :: Hc :: []) ?_ (Sub.refl _) (Take.sub (by repeat (first | exact Take.nil | exact Take.all _ | (apply Take.cons; focus (repeat (first | exact Pick.here | apply Pick.next))))))
  refine w_merge ?_
  exact w_ret (ret2 rfl rfl rfl) ⟨_, _, _, H', rfl, hnil.trans rfl, hO, by simpa [hs] using hr2.tell (told + 1), rfl⟩ (Take.sub (by repeat (first | exact Take.nil | exact Take.all _ | (apply Take.cons; focus (repeat (first | exact Pick.here | apply Pick.next))))))

theorem tell_old {b k : Nat} {ar : Array Value} {T : TypeId} {Tb Hc : Hp} {s : Nat → Bool} {made told : Int} {N : Nat} {g : FuncId} {cap : Array Value} (hr : BankRep ar Tb s made told) (hk : k < 388) (hmade : 0 ≤ made ∧ made ≤ 1000000000) (htold : 0 ≤ told ∧ told ≤ 1000000000) (hx : (tabOf k).length = N) (hg : fnB Try.prog g = true) (num : ∀ i : Nat, i < N → Ctr Try.prog g (.int .i64 i :: cap.toList) [Hc] (fun v ho => v = .int .i16 ((tabOf k).getD i 0) ∧ ho = [Hc])) (hs : s k = true) : Ctr Try.prog 72 [.pointer (some ⟨b, 0, none⟩), .pointer (some ⟨b, 4 * k, none⟩), .int .i64 N, .func (.func g) #[] cap] ([[(b, .cells (ar) T (0, 0))], Tb, Hc]) (fun v ho => ∃ v1 ar' Tb' H', v = .tuple #[v1, .int .i64 0] ∧ isNilS v1 = false ∧ OwnI H' v1 35 .i16 (tabOf k) ∧ BankRep ar' Tb' (fun j => j == k || s j) (made + (if s k then 0 else 1)) (told + 1) ∧ ho = [H', [(b, .cells (ar') T (0, 0))], Tb', Hc]) := by
  refine spec_of Try.func72 rfl rfl fun w0 L => ?_
  refine w_seq ?_
  refine w_region rfl ?_
  refine o_box rfl (fun b1 => ?_)
  refine o_box rfl (fun b2 => ?_)
  refine o_box rfl (fun b3 => ?_)
  refine o_box rfl (fun b4 => ?_)
  refine o_asg rfl ?_
  refine o_asg rfl ?_
  refine w_nil ?_
  refine w_seq ?_
  refine w_region rfl ?_
  refine o_load lod_136 rfl (by repeat (first | exact At.here | (refine At.inA ?_; assumption) | apply At.next)) rfl ?_
  refine o_nilc rfl ?_
  refine o_fld fld_90_0 rfl rfl ?_
  refine o_mkf rfl rfl ?_
  have hN : N ≤ 1024 := by have := tabOf_len k hk; omega
  obtain ⟨u, hu, hut, _⟩ := hr.tab k hk
  have h0 := hr.done k hk
  rw [hs] at h0
  obtain ⟨hI, ua, un, uc, rfl⟩ := hut hs
  have hr2 := hr
  refine o_call (once_Done h0) fn_89 rfl (by repeat (first | exact Take.nil | exact Take.all _ | (apply Take.cons; focus (repeat (first | exact Pick.here | apply Pick.next))))) ?_
  rintro v ho ⟨rfl, rfl⟩
  refine w_nil ?_
  refine w_seq ?_
  refine w_region rfl ?_
  refine o_load lod_24 rfl (by repeat (first | exact At.here | (refine At.inA ?_; assumption) | apply At.next)) rfl ?_
  refine o_nilc rfl ?_
  refine o_fld fld_98_4 rfl rfl ?_
  refine o_call (i64_Add (off := 1553) hr2.told (by omega)) fn_91 rfl (by repeat (first | exact Take.nil | exact Take.all _ | (apply Take.cons; focus (repeat (first | exact Pick.here | apply Pick.next))))) ?_
  rintro v ho ⟨rfl, rfl⟩
  refine w_nil ?_
  refine w_seq ?_
  refine w_region rfl ?_
  refine o_load lod_136 rfl (by repeat (first | exact At.here | (refine At.inA ?_; assumption) | apply At.next)) rfl ?_
  refine o_nilc rfl ?_
  refine o_fld fld_90_1 rfl rfl ?_
  refine o_load lod_26 rfl (by repeat (first | exact At.here | (refine At.inA ?_; assumption) | apply At.next)) ((get_set_ne (by omega) _).trans hu) ?_
  refine o_call (clone_i16 hI (by omega)) fn_67 rfl (by repeat (first | exact Take.nil | exact Take.all _ | (apply Take.cons; focus (repeat (first | exact Pick.here | apply Pick.next))))) ?_
  rintro v ho ⟨hnil, H', hO, rfl⟩
  refine o_asg rfl ?_
  refine o_asg rfl ?_
  refine w_nil ?_
  exact w_ret (ret2 rfl rfl rfl) ⟨_, _, _, H', rfl, hnil.trans rfl, hO, by have h9 := hr.tell (told + 1); simp only [hs, if_true, Int.add_zero]; exact h9.congr fun j => by by_cases hj : j = k <;> simp [hj, hs], rfl⟩ (Take.sub (by repeat (first | exact Take.nil | exact Take.all _ | (apply Take.cons; focus (repeat (first | exact Pick.here | apply Pick.next))))))

theorem tell_any {b k : Nat} {ar : Array Value} {T : TypeId} {Tb Hc : Hp} {s : Nat → Bool} {made told : Int} {N : Nat} {g : FuncId} {cap : Array Value} (hr : BankRep ar Tb s made told) (hk : k < 388) (hmade : 0 ≤ made ∧ made ≤ 1000000000) (htold : 0 ≤ told ∧ told ≤ 1000000000) (hx : (tabOf k).length = N) (hg : fnB Try.prog g = true) (num : ∀ i : Nat, i < N → Ctr Try.prog g (.int .i64 i :: cap.toList) [Hc] (fun v ho => v = .int .i16 ((tabOf k).getD i 0) ∧ ho = [Hc])) : Ctr Try.prog 72 [.pointer (some ⟨b, 0, none⟩), .pointer (some ⟨b, 4 * k, none⟩), .int .i64 N, .func (.func g) #[] cap] ([[(b, .cells (ar) T (0, 0))], Tb, Hc]) (fun v ho => ∃ v1 ar' Tb' H', v = .tuple #[v1, .int .i64 0] ∧ isNilS v1 = false ∧ OwnI H' v1 35 .i16 (tabOf k) ∧ BankRep ar' Tb' (fun j => j == k || s j) (made + (if s k then 0 else 1)) (told + 1) ∧ ho = [H', [(b, .cells (ar') T (0, 0))], Tb', Hc]) := by
  cases hs : s k with
  | false => simpa [hs] using tell_new (T := T) hr hk hmade htold hx hg num hs
  | true => simpa [hs] using tell_old (T := T) hr hk hmade htold hx hg num hs

end Go.Proofs.Ytjmnidcfgkdhcaa
