/- Plain words of the layer 34: the law's own. No condition. -/
import Derived.Test.YtmcopafdooejjaaDoorPz
namespace Go.Eng
set_option linter.unusedVariables false
set_option linter.unusedSimpArgs false
theorem PRes.eq {o : Option (List StepP) × Int} {L L' : List StepP} {n n' e e' : Int} (h : PRes o L n e) (h' : PRes o L' n' e') : L = L' ∧ n = n' ∧ e = e' := by
  obtain ⟨x, a⟩ := o
  cases x with
  | none => obtain ⟨h1, h2, h3⟩ := h; obtain ⟨h4, h5, h6⟩ := h'; exact ⟨h1.trans h4.symm, h2.trans h5.symm, h3.trans h6.symm⟩
  | some x => obtain ⟨h1, h2, h3⟩ := h; obtain ⟨h4, h5, h6⟩ := h'; exact ⟨h1.trans h4.symm, h2.trans h5.symm, h3.trans h6.symm⟩
theorem storm_slots (k : SkyP) (q : Nat) (s : Int × Bool) : ∀ m, ∀ t ∈ (stormP k q m s).2, t.slots.length = q
  | 0, t, h => by simp [stormP] at h
  | m + 1, t, h => by
    rcases List.mem_append.1 (show t ∈ (stormP k q m s).2 ++ [_] from h) with h | h
    · exact storm_slots k q s m t h
    · rw [List.mem_singleton.1 h]; exact rowP_len _ _ _
theorem steps_slots {W : List (List UInt8)} {L : List StepP} (h : stepsP W = some L) : ∀ t ∈ L, t.slots.length ≤ W.length + 16 := by
  unfold stepsP at h
  split at h
  · split at h
    · obtain rfl := Option.some.inj h; intro t ht; rw [List.mem_singleton.1 ht]; simp
    · cases h
  · split at h
    · split at h
      · obtain rfl := Option.some.inj h; intro t ht; rw [List.mem_singleton.1 ht]; simp
      · cases h
    · split at h
      · split at h
        · obtain rfl := Option.some.inj h; intro t ht; rw [List.mem_singleton.1 ht]; simp
        · cases h
      · split at h
        · split at h
          · obtain rfl := Option.some.inj h; intro t ht; rw [List.mem_singleton.1 ht]; simp
          · cases h
        · split at h
          · split at h
            · obtain rfl := Option.some.inj h; intro t ht; rw [List.mem_singleton.1 ht]; simp; omega
            · cases h
          · split at h
            · split at h
              · rename_i hok
                obtain rfl := Option.some.inj h
                intro t ht
                rw [storm_slots _ _ _ _ t ht]
                have := num_in hok (show 6 < stormM.length by decide)
                have h2 : num W.tail stormM 6 ≤ 16 := this.2
                omega
              · cases h
            · cases h
theorem parse_slots {B : Nat} : ∀ (ls : List (List UInt8)) (k : Nat) (out L : List StepP) (a : Int), parseL k out ls = (some L, a) → (∀ t ∈ out, t.slots.length ≤ B) → (∀ w ∈ ls, w.length + 17 ≤ B) → ∀ t ∈ L, t.slots.length ≤ B
  | [], k, out, L, a, h, ho, _ => by
    simp only [parseL, Prod.mk.injEq, Option.some.injEq] at h
    rw [← h.1]; exact ho
  | [w], k, out, L, a, h, ho, _ => by
    simp only [parseL] at h
    split at h
    · simp only [Prod.mk.injEq, Option.some.injEq] at h; rw [← h.1]; exact ho
    · simp at h
  | w :: v :: ws, k, out, L, a, h, ho, hw => by
    rw [parseL] at h
    split at h
    · exact parse_slots (v :: ws) _ _ _ _ h ho (fun u hu => hw u (List.mem_cons_of_mem _ hu))
    · split at h
      · simp at h
      · rename_i l hl
        split at h
        · simp at h
        · refine parse_slots (v :: ws) _ _ _ _ h (fun t ht => ?_) (fun u hu => hw u (List.mem_cons_of_mem _ hu))
          rcases List.mem_append.1 ht with ht | ht
          · exact ho t ht
          · have h1 := steps_slots (show stepsP (cutB 32 w) = some l from hl) t ht
            have h2 := cutB_count 32 w
            have h3 := hw w (List.mem_cons_self ..)
            omega
theorem pres_slots {l : List UInt8} {L : List StepP} {n e : Int} (h : PRes (parseL 1 [] (cutB 10 l)) L n e) (hl : l.length ≤ 65536) : ∀ t ∈ L, t.slots.length ≤ 1000000 := by
  cases ho : parseL 1 [] (cutB 10 l) with
  | mk x a =>
    rw [ho] at h
    cases x with
    | none => rw [h.1]; intro t ht; cases ht
    | some x =>
      rw [h.1]
      exact parse_slots (B := 1000000) (cutB 10 l) 1 [] x a ho (fun t ht => by cases ht) (fun w hw => by have := cutB_word hw; omega)
def T1 : List UInt8 := [35, 32, 110, 111, 119, 10, 105, 110, 116, 101, 114, 118, 97, 108, 32, 46, 32, 120, 32, 97, 32, 50, 47, 48, 47, 55, 55, 47, 53, 10, 116, 111, 110, 101, 32, 49, 48, 48, 32, 49, 32, 52, 32, 53, 10]
def T2 : List UInt8 := [99, 97, 108, 108, 32, 49, 10, 99, 97, 108, 108, 32, 120, 10]
theorem t1_ok : (parseL 1 [] (cutB 10 T1)).1.map (fun L => (L.map (fun s => (s.slots.length, s.samples.length)), (L.map fun s => s.slots.map fun q => q.2.2.1))) = some ([(4, 0), (0, 5)], [[0, 0, 0, 77], []]) := by decide +kernel
theorem t2_no : (parseL 1 [] (cutB 10 T2)).1.isNone = true ∧ (parseL 1 [] (cutB 10 T2)).2 = 2 := by decide +kernel
theorem t1_res {L : List StepP} {n e : Int} (h : PRes (parseL 1 [] (cutB 10 T1)) L n e) : n = 0 ∧ e = 0 ∧ ∃ s0 s1 q0 q1 q2 q3, L = [s0, s1] ∧ s0.slots = [q0, q1, q2, q3] ∧ q3.2.2.1 = 77 ∧ s1.samples.length = 5 := by
  have h1 := t1_ok
  cases ho : parseL 1 [] (cutB 10 T1) with
  | mk x a =>
    rw [ho] at h h1
    cases x with
    | none => cases h1
    | some x =>
      obtain ⟨rfl, hn, he⟩ := h
      simp only [Option.map_some, Option.some.injEq, Prod.mk.injEq] at h1
      obtain ⟨h2, h3⟩ := h1
      rcases L with _ | ⟨s0, _ | ⟨s1, _ | ⟨s2, L⟩⟩⟩
      · simp at h2
      · simp at h2
      · simp only [List.map_cons, List.map_nil, List.cons.injEq, Prod.mk.injEq, and_true] at h2 h3
        obtain ⟨⟨h4, _⟩, _, h5⟩ := h2
        obtain ⟨h6, _⟩ := h3
        cases hsl : s0.slots with
        | nil => rw [hsl] at h4; simp at h4
        | cons q0 r0 =>
          rw [hsl] at h4 h6
          rcases r0 with _ | ⟨q1, _ | ⟨q2, _ | ⟨q3, _ | ⟨q4, r⟩⟩⟩⟩ <;> simp at h4
          simp only [List.map_cons, List.map_nil, List.cons.injEq, and_true] at h6
          exact ⟨hn, he, s0, s1, q0, q1, q2, q3, rfl, hsl, h6.2.2.2, h5⟩
      · simp at h2
theorem t2_res {L : List StepP} {n e : Int} (h : PRes (parseL 1 [] (cutB 10 T2)) L n e) : n = 2 ∧ e = 310 := by
  have h1 := t2_no
  cases ho : parseL 1 [] (cutB 10 T2) with
  | mk x a =>
    rw [ho] at h h1
    cases x with
    | none => obtain ⟨_, h2, h3⟩ := h; exact ⟨h2.trans h1.2, h3⟩
    | some x => cases h1.1
end Go.Eng
