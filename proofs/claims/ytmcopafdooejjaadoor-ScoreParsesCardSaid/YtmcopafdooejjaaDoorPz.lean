/- Plain words of the layer 34: rows of steps, read. No condition. -/
import Derived.Test.YtmcopafdooejjaaDoorPy
import Derived.Test.YtmcopafdooejjaaDoorEn
namespace Go.Eng
set_option linter.unusedVariables false
set_option linter.unusedSimpArgs false
def slotI (s : SlotP) : List (IntKind × Int) := [(.i64, s.1), (.i64, s.2.1), (.i64, s.2.2.1), (.u32, s.2.2.2)]
theorem slotI_eq (s : SlotP) : ivs (slotI s) = slotC s := rfl
theorem slotsC_get {L : List SlotP} {i : Nat} {s : SlotP} (h : L[i]? = some s) : ∀ (j : Nat) (u : Value), (slotC s)[j]? = some u → (slotsC L)[i * 4 + j]? = some u := by
  intro j u hj
  have hj4 : j < 4 := by have := (List.getElem?_eq_some_iff.1 hj).1; simpa [slotC] using this
  induction L generalizing i with
  | nil => simp at h
  | cons a L ih =>
    rw [show slotsC (a :: L) = slotC a ++ slotsC L by simp [slotsC]]
    cases i with
    | zero =>
      simp only [List.getElem?_cons_zero, Option.some.injEq] at h
      subst h
      rw [Nat.zero_mul, Nat.zero_add, List.getElem?_append_left (by simpa [slotC] using hj4)]
      exact hj
    | succ i =>
      have := ih (i := i) (by simpa using h)
      rw [List.getElem?_append_right (by simp [slotC]; omega), show (i + 1) * 4 + j - (slotC a).length = i * 4 + j by simp [slotC]; omega]
      exact this
theorem SRows.pushJ {Ho' Hj : Hp} {v' : Value} {el : TypeId} {L : List StepP} {s : StepP} {cs : List Value} {vs va vb vl : Value} (hc : cs.length = L.length * 6) (hO : Own Ho' v' el 6 (L.length + 1) (cs ++ stepC s vs va vb vl)) (h1 : (cs.all Value.oneCell') = true) (hL : ∀ i s, L[i]? = some s → StepAt Hj cs i s)
    (k1 : Ints Hj vs .i16 s.samples) (k2 : Ints Hj va .u8 s.a) (k3 : Ints Hj vb .u8 s.b) (k4 : Rd Hj vl 4 s.slots.length (slotsC s.slots)) : SRows Ho' Hj v' el (L ++ [s]) := by
  refine ⟨cs ++ stepC s vs va vb vl, by rw [List.length_append]; exact hO, by rw [List.all_append, h1, stepC_one k1 k2 k3 k4]; rfl, fun i t ht => ?_⟩
  rcases Nat.lt_or_ge i L.length with h | h
  · rw [List.getElem?_append_left h] at ht
    exact (hL i t ht).left
  · rw [List.getElem?_append_right h] at ht
    have := (stepAt_one k1 k2 k3 k4 _ t ht).right (cs := cs) hc
    rwa [show L.length + (i - L.length) = i by omega] at this
theorem get_some {α : Type} {L : List α} {i : Nat} (h : i < L.length) : ∃ s, L[i]? = some s ∧ L.take (i + 1) = L.take i ++ [s] := ⟨L[i], by simp [h], by rw [List.take_add_one]; simp [h]⟩
theorem stepC_at {cs : List Value} {i : Nat} {s : StepP} {vs va vb vl : Value} (h : cs[i * 6]? = some (.int .i64 s.kind) ∧ cs[i * 6 + 1]? = some (.int .i64 s.n) ∧ cs[i * 6 + 2]? = some vs ∧ cs[i * 6 + 3]? = some va ∧ cs[i * 6 + 4]? = some vb ∧ cs[i * 6 + 5]? = some vl) : ∀ (j : Nat) (u : Value), (stepC s vs va vb vl)[j]? = some u → cs[i * 6 + j]? = some u := by
  obtain ⟨h0, h1, h2, h3, h4, h5⟩ := h
  intro j u hj
  rcases j with _ | _ | _ | _ | _ | _ | j
  · rw [← hj]; exact h0
  · rw [← hj]; exact h1
  · rw [← hj]; exact h2
  · rw [← hj]; exact h3
  · rw [← hj]; exact h4
  · rw [← hj]; exact h5
  · simp [stepC] at hj
end Go.Eng
