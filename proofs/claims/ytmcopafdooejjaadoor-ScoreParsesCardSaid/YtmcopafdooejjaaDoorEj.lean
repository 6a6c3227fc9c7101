/- The engine, part 10: slices of slices of numbers. No condition. -/
import Derived.Test.YtmcopafdooejjaaDoorEi
namespace Go.Eng
set_option linter.unusedVariables false

/-- An owned row of slices; what they hold lies in one chunk. -/
def Rows2 (Ho Hi : Hp) (v : Value) (el : TypeId) (k : IntKind) (bs : List (List Int)) : Prop :=
  ∃ ws : List Value, Own Ho v el 1 bs.length ws ∧ ∀ i, i < bs.length → ∃ w, ws[i]? = some w ∧ Ints Hi w k (bs.getD i [])
theorem Rows2.nil (el : TypeId) (k : IntKind) : Rows2 [] [] (.slice none 0 0) el k [] := ⟨[], Own.nil el 1, fun i h => by simp at h⟩
theorem Rows2.push {Ho' Hi H : Hp} {v' w : Value} {el : TypeId} {k : IntKind} {bs : List (List Int)} {ws : List Value} {xs : List Int} (h : ∀ i, i < bs.length → ∃ w, ws[i]? = some w ∧ Ints Hi w k (bs.getD i [])) (hl : ws.length = bs.length) (hO : Own Ho' v' el 1 (bs.length + 1) (ws ++ [w])) (hw : Ints H w k xs) : Rows2 Ho' (H ++ Hi) v' el k (bs ++ [xs]) := by
  refine ⟨ws ++ [w], by rw [List.length_append]; exact hO, fun i hi => ?_⟩
  rw [List.length_append, List.length_singleton] at hi
  rcases Nat.lt_or_ge i bs.length with h1 | h1
  · obtain ⟨u, h2, h3⟩ := h i h1
    refine ⟨u, by rw [List.getElem?_append_left (by omega)]; exact h2, ?_⟩
    have : (bs ++ [xs]).getD i [] = bs.getD i [] := by simp [List.getElem?_append_left h1]
    rw [this]
    exact h3.more (fun x hx => List.mem_append.2 (.inr hx))
  · obtain rfl : i = bs.length := by omega
    refine ⟨w, by rw [List.getElem?_append_right (by omega), hl]; simp, ?_⟩
    have : (bs ++ [xs]).getD bs.length [] = xs := by simp
    rw [this]
    exact hw.more (fun x hx => List.mem_append.2 (.inl hx))
end Go.Eng
