/- Plain words of the layer 34: what is parsed. No condition. -/
import Derived.Test.YtmcopafdooejjaaDoorPw
namespace Go.Eng
set_option linter.unusedVariables false
set_option linter.unusedSimpArgs false
def PRes (o : Option (List StepP) × Int) (L : List StepP) (n e : Int) : Prop := match o with
  | (some x, _) => L = x ∧ n = 0 ∧ e = 0
  | (none, a) => L = [] ∧ n = a ∧ e = 310
theorem PRes.yes {o : Option (List StepP) × Int} {L : List StepP} {a : Int} (h : o = (some L, a)) : PRes o L 0 0 := by rw [h]; exact ⟨rfl, rfl, rfl⟩
theorem PRes.no {o : Option (List StepP) × Int} {a : Int} (h : o = (none, a)) : PRes o [] a 310 := by rw [h]; exact ⟨rfl, rfl, rfl⟩
def skipL (a : List UInt8) : Prop := a = [] ∨ (a.getD 0 0).toNat = 35
instance (a : List UInt8) : Decidable (skipL a) := by unfold skipL; infer_instance
theorem skip_iff (a : List UInt8) : (a = [] ∨ a.getD 0 0 = 35) ↔ skipL a := by
  unfold skipL
  constructor
  · rintro (h | h)
    · exact .inl h
    · right; rw [h]; rfl
  · rintro (h | h)
    · exact .inl h
    · right; exact UInt8.toNat_inj.1 h
theorem parse_end (k : Nat) (out : List StepP) : parseL k out [[]] = (some out, 0) := by simp [parseL]
theorem parse_tail {k : Nat} {out : List StepP} {w : List UInt8} (h : w ≠ []) : parseL k out [w] = (none, (k : Int)) := by simp [parseL, h]
theorem parse_skip {k : Nat} {out : List StepP} {w : List UInt8} {ws : List (List UInt8)} (hs : ws ≠ []) (h : skipL w) : parseL k out (w :: ws) = parseL (k + 1) out ws := by
  cases ws with
  | nil => exact absurd rfl hs
  | cons v ws => rw [parseL, if_pos ((skip_iff w).2 h)]
theorem parse_none {k : Nat} {out : List StepP} {w : List UInt8} {ws : List (List UInt8)} (hs : ws ≠ []) (h : ¬ skipL w) (hl : lineS w = none) : parseL k out (w :: ws) = (none, (k : Int)) := by
  cases ws with
  | nil => exact absurd rfl hs
  | cons v ws => rw [parseL, if_neg (fun h2 => h ((skip_iff w).1 h2)), hl]
theorem parse_some {k : Nat} {out l : List StepP} {w : List UInt8} {ws : List (List UInt8)} (hs : ws ≠ []) (h : ¬ skipL w) (hl : lineS w = some l) : parseL k out (w :: ws) = if 4096 < (out ++ l).length then (none, (k : Int)) else parseL (k + 1) (out ++ l) ws := by
  cases ws with
  | nil => exact absurd rfl hs
  | cons v ws => rw [parseL, if_neg (fun h2 => h ((skip_iff w).1 h2)), hl]
theorem Res.isNone {α : Type} {o : Option α} {W : List (List UInt8)} {l : α} {bad : Bool} (h : Res o bad W l) (hb : bad = true ∨ W ≠ []) : o = none := by
  cases o with
  | none => rfl
  | some x =>
    obtain ⟨h1, h2, _⟩ := h
    rcases hb with hb | hb
    · rw [h1] at hb; cases hb
    · exact absurd h2 hb
theorem Res.isSome {α : Type} {o : Option α} {W : List (List UInt8)} {l : α} (h : Res o false W l) (hW : W = []) : o = some l := by
  cases o with
  | none => rcases h with h | h
            · cases h
            · exact absurd hW h
  | some x => rw [h.2.2]
end Go.Eng
