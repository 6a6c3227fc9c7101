/- The engine, part 13: whole blocks loaded and stored. No condition. -/
import Derived.Test.YtmcopafdooejjaaDoorEl
namespace Go.Eng
set_option linter.unusedVariables false
set_option linter.unusedSimpArgs false
theorem setN_get : ∀ (l : List Value) (c : Array Value) (o j : Nat), o + l.length ≤ c.size → (setN c o l)[j]? = if o ≤ j ∧ j < o + l.length then l[j - o]? else c[j]?
  | [], c, o, j, h => by simp only [setN, List.length_nil]; rw [if_neg (by omega)]
  | v :: r, c, o, j, h => by
    simp only [List.length_cons] at h
    simp only [setN]
    rw [setN_get r _ (o + 1) j (by simp; omega)]
    simp only [List.length_cons]
    by_cases h1 : o + 1 ≤ j ∧ j < o + 1 + r.length
    · rw [if_pos h1, if_pos (by omega), show j - o = (j - (o + 1)) + 1 by omega, List.getElem?_cons_succ]
    · rw [if_neg h1]
      by_cases h2 : j = o
      · subst h2; rw [if_pos (by omega), Nat.sub_self, List.getElem?_cons_zero, Array.getElem?_setIfInBounds_self_of_lt (by omega)]
      · rw [if_neg (by omega), Array.getElem?_setIfInBounds_ne (fun h => h2 h.symm)]
theorem setN_all {c : Array Value} {l : List Value} (h : l.length = c.size) : setN c 0 l = l.toArray := by
  apply Array.ext_getElem?
  intro j
  rw [setN_get l c 0 j (by omega)]
  by_cases h1 : j < l.length
  · rw [if_pos (by omega)]; simp
  · rw [if_neg (by omega)]; rw [Array.getElem?_eq_none (by omega), Array.getElem?_eq_none (by simp; omega)]
section
variable {P : Program} {n : Nat} {ops : Array Oper} {r : List Oper} {K : Env → Hs → Prop} {e : Env} {h : Hs} {d : Tmp} {ty : TypeId} {pos : String} {af : Array Edge}
theorem o_storeW {x y : Operand} {t m b : Nat} {c : Array Value} {T : TypeId} {fr : Nat × Nat} {v : Value} {h' : Hs} (hl : sizB P t = some m) (hx : ev e (compX x) = some (.pointer (some ⟨b, 0, none⟩))) (hy : ev e (compX y) = some v) (h1 : (v.cells.size == m && v.cells.toList.all Value.oneCell') = true)
    (hm : Upd h b (.cells c T fr) (.cells v.cells T fr) h') (hs : c.size = m) (hf : fr.2 = 0) (k : WL P n ops r K e h') : WL P n ops (⟨none, .store t x y, ty, pos, af, none⟩ :: r) K e h := by
  have h2 : v.cells.size = m := by
    simp only [Bool.and_eq_true, beq_iff_eq] at h1; exact h1.1
  refine o_storeN hl hx hy h1 (T := T) (fr := fr) (c := c) ?_ (by omega) (.inl (by omega)) k
  rw [setN_all (by rw [Array.length_toList]; omega)]
  exact hm
theorem o_loadW {x : Operand} {t m b : Nat} {c : Array Value} {T : TypeId} {fr : Nat × Nat} (hl : lodB P t = some (some m)) (hx : ev e (compX x) = some (.pointer (some ⟨b, 0, none⟩))) (hm : At h b (.cells c T fr)) (hs : c.size = m)
    (k : WL P n ops r K ((d, .agg c) :: e) h) : WL P n ops (⟨some d, .load t x, ty, pos, af, none⟩ :: r) K e h :=
  o_loadN hl hx hm (by omega) (by subst hs; simp) k
end
/-- A whole block, as a result. -/
theorem ret1w {P : Program} {fn : Func} {e : Env} {h : Hs} {t : Tmp} {tt : TypeId} {m b : Nat} {c : Array Value} {T : TypeId} {fr : Nat × Nat} (hr : fn.results = #[.cell t tt]) (hl : lodB P tt = some (some m)) (ht : get e t = some (.pointer (some ⟨b, 0, none⟩))) (hm : At h b (.cells c T fr)) (hs : c.size = m) : RetOk P fn e h (.agg c) :=
  ret1c hr hl ht hm (by omega) (by subst hs; simp)
theorem ret2w {P : Program} {fn : Func} {e : Env} {h : Hs} {t u : Tmp} {tt : TypeId} {m b : Nat} {c : Array Value} {T : TypeId} {fr : Nat × Nat} {x : Value} (hr : fn.results = #[.cell t tt, .tmp u]) (hl : lodB P tt = some (some m)) (ht : get e t = some (.pointer (some ⟨b, 0, none⟩))) (hm : At h b (.cells c T fr)) (hs : c.size = m) (hu : get e u = some x) : RetOk P fn e h (.tuple #[.agg c, x]) :=
  ret2c hr hl ht hm (by omega) (by subst hs; simp) hu
end Go.Eng
