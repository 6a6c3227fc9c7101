/- The row of PolyJoins: out of its contract. Printed by a program of mine (rows.py). -/
import Derived.Test.YtjmnidcfgkdhcaaRows
import Derived.Test.YtjmnidcfgkdhcaaEi
import Derived.Test.YtjmnidcfgkdhcaaFr
namespace Go.Proofs.Ytjmnidcfgkdhcaa
open Go.Eng Go.ChangeShapes Go.WideShapes Go.ChangeAt Go.RowKit
set_option linter.unusedVariables false
theorem own_PolyJoins : ownKnob Try.prog.godebug = none := by kernel_rfl
theorem laid_PolyJoins : laidOutB Try.prog = true := by kernel_rfl
set_option maxRecDepth 100000 in
theorem polyJoins_lifted (os : Os) (started : os.Started) (H : Type) (enc : TypeId × Value → H) :
    ReturnsInHanded {} Try.checked os 7 .any (Rows.polyJoinsSpec.pre6 enc Try.prog Try.f7 Rows.polyJoinsRow.domain false) (Rows.polyJoinsSpec.post enc Try.prog Try.f7 false true false false) := by
  refine returnsInHanded_of_change (C := Try.checked) own_PolyJoins started (by kernel_rfl) Try.func7
    (ChangeSpec.witness6 (enc := enc) (C := Try.checked) false ⟨#[], #[.bool false, .slice none 0 0], []⟩ 8 (by kernel_rfl) (by kernel_rfl) (by kernel_rfl) (by kernel_rfl)) ?_
  intro W base args ds gs before hval0 hW hcnd _
  have hval : ∀ (j : Nat) t v, Try.f7.params[j]? = some t → args[j]? = some v → Value.okWide Try.prog W .any base t v := hval0
  have hW' := hW
  obtain ⟨p, q, hA0, hV, rfl, hfz, hnd⟩ := hW
  have hA : DataW.TrodAll enc Try.prog W 0 (fun _ => true) true Try.f7.params.toList args.toList ds p := hA0
  rw [Try.params7] at hA hval
  obtain ⟨v0, v1, d0, d1, p0, p1, rfl, rfl, rfl, h0, h1⟩ := trodAll_two hA
  obtain ⟨rfl, rfl⟩ := trodVars_none hV
  obtain ⟨a0, rfl⟩ := open_bool' Try.underlying4 (hval 0 4 v0 rfl rfl)
  obtain ⟨a1, hr1, hl1, hw1⟩ := open_ints' (e := 21) (k := .i32) (by kernel_rfl) (by kernel_rfl) (by kernel_rfl) (hval 1 43 v1 rfl rfl) h1
  refine (row_calls (PolyJoins_ctr a0 hr1 hw1)).mono fun e W' ⟨he, hb⟩ => ?_
  subst he
  exact ⟨_, rfl, post_law (t := 4) laid_PolyJoins (by kernel_rfl) rfl hW' hb rfl rfl Try.underlying4⟩
theorem polyJoins_holds : Rows.PolyJoinsSaid :=
  OpenClaim.holds_of_wide 7 Try.f7 rfl rfl rfl rfl rfl rfl rfl ⟨rfl, rfl, rfl, rfl, rfl⟩ rfl rfl rfl rfl rfl (by kernel_rfl) Try.func7 (by kernel_rfl)
    (of_decide_eq_true (by kernel_rfl)) (by unfold Func.isWrapper; first | (rw [if_pos (by decide +kernel)]; kernel_rfl) | (rw [if_neg (by decide +kernel)]; exact ⟨rfl, rfl⟩))
    (fun os started H enc _ => polyJoins_lifted os started H enc)
end Go.Proofs.Ytjmnidcfgkdhcaa
