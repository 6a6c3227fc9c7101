/- The row of BankTells: out of its contract. Printed by a program of mine (rows.py). -/
import Derived.Test.YtjmnidcfgkdhcaaRows
import Derived.Test.YtjmnidcfgkdhcaaEi
import Derived.Test.YtjmnidcfgkdhcaaFh
namespace Go.Proofs.Ytjmnidcfgkdhcaa
open Go.Eng Go.ChangeShapes Go.WideShapes Go.ChangeAt Go.RowKit
set_option linter.unusedVariables false
theorem own_BankTells : ownKnob Try.prog.godebug = none := by kernel_rfl
theorem laid_BankTells : laidOutB Try.prog = true := by kernel_rfl
set_option maxRecDepth 100000 in
theorem bankTells_lifted (os : Os) (started : os.Started) (H : Type) (enc : TypeId × Value → H) :
    ReturnsInHanded {} Try.checked os 3 .any (Rows.bankTellsSpec.pre6 enc Try.prog Try.f3 Rows.bankTellsRow.domain false) (Rows.bankTellsSpec.post enc Try.prog Try.f3 false true false false) := by
  refine returnsInHanded_of_change (C := Try.checked) own_BankTells started (by kernel_rfl) Try.func3
    (ChangeSpec.witness6 (enc := enc) (C := Try.checked) false ⟨#[], #[.slice none 0 0], []⟩ 8 (by kernel_rfl) (by kernel_rfl) (by kernel_rfl) (by kernel_rfl)) ?_
  intro W base args ds gs before hval0 hW hcnd _
  have hval : ∀ (j : Nat) t v, Try.f3.params[j]? = some t → args[j]? = some v → Value.okWide Try.prog W .any base t v := hval0
  have hW' := hW
  obtain ⟨p, q, hA0, hV, rfl, hfz, hnd⟩ := hW
  have hA : DataW.TrodAll enc Try.prog W 0 (fun _ => true) true Try.f3.params.toList args.toList ds p := hA0
  rw [Try.params3] at hA hval
  obtain ⟨v0, d0, rfl, rfl, h0⟩ := trodAll_one hA
  obtain ⟨rfl, rfl⟩ := trodVars_none hV
  obtain ⟨a0, hr0, hl0, hw0⟩ := open_pairs (e := 31) (k0 := .i64) (k1 := .i64) (by kernel_rfl) (by kernel_rfl) (by kernel_rfl) (hval 0 22 v0 rfl rfl) h0
  refine (row_calls (BankTells_ctr hr0 hw0)).mono fun e W' ⟨he, hb⟩ => ?_
  subst he
  exact ⟨_, rfl, post_law (t := 4) laid_BankTells (by kernel_rfl) rfl hW' hb rfl rfl Try.underlying4⟩
theorem bankTells_holds : Rows.BankTellsSaid :=
  OpenClaim.holds_of_wide 3 Try.f3 rfl rfl rfl rfl rfl rfl rfl ⟨rfl, rfl, rfl, rfl, rfl⟩ rfl rfl rfl rfl rfl (by kernel_rfl) Try.func3 (by kernel_rfl)
    (of_decide_eq_true (by kernel_rfl)) (by unfold Func.isWrapper; first | (rw [if_pos (by decide +kernel)]; kernel_rfl) | (rw [if_neg (by decide +kernel)]; exact ⟨rfl, rfl⟩))
    (fun os started H enc _ => bankTells_lifted os started H enc)
end Go.Proofs.Ytjmnidcfgkdhcaa
