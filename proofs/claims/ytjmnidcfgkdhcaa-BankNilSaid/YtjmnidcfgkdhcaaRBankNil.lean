/- The row of BankNil: out of its contract. Printed by a program of mine (rows.py). -/
import Derived.Test.YtjmnidcfgkdhcaaRows
import Derived.Test.YtjmnidcfgkdhcaaEi
import Derived.Test.YtjmnidcfgkdhcaaFg
namespace Go.Proofs.Ytjmnidcfgkdhcaa
open Go.Eng Go.ChangeShapes Go.WideShapes Go.ChangeAt Go.RowKit
set_option linter.unusedVariables false
theorem own_BankNil : ownKnob Try.prog.godebug = none := by kernel_rfl
theorem laid_BankNil : laidOutB Try.prog = true := by kernel_rfl
set_option maxRecDepth 100000 in
theorem bankNil_lifted (os : Os) (started : os.Started) (H : Type) (enc : TypeId × Value → H) :
    ReturnsInHanded {} Try.checked os 5 .any (Rows.bankNilSpec.pre6 enc Try.prog Try.f5 Rows.bankNilRow.domain false) (Rows.bankNilSpec.post enc Try.prog Try.f5 false true false false) := by
  refine returnsInHanded_of_change (C := Try.checked) own_BankNil started (by kernel_rfl) Try.func5
    (ChangeSpec.witness6 (enc := enc) (C := Try.checked) false ⟨#[], #[.agg #[.int .i64 0, .int .i64 0]], []⟩ 8 (by kernel_rfl) (by kernel_rfl) (by kernel_rfl) (by kernel_rfl)) ?_
  intro W base args ds gs before hval0 hW hcnd _
  have hval : ∀ (j : Nat) t v, Try.f5.params[j]? = some t → args[j]? = some v → Value.okWide Try.prog W .any base t v := hval0
  have hW' := hW
  obtain ⟨p, q, hA0, hV, rfl, hfz, hnd⟩ := hW
  have hA : DataW.TrodAll enc Try.prog W 0 (fun _ => true) true Try.f5.params.toList args.toList ds p := hA0
  rw [Try.params5] at hA hval
  obtain ⟨v0, d0, rfl, rfl, h0⟩ := trodAll_one hA
  obtain ⟨rfl, rfl⟩ := trodVars_none hV
  obtain ⟨a0, b0, rfl, wa0, wb0⟩ := open_pair (k0 := .i64) (k1 := .i64) (by kernel_rfl) (hval 0 31 v0 rfl rfl) h0
  have ra0 := wf_i64 wa0
  have rb0 := wf_i64 wb0
  refine (row_calls (Ctr.of_nil (BankNil_ctr _ _ rb0))).mono fun e W' ⟨he, hb⟩ => ?_
  subst he
  exact ⟨_, rfl, post_law (t := 4) laid_BankNil (by kernel_rfl) rfl hW' hb rfl rfl Try.underlying4⟩
theorem bankNil_holds : Rows.BankNilSaid :=
  OpenClaim.holds_of_wide 5 Try.f5 rfl rfl rfl rfl rfl rfl rfl ⟨rfl, rfl, rfl, rfl, rfl⟩ rfl rfl rfl rfl rfl (by kernel_rfl) Try.func5 (by kernel_rfl)
    (of_decide_eq_true (by kernel_rfl)) (by unfold Func.isWrapper; first | (rw [if_pos (by decide +kernel)]; kernel_rfl) | (rw [if_neg (by decide +kernel)]; exact ⟨rfl, rfl⟩))
    (fun os started H enc _ => bankNil_lifted os started H enc)
end Go.Proofs.Ytjmnidcfgkdhcaa
