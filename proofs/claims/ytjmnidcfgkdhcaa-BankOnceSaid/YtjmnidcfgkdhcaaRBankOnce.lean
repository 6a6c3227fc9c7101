/- The row of BankOnce: out of its contract. Printed by a program of mine (rows.py). -/
import Derived.Test.YtjmnidcfgkdhcaaRows
import Derived.Test.YtjmnidcfgkdhcaaEi
import Derived.Test.YtjmnidcfgkdhcaaFi
namespace Go.Proofs.Ytjmnidcfgkdhcaa
open Go.Eng Go.ChangeShapes Go.WideShapes Go.ChangeAt Go.RowKit
set_option linter.unusedVariables false
theorem own_BankOnce : ownKnob Try.prog.godebug = none := by kernel_rfl
theorem laid_BankOnce : laidOutB Try.prog = true := by kernel_rfl
set_option maxRecDepth 100000 in
theorem bankOnce_lifted (os : Os) (started : os.Started) (H : Type) (enc : TypeId × Value → H) :
    ReturnsInHanded {} Try.checked os 4 .any (Rows.bankOnceSpec.pre6 enc Try.prog Try.f4 Rows.bankOnceRow.domain false) (Rows.bankOnceSpec.post enc Try.prog Try.f4 false true false false) := by
  refine returnsInHanded_of_change (C := Try.checked) own_BankOnce started (by kernel_rfl) Try.func4
    (ChangeSpec.witness6 (enc := enc) (C := Try.checked) false ⟨#[], #[.slice none 0 0, .agg #[.int .i64 0, .int .i64 0]], []⟩ 8 (by kernel_rfl) (by kernel_rfl) (by kernel_rfl) (by kernel_rfl)) ?_
  intro W base args ds gs before hval0 hW hcnd _
  have hval : ∀ (j : Nat) t v, Try.f4.params[j]? = some t → args[j]? = some v → Value.okWide Try.prog W .any base t v := hval0
  have hW' := hW
  obtain ⟨p, q, hA0, hV, rfl, hfz, hnd⟩ := hW
  have hA : DataW.TrodAll enc Try.prog W 0 (fun _ => true) true Try.f4.params.toList args.toList ds p := hA0
  rw [Try.params4] at hA hval
  obtain ⟨v0, v1, d0, d1, p0, p1, rfl, rfl, rfl, h0, h1⟩ := trodAll_two hA
  obtain ⟨rfl, rfl⟩ := trodVars_none hV
  obtain ⟨a0, hr0, hl0, hw0⟩ := open_pairs (e := 31) (k0 := .i64) (k1 := .i64) (by kernel_rfl) (by kernel_rfl) (by kernel_rfl) (hval 0 22 v0 rfl rfl) h0
  obtain ⟨a1, b1, rfl, wa1, wb1⟩ := open_pair (k0 := .i64) (k1 := .i64) (by kernel_rfl) (hval 1 31 v1 rfl rfl) h1
  have ra1 := wf_i64 wa1
  have rb1 := wf_i64 wb1
  refine (row_calls (BankOnce_ctr hr0 hw0 _ _ rb1)).mono fun e W' ⟨he, hb⟩ => ?_
  subst he
  exact ⟨_, rfl, post_law (t := 4) laid_BankOnce (by kernel_rfl) rfl hW' hb rfl rfl Try.underlying4⟩
theorem bankOnce_holds : Rows.BankOnceSaid :=
  OpenClaim.holds_of_wide 4 Try.f4 rfl rfl rfl rfl rfl rfl rfl ⟨rfl, rfl, rfl, rfl, rfl⟩ rfl rfl rfl rfl rfl (by kernel_rfl) Try.func4 (by kernel_rfl)
    (of_decide_eq_true (by kernel_rfl)) (by unfold Func.isWrapper; first | (rw [if_pos (by decide +kernel)]; kernel_rfl) | (rw [if_neg (by decide +kernel)]; exact ⟨rfl, rfl⟩))
    (fun os started H enc _ => bankOnce_lifted os started H enc)
end Go.Proofs.Ytjmnidcfgkdhcaa
