/- The row of LappedUnlaps: out of its contract. Printed by a program of mine (rows.py). -/
import Derived.Test.YtjmnidcfgkdhcaaRows
import Derived.Test.YtjmnidcfgkdhcaaEi
import Derived.Test.YtjmnidcfgkdhcaaGe
namespace Go.Proofs.Ytjmnidcfgkdhcaa
open Go.Eng Go.ChangeShapes Go.WideShapes Go.ChangeAt Go.RowKit
set_option linter.unusedVariables false
theorem wf_u8 {n : Int} (h : (Lit.int .u8 n).wf = true) : 0 ≤ n ∧ n ≤ 255 := by
  simp [Lit.wf, IntKind.min, IntKind.max, IntKind.signed, IntKind.bits] at h
  omega
theorem own_LappedUnlaps : ownKnob Try.prog.godebug = none := by kernel_rfl
theorem laid_LappedUnlaps : laidOutB Try.prog = true := by kernel_rfl
set_option maxRecDepth 100000 in
theorem lappedUnlaps_lifted (os : Os) (started : os.Started) (H : Type) (enc : TypeId × Value → H) :
    ReturnsInHanded {} Try.checked os 10 .any (Rows.lappedUnlapsSpec.pre6 enc Try.prog Try.f10 Rows.lappedUnlapsRow.domain false) (Rows.lappedUnlapsSpec.post enc Try.prog Try.f10 false true false false) := by
  refine returnsInHanded_of_change (C := Try.checked) own_LappedUnlaps started (by kernel_rfl) Try.func10
    (ChangeSpec.witness6 (enc := enc) (C := Try.checked) false ⟨#[], #[.int .u8 0, .slice none 0 0], []⟩ 8 (by kernel_rfl) (by kernel_rfl) (by kernel_rfl) (by kernel_rfl)) ?_
  intro W base args ds gs before hval0 hW hcnd _
  have hval : ∀ (j : Nat) t v, Try.f10.params[j]? = some t → args[j]? = some v → Value.okWide Try.prog W .any base t v := hval0
  have hW' := hW
  obtain ⟨p, q, hA0, hV, rfl, hfz, hnd⟩ := hW
  have hA : DataW.TrodAll enc Try.prog W 0 (fun _ => true) true Try.f10.params.toList args.toList ds p := hA0
  rw [Try.params10] at hA hval
  obtain ⟨v0, v1, d0, d1, p0, p1, rfl, rfl, rfl, h0, h1⟩ := trodAll_two hA
  obtain ⟨rfl, rfl⟩ := trodVars_none hV
  obtain ⟨a0, rfl, wa0⟩ := open_int' (k := .u8) (by kernel_rfl) (hval 0 5 v0 rfl rfl) h0
  have ra0 := wf_u8 wa0
  obtain ⟨a1, hr1, hl1, hw1⟩ := open_ints' (e := 21) (k := .i32) (by kernel_rfl) (by kernel_rfl) (by kernel_rfl) (hval 1 43 v1 rfl rfl) h1
  refine (row_calls (LappedUnlaps_ctr a0 ra0 hr1 hw1)).mono fun e W' ⟨he, hb⟩ => ?_
  subst he
  exact ⟨_, rfl, post_law (t := 4) laid_LappedUnlaps (by kernel_rfl) rfl hW' hb rfl rfl Try.underlying4⟩
theorem lappedUnlaps_holds : Rows.LappedUnlapsSaid :=
  OpenClaim.holds_of_wide 10 Try.f10 rfl rfl rfl rfl rfl rfl rfl ⟨rfl, rfl, rfl, rfl, rfl⟩ rfl rfl rfl rfl rfl (by kernel_rfl) Try.func10 (by kernel_rfl)
    (of_decide_eq_true (by kernel_rfl)) (by unfold Func.isWrapper; first | (rw [if_pos (by decide +kernel)]; kernel_rfl) | (rw [if_neg (by decide +kernel)]; exact ⟨rfl, rfl⟩))
    (fun os started H enc _ => lappedUnlaps_lifted os started H enc)
end Go.Proofs.Ytjmnidcfgkdhcaa
