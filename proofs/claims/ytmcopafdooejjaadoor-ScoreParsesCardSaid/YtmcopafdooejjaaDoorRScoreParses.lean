/- The row of ScoreParses: out of its contract. Printed by a program of mine (rows.py). -/
import Derived.Test.YtmcopafdooejjaaDoorRows
import Derived.Test.YtmcopafdooejjaaDoorEi
import Derived.Test.YtmcopafdooejjaaDoorHo
import Derived.ProofKit
import Derived.LaidMore
import Derived.LaidHandle
import Derived.Lay
import Derived.MakeChecks
import Derived.Stop.Joined
import Derived.Test.YtmcopafdooejjaaDoorTie
import Derived.Test.YtmcopafdooejjaaDoorCards
import Derived.SevenTiedAt
namespace Go.Proofs.YtmcopafdooejjaaDoor
open Go.Eng Go.ChangeShapes Go.WideShapes Go.ChangeAt Go.RowKit
set_option linter.unusedVariables false
theorem own_ScoreParses : ownKnob Tryd.prog.godebug = none := by kernel_rfl
theorem laid_ScoreParses : laidOutB Tryd.prog = true := by kernel_rfl
theorem open_text {P : Program} {W : World} {r : Reach} {b0 : Nat} {t : Nat} {v : Value} (ht : P.underlying t = some .string) (hval : Value.okWide P W r b0 t v) : ∃ l, v = str l := by
  simp only [Value.okWide, ht, Cell.okWide] at hval
  cases v <;> simp_all [Cell.ok]
  exact ⟨_, str_data _⟩
theorem door_met (os : Os) (args : Array Value) : laidMetH Tryd.prog Rows.scoreParsesRow.laid ((World.laidAll Tryd.prog os Rows.scoreParsesRow.laid).forCall (fun _ _ => 0) ⟨#[], args, []⟩).memory := by
  rw [MakeChecks.laidMetH_plain _ _ _ (by kernel_rfl)]
  exact laidMet_laidAll _ (by kernel_rfl) (by kernel_rfl)
set_option maxRecDepth 100000 in
theorem scoreParses_lifted (os : Os) (started : os.Started) (H : Type) (enc : TypeId × Value → H) :
    ReturnsInHanded {} Tryd.checked os 3 .any (fun w args => (Rows.scoreParsesSpec.pre enc Tryd.prog Tryd.f3 [] false w args ∧ laidMetH Tryd.prog Rows.scoreParsesRow.laid w) ∧ sizedMet enc Tryd.prog Tryd.f3 (OpenSpec.ofChange Rows.scoreParsesSpec) false w args) (Rows.scoreParsesSpec.post enc Tryd.prog Tryd.f3 false true false false) := by
  refine returnsInHanded_of_change_and (C := Tryd.checked) (X := fun w _ => laidMetH Tryd.prog Rows.scoreParsesRow.laid w) (fun _ _ _ hh h => h.of_heap hh) own_ScoreParses started (by kernel_rfl) Tryd.func3
    (ChangeSpec.witness_shaped (enc := enc) (C := Tryd.checked) (os := os) (X := fun w _ => laidMetH Tryd.prog Rows.scoreParsesRow.laid w) false (World.laidAll Tryd.prog os Rows.scoreParsesRow.laid) #[.string ByteArray.empty] 8 (World.laidAll_os _ _ _) (World.shaped_of_ZipB (by kernel_rfl) (by kernel_rfl)) (by kernel_rfl) (by kernel_rfl) (by kernel_rfl) (door_met os _)) ?_
  intro W base args ds gs before hval0 hW _ _ _ _
  have hval : ∀ (j : Nat) t v, Tryd.f3.params[j]? = some t → args[j]? = some v → Value.okWide Tryd.prog W .any base t v := hval0
  have hW' := hW
  obtain ⟨p, q, hA0, hV, rfl, hfz, hnd⟩ := hW
  have hA : DataW.TrodAll enc Tryd.prog W 0 (fun _ => true) true Tryd.f3.params.toList args.toList ds p := hA0
  rw [Tryd.params3] at hA hval
  obtain ⟨v0, d0, rfl, rfl, h0⟩ := trodAll_one hA
  obtain ⟨rfl, rfl⟩ := trodVars_none hV
  obtain ⟨l0, rfl⟩ := open_text Tryd.underlying9 (hval 0 9 v0 rfl rfl)
  refine (row_calls (Ctr.of_nil (ScoreParses_ctr l0))).mono fun e W' ⟨he, hb⟩ => ?_
  subst he
  exact ⟨_, rfl, post_law (t := 4) laid_ScoreParses (by kernel_rfl) rfl hW' hb rfl rfl Tryd.underlying4⟩
theorem scoreParses_holds : Rows.ScoreParsesSaid :=
  OpenClaim.holds_of_wide 3 Tryd.f3 rfl rfl rfl rfl rfl rfl rfl ⟨rfl, rfl, rfl, rfl, rfl⟩ rfl rfl rfl rfl rfl (by kernel_rfl) Tryd.func3 (by kernel_rfl)
    (of_decide_eq_true (by kernel_rfl)) (by unfold Func.isWrapper; first | (rw [if_pos (by decide +kernel)]; kernel_rfl) | (rw [if_neg (by decide +kernel)]; exact ⟨rfl, rfl⟩))
    (fun os started H enc _ => scoreParses_lifted os started H enc)
theorem scoreParses_card : Rows.ScoreParsesCardSaid :=
  Claim7.holds_tied_plain_at .later [] [.data, .pinned] true (true, "51d5a5777120ff602786291be40f5e4958625a2a3e04b907b043ec2cbcacab71") false
    scoreParses_holds (fun _ h => by cases h) (by kernel_rfl) (fun _ h => by cases h) scoreParses_row_tie rfl ⟨rfl, rfl⟩ (by kernel_rfl) rfl
    (fun f fn hf hfn => by
      obtain rfl : f = 3 := Option.some.inj ((show Tryd.prog.funcNamed "psaltery/psalterylaw34.ScoreParses" = some 3 by kernel_rfl).symm.trans hf) |>.symm
      obtain rfl : fn = Tryd.f3 := (Option.some.inj (Tryd.func3.symm.trans hfn)).symm
      exact ⟨by kernel_rfl, fun j t ht => by
        rw [Tryd.params3] at ht
        have hm : t ∈ [9] := by simpa using Array.mem_of_getElem? ht
        have hall : ([9].all fun u => !Tryd.prog.wantsStandIn u) = true := by kernel_rfl
        exact (show Tryd.prog.wantsStandIn t = false by simpa using List.all_eq_true.1 hall t hm)⟩)
    (by kernel_rfl)
end Go.Proofs.YtmcopafdooejjaaDoor
