/- Plain words of the layer 34: the weather's numbers. No condition. -/
import Derived.Test.YtmcopafdooejjaaDoorPt
namespace Go.Eng
set_option linter.unusedVariables false
set_option linter.unusedSimpArgs false
/-- The program's weather, in cells; the document's. -/
def wC (k : SkyP) (s : Int × Bool) : Array Value := #[.int .i64 k.cloud, .int .i64 k.clear, .int .i64 k.fair, .int .i64 k.foul, .int .u32 s.1, .bool s.2]
def rC (k : SkyP) (s : Int × Bool) : Array Value := #[.int .i64 k.cloud, .int .i64 k.clear, .int .i64 k.fair, .int .i64 k.foul, .int .u64 s.1, .bool (!s.2)]
def skyOk (k : SkyP) : Prop := (0 ≤ k.cloud ∧ k.cloud ≤ 65536) ∧ (0 ≤ k.clear ∧ k.clear ≤ 65536) ∧ (0 ≤ k.fair ∧ k.fair ≤ 65536) ∧ (0 ≤ k.foul ∧ k.foul ≤ 65536)
theorem turn_yes {k : SkyP} {x : Int} {f : Bool} (h : drawP x / 65536 < (if f then k.clear else k.cloud)) : turnP k (x, f) = !f := by unfold turnP; rw [if_pos h]
theorem turn_no {k : SkyP} {x : Int} {f : Bool} (h : ¬ drawP x / 65536 < (if f then k.clear else k.cloud)) : turnP k (x, f) = f := by unfold turnP; rw [if_neg h]
theorem lost_of {k : SkyP} {x : Int} {f g : Bool} (h : turnP k (x, f) = g) : lostP k (x, f) = ((drawP (drawP x), g), decide (drawP (drawP x) / 65536 < (if g then k.foul else k.fair))) := by
  unfold lostP; rw [h]
theorem slotsC_app (l : List SlotP) (s : SlotP) : slotsC (l ++ [s]) = slotsC l ++ slotC s := by simp [slotsC]
theorem slotsC_len : ∀ l : List SlotP, (slotsC l).length = l.length * 4
  | [] => rfl
  | s :: l => by rw [show slotsC (s :: l) = slotC s ++ slotsC l by simp [slotsC], List.length_append, slotsC_len l, List.length_cons]; simp [slotC]; omega
theorem draw_u32 {x : Int} (h : 0 ≤ x ∧ x ≤ 4294967295) : IntKind.u32.wrap (IntKind.u32.wrap (1664525 * x) + 1013904223) = drawP x := by
  have e : ∀ n : Int, IntKind.u32.wrap n = n % 4294967296 := fun n => by simp [IntKind.wrap, IntKind.bits, IntKind.signed]
  rw [e, e]; unfold drawP; omega
def skyC (k : SkyP) : Array Value := #[.int .i64 k.cloud, .int .i64 k.clear, .int .i64 k.fair, .int .i64 k.foul]
def skyL (k : SkyP) : List Int := [k.cloud, k.clear, k.fair, k.foul]
theorem skyL_in {k : SkyP} (h : skyOk k) (i : Nat) : 0 ≤ (skyL k).getD i 0 ∧ (skyL k).getD i 0 ≤ 65536 := by
  obtain ⟨h1, h2, h3, h4⟩ := h
  rcases i with _ | _ | _ | _ | i <;> simp [skyL] <;> omega
theorem rowP_step {k : SkyP} {m : Nat} {s a b : Int × Bool} {x y : Bool} (h0 : lostP k (rowP k m s).1 = (a, x)) (h1 : lostP k a = (b, y)) : (rowP k (m + 1) s).1 = b ∧ (rowP k (m + 1) s).2 = (rowP k m s).2 ++ [(bitP x, bitP y, 0, 0)] := by
  simp only [rowP, h0, h1, and_self]
theorem lostP_in1 {k : SkyP} {s a : Int × Bool} {x : Bool} (h : lostP k s = (a, x)) : 0 ≤ a.1 ∧ a.1 ≤ 4294967295 := by
  have := lostP_in k s; rw [h] at this; exact this
theorem bitP_in (b : Bool) : 0 ≤ bitP b ∧ bitP b ≤ 1 := by cases b <;> simp [bitP]
theorem draw_u64 {x : Int} (h : 0 ≤ x ∧ x ≤ 4294967295) : (x * 1664525 + 1013904223).tmod 4294967296 = drawP x := by
  unfold drawP; rw [Int.tmod_eq_emod_of_nonneg (by omega), Int.mul_comm]
theorem round15_in {n : Int} (h : -1073676289 ≤ n ∧ n ≤ 1073676289) : -32768 ≤ roundI n 15 ∧ roundI n 15 ≤ 32767 := by
  unfold roundI
  rw [show clampI 15 0 62 = 15 from rfl, if_neg (by decide), show ((15 : Int).toNat) = 15 from rfl]
  rw [show (2 : Int) ^ 15 = 32768 from rfl, show (2 : Int) ^ (15 - 1) = 16384 from rfl]
  omega
end Go.Eng
