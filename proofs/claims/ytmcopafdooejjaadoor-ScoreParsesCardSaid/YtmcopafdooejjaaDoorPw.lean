/- Plain words of the layer 34: the kinds of lines. No condition. -/
import Derived.Test.YtmcopafdooejjaaDoorPv
namespace Go.Eng
set_option linter.unusedVariables false
set_option linter.unusedSimpArgs false
/-- Are the first m all so? -/
def allB (f : Nat → Bool) (m : Nat) : Bool := decide (∀ i, i < m → f i = true)
theorem allB_0 (f : Nat → Bool) : allB f 0 = true := decide_eq_true fun i h => by omega
theorem allB_step (f : Nat → Bool) (m : Nat) : allB f (m + 1) = (allB f m && f m) := by
  unfold allB
  cases h : f m with
  | true =>
    rw [Bool.and_true, decide_eq_decide]
    constructor
    · intro h1 k hk; exact h1 k (by omega)
    · intro h1 k hk
      rcases Nat.lt_succ_iff_lt_or_eq.1 hk with h2 | h2
      · exact h1 k h2
      · rw [h2]; exact h
  | false =>
    rw [Bool.and_false]
    exact decide_eq_false fun h1 => by have := h1 m (by omega); rw [h] at this; cases this
def smpF (V : List (List UInt8)) (i : Nat) : Bool := (sampleP (V.getD i [])).isSome
def smpL (V : List (List UInt8)) : List Int := (List.range V.length).map fun i => (sampleP (V.getD i [])).getD 0
theorem smpL_len (V : List (List UInt8)) : (smpL V).length = V.length := by simp [smpL]
theorem smpL_get {V : List (List UInt8)} {i : Nat} (h : i < V.length) : (smpL V).getD i 0 = (sampleP (V.getD i [])).getD 0 := by simp [smpL, h]
def sltF (V : List (List UInt8)) (i : Nat) : Bool := (slotP (V.getD i [])).isSome
def sltL (V : List (List UInt8)) : List SlotP := (List.range V.length).map fun i => (slotP (V.getD i [])).getD (0, 0, 0, 0)
theorem sltL_len (V : List (List UInt8)) : (sltL V).length = V.length := by simp [sltL]
theorem sltL_get {V : List (List UInt8)} {i : Nat} (h : i < V.length) : (sltL V).getD i (0, 0, 0, 0) = (slotP (V.getD i [])).getD (0, 0, 0, 0) := by simp [sltL, h]
theorem flag_step (f : Nat → Bool) (m : Nat) {b : Bool} (h : b = !f m) : (!allB f m || b) = !allB f (m + 1) := by rw [allB_step, h]; cases allB f m <;> cases f m <;> rfl
theorem drop_head {V : List (List UInt8)} (j : Nat) : (V.drop j).headD [] = V.getD j [] := by rw [headD_get]; simp
theorem drop_tail {V : List (List UInt8)} (j : Nat) : (V.drop j).tail = V.drop (j + 1) := by simp
theorem smp_get (w : List UInt8) : -32768 ≤ (sampleP w).getD 0 ∧ (sampleP w).getD 0 ≤ 32767 := by
  cases h : sampleP w with
  | none => simp
  | some n => exact sampleP_in h
section
variable {w0 : List UInt8} {V : List (List UInt8)}
theorem st_samples (h : w0 = samplesW) : stepsP (w0 :: V) = if allB (smpF V) V.length = true then some [⟨1, 0, smpL V, [], [], []⟩] else none := by
  unfold stepsP
  rw [if_pos (show (w0 :: V).headD [] = samplesW from h)]
  simp only [List.tail_cons, allB, decide_eq_true_eq]
  rfl
theorem st_tone (h1 : ¬ w0 = samplesW) (h : w0 = toneW) : stepsP (w0 :: V) = if numsOk V toneM ∧ num V toneM 2 ≠ 0 then some [⟨1, 0, toneL (num V toneM 0) (num V toneM 1) (num V toneM 2) (num V toneM 3).toNat, [], [], []⟩] else none := by
  unfold stepsP
  rw [if_neg (show ¬ (w0 :: V).headD [] = samplesW from h1), if_pos (show (w0 :: V).headD [] = toneW from h)]
  rfl
theorem st_call (h1 : ¬ w0 = samplesW) (h2 : ¬ w0 = toneW) (h : w0 = callW) : stepsP (w0 :: V) = if numsOk V [99] then some [⟨2, num V [99] 0, [], [], [], []⟩] else none := by
  unfold stepsP
  rw [if_neg (show ¬ (w0 :: V).headD [] = samplesW from h1), if_neg (show ¬ (w0 :: V).headD [] = toneW from h2), if_pos (show (w0 :: V).headD [] = callW from h)]
  rfl
theorem st_ends (h1 : ¬ w0 = samplesW) (h2 : ¬ w0 = toneW) (h3 : ¬ w0 = callW) (h : w0 = endsW) : stepsP (w0 :: V) = if V.length = 2 ∧ (hexP (V.getD 0 [])).isSome = true ∧ (hexP (V.getD 1 [])).isSome = true then some [⟨3, 0, [], (hexP (V.getD 0 [])).getD [], (hexP (V.getD 1 [])).getD [], []⟩] else none := by
  unfold stepsP
  rw [if_neg (show ¬ (w0 :: V).headD [] = samplesW from h1), if_neg (show ¬ (w0 :: V).headD [] = toneW from h2), if_neg (show ¬ (w0 :: V).headD [] = callW from h3), if_pos (show (w0 :: V).headD [] = endsW from h)]
  rfl
theorem st_interval (h1 : ¬ w0 = samplesW) (h2 : ¬ w0 = toneW) (h3 : ¬ w0 = callW) (h4 : ¬ w0 = endsW) (h : w0 = intervalW) : stepsP (w0 :: V) = if allB (sltF V) V.length = true then some [⟨4, 0, [], [], [], sltL V⟩] else none := by
  unfold stepsP
  rw [if_neg (show ¬ (w0 :: V).headD [] = samplesW from h1), if_neg (show ¬ (w0 :: V).headD [] = toneW from h2), if_neg (show ¬ (w0 :: V).headD [] = callW from h3), if_neg (show ¬ (w0 :: V).headD [] = endsW from h4), if_pos (show (w0 :: V).headD [] = intervalW from h)]
  simp only [List.tail_cons, allB, decide_eq_true_eq]
  rfl
theorem st_storm (h1 : ¬ w0 = samplesW) (h2 : ¬ w0 = toneW) (h3 : ¬ w0 = callW) (h4 : ¬ w0 = endsW) (h5 : ¬ w0 = intervalW) (h : w0 = stormW) : stepsP (w0 :: V) = if numsOk V stormM then some (stormP ⟨num V stormM 1, num V stormM 2, num V stormM 3, num V stormM 4⟩ (num V stormM 6).toNat (num V stormM 5).toNat (num V stormM 0, false)).2 else none := by
  unfold stepsP
  rw [if_neg (show ¬ (w0 :: V).headD [] = samplesW from h1), if_neg (show ¬ (w0 :: V).headD [] = toneW from h2), if_neg (show ¬ (w0 :: V).headD [] = callW from h3), if_neg (show ¬ (w0 :: V).headD [] = endsW from h4), if_neg (show ¬ (w0 :: V).headD [] = intervalW from h5), if_pos (show (w0 :: V).headD [] = stormW from h)]
  rfl
theorem st_none (h1 : ¬ w0 = samplesW) (h2 : ¬ w0 = toneW) (h3 : ¬ w0 = callW) (h4 : ¬ w0 = endsW) (h5 : ¬ w0 = intervalW) (h6 : ¬ w0 = stormW) : stepsP (w0 :: V) = none := by
  unfold stepsP
  rw [if_neg (show ¬ (w0 :: V).headD [] = samplesW from h1), if_neg (show ¬ (w0 :: V).headD [] = toneW from h2), if_neg (show ¬ (w0 :: V).headD [] = callW from h3), if_neg (show ¬ (w0 :: V).headD [] = endsW from h4), if_neg (show ¬ (w0 :: V).headD [] = intervalW from h5), if_neg (show ¬ (w0 :: V).headD [] = stormW from h6)]
end
theorem Res.iff {α : Type} {c : Prop} [Decidable c] {x l : α} {bad : Bool} {W : List (List UInt8)} (h1 : c → bad = false ∧ W = [] ∧ l = x) (h2 : ¬ c → bad = true ∨ W ≠ []) : Res (if c then some x else none) bad W l := by
  by_cases h : c
  · rw [if_pos h]; exact h1 h
  · rw [if_neg h]; exact h2 h
theorem callRes {V : List (List UInt8)} {n : Int} {f : Bool} (hn : (numP (V.headD []) 99).getD 0 = n) (hf : (numP (V.headD []) 99).isNone = f) : Res (if numsOk V [99] then some [(⟨2, num V [99] 0, [], [], [], []⟩ : StepP)] else none) f V.tail [⟨2, n, [], [], [], []⟩] := by
  have hok := numsF_ok [99] V
  have hdr : V.drop ([99] : List Int).length = V.tail := by simp
  rw [hdr] at hok
  simp only [numsF, Bool.or_false, hf] at hok
  refine Res.iff (fun h => ⟨(hok.1 h).1, (hok.1 h).2, ?_⟩) (fun h => ?_)
  · rw [num_get h (by decide), ← hn, headD_get]; rfl
  · cases f with
    | true => exact .inl rfl
    | false => exact .inr fun h2 => h (hok.2 ⟨rfl, h2⟩)
theorem endsRes {V : List (List UInt8)} {xs ys : List Int} (hx : ∀ z, hexP (V.headD []) = some z → xs = z) (hy : ∀ z, hexP (V.tail.headD []) = some z → ys = z) : Res (if V.length = 2 ∧ (hexP (V.getD 0 [])).isSome = true ∧ (hexP (V.getD 1 [])).isSome = true then some [(⟨3, 0, [], (hexP (V.getD 0 [])).getD [], (hexP (V.getD 1 [])).getD [], []⟩ : StepP)] else none)
    ((false || (hexP (V.headD [])).isNone) || (hexP (V.tail.headD [])).isNone) V.tail.tail [⟨3, 0, [], xs, ys, []⟩] := by
  have e0 : V.headD [] = V.getD 0 [] := headD_get V
  have e1 : V.tail.headD [] = V.getD 1 [] := by rw [headD_get, getD_tail]
  rw [e0] at hx ⊢
  rw [e1] at hy ⊢
  refine Res.iff (fun ⟨h1, h2, h3⟩ => ?_) (fun h => ?_)
  · obtain ⟨x, hx2⟩ := Option.isSome_iff_exists.1 h2
    obtain ⟨y, hy2⟩ := Option.isSome_iff_exists.1 h3
    rw [hx2, hy2]
    refine ⟨rfl, List.eq_nil_of_length_eq_zero (by simp [h1]), ?_⟩
    rw [hx x hx2, hy y hy2]; rfl
  · cases h2 : hexP (V.getD 0 []) with
    | none => left; rfl
    | some x =>
      cases h3 : hexP (V.getD 1 []) with
      | none => left; rfl
      | some y =>
        right
        intro h4
        have h5 : V.length ≤ 2 := by have := congrArg List.length h4; simp at this; omega
        refine h ⟨?_, by rw [h2]; rfl, by rw [h3]; rfl⟩
        rcases V with _ | ⟨_, _ | ⟨_, V⟩⟩
        · have : hexP [] = none := rfl
          simp at h2; rw [this] at h2; cases h2
        · have : hexP [] = none := rfl
          simp at h3; rw [this] at h3; cases h3
        · simp at h5; simp [h5]
theorem allRes {f : Nat → Bool} {V : List (List UInt8)} {s t : StepP} (h : allB f V.length = true → s = t) : Res (if allB f V.length = true then some [t] else none) (!allB f V.length) (V.drop V.length) [s] := by
  refine Res.iff (fun h1 => ⟨by rw [h1]; rfl, by simp, by rw [h h1]⟩) (fun h1 => .inl ?_)
  rw [Bool.not_eq_true] at h1; rw [h1]; rfl
theorem SRows.one {b : Nat} {Hi : Hp} {el : TypeId} {s : StepP} {vs va vb vl : Value} (k1 : Ints Hi vs .i16 s.samples) (k2 : Ints Hi va .u8 s.a) (k3 : Ints Hi vb .u8 s.b) (k4 : Rd Hi vl 4 s.slots.length (slotsC s.slots)) : SRows [(b, .cells (stepC s vs va vb vl).toArray el (0, 0))] Hi (.slice (some ⟨b, 0, none⟩) 1 1) el [s] :=
  ⟨stepC s vs va vb vl, Own.mk_ (n := 1) (cap := 1) (sz := 6) (Nat.le_refl _) (by decide) (by simp [stepC]) (by simp [stepC]), stepC_one k1 k2 k3 k4, stepAt_one k1 k2 k3 k4⟩
theorem Res.ifmap {α β : Type} {c : Prop} [Decidable c] {x l : α} {bad : Bool} {W : List (List UInt8)} (g : α → β) (h : Res (if c then some x else none) bad W l) : Res (if c then some (g x) else none) bad W (g l) := by
  by_cases hc : c
  · rw [if_pos hc] at h ⊢; obtain ⟨h1, h2, h3⟩ := h; exact ⟨h1, h2, by rw [h3]⟩
  · rw [if_neg hc] at h ⊢; exact h
theorem take_snoc {α : Type} {d : α} {xs : List α} {j : Nat} (h : j < xs.length) : xs.take j ++ [xs.getD j d] = xs.take (j + 1) := take_getG h
end Go.Eng
