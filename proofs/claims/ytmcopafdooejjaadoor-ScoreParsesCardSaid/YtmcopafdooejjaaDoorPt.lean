/- Plain words of the layer 34: steps of lines. No program in sight. No condition. -/
import Derived.Test.YtmcopafdooejjaaDoorPs
namespace Go.Eng
set_option linter.unusedVariables false
set_option linter.unusedSimpArgs false

/-- A digit of base 16. -/
def d16 (c : UInt8) : Option Int := if 48 ≤ c.toNat ∧ c.toNat ≤ 57 then some ((c.toNat : Int) - 48) else if 97 ≤ c.toNat ∧ c.toNat ≤ 102 then some ((c.toNat : Int) - 87) else none
def hexD : List UInt8 := [48, 49, 50, 51, 52, 53, 54, 55, 56, 57, 97, 98, 99, 100, 101, 102]
theorem d16_ix (c : UInt8) : Lib.indexByte hexD c = (d16 c).getD (-1) := by
  have key : ∀ n : Fin 256, Lib.indexByte hexD (UInt8.ofNat n.val) = (d16 (UInt8.ofNat n.val)).getD (-1) := by decide +kernel
  have := key ⟨c.toNat, u8_lt c⟩
  simpa using this
theorem d16_in {c : UInt8} {x : Int} (h : d16 c = some x) : 0 ≤ x ∧ x ≤ 15 := by
  unfold d16 at h
  split at h
  · obtain rfl := Option.some.inj h; omega
  · split at h
    · obtain rfl := Option.some.inj h; omega
    · cases h
theorem d16_get (c : UInt8) : 0 ≤ (d16 c).getD 0 ∧ (d16 c).getD 0 ≤ 15 := by
  cases h : d16 c with
  | none => simp
  | some x => exact d16_in h
theorem or16 {x y : Int} (hx : 0 ≤ x ∧ x ≤ 15) (hy : 0 ≤ y ∧ y ≤ 15) : bits .or .u8 (16 * x) y = 16 * x + y := by
  have key : ∀ a b : Fin 16, bits .or .u8 (16 * (a.val : Int)) (b.val : Int) = 16 * (a.val : Int) + b.val := by decide +kernel
  have := key ⟨x.toNat, by omega⟩ ⟨y.toNat, by omega⟩
  simpa [Int.toNat_of_nonneg hx.1, Int.toNat_of_nonneg hy.1] using this
def hexOk (w : List UInt8) : Prop := ∀ i, i < w.length → (d16 (w.getD i 0)).isSome = true
instance (w : List UInt8) : Decidable (hexOk w) := by unfold hexOk; infer_instance
def hexB (w : List UInt8) (i : Nat) : Int := 16 * (d16 (w.getD (2 * i) 0)).getD 0 + (d16 (w.getD (2 * i + 1) 0)).getD 0
def hexL (w : List UInt8) : List Int := (List.range (w.length / 2)).map (hexB w)
theorem hexL_len (w : List UInt8) : (hexL w).length = w.length / 2 := by simp [hexL]
theorem hexL_get {w : List UInt8} {i : Nat} (h : i < w.length / 2) : (hexL w).getD i 0 = hexB w i := by simp [hexL, h]
theorem hexB_in (w : List UInt8) (i : Nat) : 0 ≤ hexB w i ∧ hexB w i ≤ 255 := by
  have h1 := d16_get (w.getD (2 * i) 0)
  have h2 := d16_get (w.getD (2 * i + 1) 0)
  unfold hexB; omega
def hexP (w : List UInt8) : Option (List Int) := if w = [45] then some [] else if w = [] ∨ w.length % 2 = 1 ∨ ¬ hexOk w then none else some (hexL w)
/-- A slot: what becomes of the packet, of the ack, where, and with what. -/
abbrev SlotP := Int × Int × Int × Int
def slotM : List Int := [2147483647, 2147483647, 2147483647, 4294967295]
def slotW (W : List (List UInt8)) : SlotP := ((numP (W.getD 0 []) 2147483647).getD 0, (numP (W.getD 1 []) 2147483647).getD 0, (numP (W.getD 2 []) 2147483647).getD 0, (numP (W.getD 3 []) 4294967295).getD 0)
def slotP (w : List UInt8) : Option SlotP := if w = [46] then some (0, 0, 0, 0) else if w = [120] then some (1, 0, 0, 0) else if w = [97] then some (0, 1, 0, 0) else
  if numsOk (cutB 47 w) slotM then some (slotW (cutB 47 w)) else none
def slotC (s : SlotP) : List Value := [.int .i64 s.1, .int .i64 s.2.1, .int .i64 s.2.2.1, .int .u32 s.2.2.2]
def slotsC (l : List SlotP) : List Value := l.flatMap slotC
def sampleP (w : List UInt8) : Option Int := if w.head? = some 45 then (numP w.tail 32768).map (fun n => -n) else numP w 32767
theorem sampleP_in {w : List UInt8} {n : Int} (h : sampleP w = some n) : -32768 ≤ n ∧ n ≤ 32767 := by
  unfold sampleP at h
  split at h
  · cases hn : numP w.tail 32768 with
    | none => rw [hn] at h; cases h
    | some m =>
      rw [hn] at h
      have := numP_in hn
      simp only [Option.map_some] at h
      have := Option.some.inj h
      omega
  · have := numP_in h; omega
/-- A step. -/
structure StepP where
  kind : Int
  n : Int
  samples : List Int
  a : List Int
  b : List Int
  slots : List SlotP
/-- The weather. -/
structure SkyP where
  cloud : Int
  clear : Int
  fair : Int
  foul : Int
def drawP (x : Int) : Int := (1664525 * x + 1013904223) % 4294967296
theorem drawP_in (x : Int) : 0 ≤ drawP x ∧ drawP x ≤ 4294967295 := by unfold drawP; omega
def turnP (k : SkyP) (s : Int × Bool) : Bool := if drawP s.1 / 65536 < (if s.2 then k.clear else k.cloud) then !s.2 else s.2
def lostP (k : SkyP) (s : Int × Bool) : (Int × Bool) × Bool := ((drawP (drawP s.1), turnP k s), decide (drawP (drawP s.1) / 65536 < (if turnP k s then k.foul else k.fair)))
theorem lostP_in (k : SkyP) (s : Int × Bool) : 0 ≤ (lostP k s).1.1 ∧ (lostP k s).1.1 ≤ 4294967295 := drawP_in _
def bitP (b : Bool) : Int := if b then 1 else 0
def rowP (k : SkyP) : Nat → Int × Bool → (Int × Bool) × List SlotP
  | 0, s => (s, [])
  | m + 1, s => ((lostP k (lostP k (rowP k m s).1).1).1, (rowP k m s).2 ++ [(bitP (lostP k (rowP k m s).1).2, bitP (lostP k (lostP k (rowP k m s).1).1).2, 0, 0)])
theorem rowP_len (k : SkyP) (s : Int × Bool) : ∀ m, (rowP k m s).2.length = m
  | 0 => rfl
  | m + 1 => by simp [rowP, rowP_len k s m]
theorem rowP_in (k : SkyP) {s : Int × Bool} (hs : 0 ≤ s.1 ∧ s.1 ≤ 4294967295) : ∀ m, 0 ≤ (rowP k m s).1.1 ∧ (rowP k m s).1.1 ≤ 4294967295
  | 0 => hs
  | m + 1 => lostP_in _ _
def stormP (k : SkyP) (slots : Nat) : Nat → Int × Bool → (Int × Bool) × List StepP
  | 0, s => (s, [])
  | m + 1, s => ((rowP k slots (stormP k slots m s).1).1, (stormP k slots m s).2 ++ [⟨4, 0, [], [], [], (rowP k slots (stormP k slots m s).1).2⟩])
theorem stormP_len (k : SkyP) (q : Nat) (s : Int × Bool) : ∀ m, (stormP k q m s).2.length = m
  | 0 => rfl
  | m + 1 => by simp [stormP, stormP_len k q s m]
theorem stormP_in (k : SkyP) (q : Nat) {s : Int × Bool} (hs : 0 ≤ s.1 ∧ s.1 ≤ 4294967295) : ∀ m, 0 ≤ (stormP k q m s).1.1 ∧ (stormP k q m s).1.1 ≤ 4294967295
  | 0 => hs
  | m + 1 => rowP_in _ (stormP_in k q hs m) _
/-- A tone's samples. -/
def toneI (a n d : Int) (i : Nat) : Int := clampI (roundI (a * sinI (i * n) d) 15) (-2147483648) 2147483647
def toneL (a n d : Int) (c : Nat) : List Int := (List.range c).map (toneI a n d)
theorem toneL_len (a n d : Int) (c : Nat) : (toneL a n d c).length = c := by simp [toneL]
theorem toneL_get {a n d : Int} {c i : Nat} (h : i < c) : (toneL a n d c).getD i 0 = toneI a n d i := by simp [toneL, h]
def samplesW : List UInt8 := [115, 97, 109, 112, 108, 101, 115]
def toneW : List UInt8 := [116, 111, 110, 101]
def callW : List UInt8 := [99, 97, 108, 108]
def endsW : List UInt8 := [101, 110, 100, 115]
def intervalW : List UInt8 := [105, 110, 116, 101, 114, 118, 97, 108]
def stormW : List UInt8 := [115, 116, 111, 114, 109]
def toneM : List Int := [32767, 65535, 65535, 4096]
def stormM : List Int := [4294967295, 65536, 65536, 65536, 65536, 64, 16]
def num (W : List (List UInt8)) (M : List Int) (i : Nat) : Int := (numsL W M).getD i 0
/-- What a line's words say. -/
def stepsP (W : List (List UInt8)) : Option (List StepP) :=
  if W.headD [] = samplesW then (if ∀ i, i < W.tail.length → (sampleP (W.tail.getD i [])).isSome = true then some [⟨1, 0, (List.range W.tail.length).map fun i => (sampleP (W.tail.getD i [])).getD 0, [], [], []⟩] else none)
  else if W.headD [] = toneW then (if numsOk W.tail toneM ∧ num W.tail toneM 2 ≠ 0 then some [⟨1, 0, toneL (num W.tail toneM 0) (num W.tail toneM 1) (num W.tail toneM 2) (num W.tail toneM 3).toNat, [], [], []⟩] else none)
  else if W.headD [] = callW then (if numsOk W.tail [99] then some [⟨2, num W.tail [99] 0, [], [], [], []⟩] else none)
  else if W.headD [] = endsW then (if W.tail.length = 2 ∧ (hexP (W.tail.getD 0 [])).isSome = true ∧ (hexP (W.tail.getD 1 [])).isSome = true then some [⟨3, 0, [], (hexP (W.tail.getD 0 [])).getD [], (hexP (W.tail.getD 1 [])).getD [], []⟩] else none)
  else if W.headD [] = intervalW then (if ∀ i, i < W.tail.length → (slotP (W.tail.getD i [])).isSome = true then some [⟨4, 0, [], [], [], (List.range W.tail.length).map fun i => (slotP (W.tail.getD i [])).getD (0, 0, 0, 0)⟩] else none)
  else if W.headD [] = stormW then (if numsOk W.tail stormM then some (stormP ⟨num W.tail stormM 1, num W.tail stormM 2, num W.tail stormM 3, num W.tail stormM 4⟩ (num W.tail stormM 6).toNat (num W.tail stormM 5).toNat (num W.tail stormM 0, false)).2 else none)
  else none
def lineS (l : List UInt8) : Option (List StepP) := stepsP (cutB 32 l)
/-- What lines say: their steps, or the line that says nothing. -/
def parseL : Nat → List StepP → List (List UInt8) → Option (List StepP) × Int
  | _, out, [] => (some out, 0)
  | at_, out, [w] => if w = [] then (some out, 0) else (none, at_)
  | at_, out, w :: v :: ws => if w = [] ∨ w.getD 0 0 = 35 then parseL (at_ + 1) out (v :: ws) else match lineS w with
    | none => (none, at_)
    | some l => if 4096 < (out ++ l).length then (none, at_) else parseL (at_ + 1) (out ++ l) (v :: ws)

theorem cut_hit {c : UInt8} {l : List UInt8} {i f : Nat} {O : List (List UInt8)} (hi : i < l.length) (hb : l.getD i 0 = c) (h : cutB c l = O ++ consW ((l.take i).drop f) (cutB c (l.drop i))) :
    cutB c l = (O ++ [(l.take i).drop f]) ++ consW ((l.take (i + 1)).drop (i + 1)) (cutB c (l.drop (i + 1))) := by
  have e : l.drop i = c :: l.drop (i + 1) := by rw [List.drop_eq_getElem_cons hi, ← hb]; simp [hi]
  have e2 : (l.take (i + 1)).drop (i + 1) = [] := List.drop_of_length_le (by rw [List.length_take]; omega)
  rw [h, e, cutB_at, e2, consW_nil (cutB_ne c (l.drop (i + 1)))]
  simp [consW]
theorem cut_miss {c : UInt8} {l : List UInt8} {i f : Nat} {O : List (List UInt8)} (hi : i < l.length) (hf : f ≤ i) (hb : l.getD i 0 ≠ c) (h : cutB c l = O ++ consW ((l.take i).drop f) (cutB c (l.drop i))) :
    cutB c l = O ++ consW ((l.take (i + 1)).drop f) (cutB c (l.drop (i + 1))) := by
  have e : l.drop i = l.getD i 0 :: l.drop (i + 1) := by rw [List.drop_eq_getElem_cons hi]; simp [hi]
  rw [e, cutB_other hb, ← consW_app _ _ (cutB_ne c _)] at h
  rw [h, ← take_getG (d := 0) hi, List.drop_append_of_le_length (by rw [List.length_take]; omega)]
theorem cut_done {c : UInt8} {l : List UInt8} {f : Nat} {O : List (List UInt8)} (h : cutB c l = O ++ consW ((l.take l.length).drop f) (cutB c (l.drop l.length))) : cutB c l = O ++ [l.drop f] := by
  rw [List.take_length, List.drop_length] at h
  simpa [cutB, consW] using h
def hexN (w : List UInt8) (h q : Nat) : Int := if q = 0 then 0 else if q = 1 then (d16 (w.getD (2 * h) 0)).getD 0 else hexB w h
theorem hexN_step {w : List UInt8} {h q : Nat} (hq : q < 2) : hexN w h (q + 1) = 16 * hexN w h q + (d16 (w.getD (2 * h + q) 0)).getD 0 := by
  rcases (show q = 0 ∨ q = 1 by omega) with rfl | rfl
  · simp [hexN]
  · simp [hexN, hexB]
theorem hexN_in (w : List UInt8) (h q : Nat) : 0 ≤ hexN w h q ∧ hexN w h q ≤ 255 := by
  unfold hexN
  have h1 := hexB_in w h
  have h2 := d16_get (w.getD (2 * h) 0)
  split
  · omega
  · split <;> omega
theorem d16_lo {c : UInt8} (h : 48 ≤ c.toNat ∧ c.toNat ≤ 57) : d16 c = some ((c.toNat : Int) - 48) := by unfold d16; rw [if_pos h]
theorem d16_hi {c : UInt8} (h : ¬ (48 ≤ c.toNat ∧ c.toNat ≤ 57)) (h2 : 97 ≤ c.toNat ∧ c.toNat ≤ 102) : d16 c = some ((c.toNat : Int) - 87) := by unfold d16; rw [if_neg h, if_pos h2]
theorem d16_no {c : UInt8} (h : ¬ (48 ≤ c.toNat ∧ c.toNat ≤ 57)) (h2 : ¬ (97 ≤ c.toNat ∧ c.toNat ≤ 102)) : d16 c = none := by unfold d16; rw [if_neg h, if_neg h2]
theorem hexP_dash : hexP [45] = some [] := rfl
theorem hexP_bad {w : List UInt8} (h1 : ¬ (w = [45])) (h2 : w = [] ∨ w.length % 2 = 1) : hexP w = none := by
  unfold hexP; rw [if_neg h1, if_pos]; rcases h2 with h | h
  · exact .inl h
  · exact .inr (.inl h)
theorem hexP_no {w : List UInt8} (h1 : ¬ (w = [45])) (h2 : ¬ hexOk w) : hexP w = none := by
  unfold hexP; rw [if_neg h1, if_pos (.inr (.inr h2))]
theorem hexP_yes {w : List UInt8} (h1 : ¬ (w = [45])) (h2 : ¬ (w = [] ∨ w.length % 2 = 1)) (h3 : hexOk w) : hexP w = some (hexL w) := by
  unfold hexP; rw [if_neg h1, if_neg]; rintro (h | h | h)
  · exact h2 (.inl h)
  · exact h2 (.inr h)
  · exact h h3

theorem flag_word (bad : Bool) (W : List (List UInt8)) (m : Int) : ((bad || W.isEmpty) || (numP (W.headD []) m).isNone) = (bad || (numP (W.headD []) m).isNone) := by
  cases W with
  | nil => rw [show (([] : List (List UInt8)).headD []) = [] from rfl, numP_empty]; cases bad <;> rfl
  | cons w ws => cases bad <;> rfl
theorem flag_tail {W : List (List UInt8)} {c : UInt8} (h : (W.headD []).head? = some c) (bad : Bool) : (bad || W.isEmpty) = bad := by
  cases W with
  | nil => cases h
  | cons w ws => cases bad <;> rfl
theorem sampleP_neg {w : List UInt8} (h : w.head? = some 45) : (sampleP w).isNone = (numP w.tail 32768).isNone ∧ (sampleP w).getD 0 = -(numP w.tail 32768).getD 0 := by
  unfold sampleP
  rw [if_pos h]
  cases numP w.tail 32768 <;> simp
theorem sampleP_pos {w : List UInt8} (h : ¬ w.head? = some 45) : sampleP w = numP w 32767 := by unfold sampleP; rw [if_neg h]
theorem numP_get (w : List UInt8) {m : Int} (hm : 0 ≤ m) : 0 ≤ (numP w m).getD 0 ∧ (numP w m).getD 0 ≤ m := by
  cases h : numP w m with
  | none => simpa using hm
  | some n => exact numP_in h
def hexF (w : List UInt8) (m : Nat) : Bool := decide (∀ k, k < m → (d16 (w.getD k 0)).isSome = true)
theorem hexF_0 (w : List UInt8) : hexF w 0 = true := by simp [hexF]
theorem hexF_step (w : List UInt8) (m : Nat) : hexF w (m + 1) = (hexF w m && (d16 (w.getD m 0)).isSome) := by
  unfold hexF
  by_cases h : (d16 (w.getD m 0)).isSome = true
  · rw [h, Bool.and_true, decide_eq_decide]
    constructor
    · intro h1 k hk; exact h1 k (by omega)
    · intro h1 k hk
      rcases Nat.lt_succ_iff_lt_or_eq.1 hk with h2 | h2
      · exact h1 k h2
      · rw [h2]; exact h
  · rw [Bool.not_eq_true] at h
    rw [h, Bool.and_false]
    exact decide_eq_false fun h1 => by have := h1 m (by omega); rw [h] at this; cases this
theorem hexF_ok (w : List UInt8) : hexF w w.length = decide (hexOk w) := rfl
theorem isNone_not {α : Type} (o : Option α) : o.isNone = !o.isSome := by cases o <;> rfl
theorem hexflagA (bad : Bool) (w : List UInt8) (h : Nat) : (((bad || !hexF w (2 * h)) || (d16 (w.getD (2 * h) 0)).isNone) || (d16 (w.getD (2 * h + 1) 0)).isNone) = (bad || !hexF w (2 * (h + 1))) := by
  rw [show 2 * (h + 1) = 2 * h + 1 + 1 by omega, hexF_step, hexF_step, isNone_not, isNone_not]
  cases bad <;> cases hexF w (2 * h) <;> cases (d16 (w.getD (2 * h) 0)).isSome <;> cases (d16 (w.getD (2 * h + 1) 0)).isSome <;> rfl
theorem hexflagB (bad : Bool) (w : List UInt8) (h : Nat) : (((bad || !hexF w (2 * h)) || (d16 (w.getD (2 * h + 1) 0)).isNone) || (d16 (w.getD (2 * h) 0)).isNone) = (bad || !hexF w (2 * (h + 1))) := by
  rw [← hexflagA, Bool.or_assoc, Bool.or_comm (d16 (w.getD (2 * h + 1) 0)).isNone, ← Bool.or_assoc]

theorem Ints.block {b : Nat} {k : IntKind} {xs : List Int} {T : TypeId} {fr : Nat × Nat} (h : xs.length ≤ 1000000) : Ints [(b, .cells (ints k xs) T fr)] (.slice (some ⟨b, 0, none⟩) xs.length xs.length) k xs :=
  ⟨by simp, by omega, _, _, rfl, Nat.le_refl _, fun _ => ⟨b, 0, _, T, fr, rfl, List.mem_cons_self .., fun j u hj => by simpa [ints] using hj⟩⟩
theorem slotP_dot : slotP [46] = some (0, 0, 0, 0) := rfl
theorem slotP_x : slotP [120] = some (1, 0, 0, 0) := rfl
theorem slotP_a : slotP [97] = some (0, 1, 0, 0) := rfl
theorem slotP_else {w : List UInt8} (h1 : ¬ w = [46]) (h2 : ¬ w = [120]) (h3 : ¬ w = [97]) : slotP w = if numsOk (cutB 47 w) slotM then some (slotW (cutB 47 w)) else none := by
  unfold slotP; rw [if_neg h1, if_neg h2, if_neg h3]
theorem nums4 {L : List (List UInt8)} (hl : L.length = 4) : decide (numsOk L slotM) = ((numP (L.getD 0 []) 2147483647).isSome && (numP (L.getD 1 []) 2147483647).isSome && (numP (L.getD 2 []) 2147483647).isSome && (numP (L.getD 3 []) 4294967295).isSome) := by
  rw [Bool.eq_iff_iff]
  simp only [decide_eq_true_eq, Bool.and_eq_true]
  unfold numsOk
  rw [hl]
  constructor
  · rintro ⟨_, h⟩; exact ⟨⟨⟨h 0 (by omega), h 1 (by omega)⟩, h 2 (by omega)⟩, h 3 (by omega)⟩
  · rintro ⟨⟨⟨h0, h1⟩, h2⟩, h3⟩
    refine ⟨rfl, fun i hi => ?_⟩
    rcases (show i = 0 ∨ i = 1 ∨ i = 2 ∨ i = 3 by omega) with rfl | rfl | rfl | rfl
    · exact h0
    · exact h1
    · exact h2
    · exact h3
theorem slotflag {w : List UInt8} (h1 : ¬ w = [46]) (h2 : ¬ w = [120]) (h3 : ¬ w = [97]) (hl : (cutB 47 w).length = 4) (bad : Bool) :
    ((((bad || (numP ((cutB 47 w).getD 0 []) 2147483647).isNone) || (numP ((cutB 47 w).getD 1 []) 2147483647).isNone) || (numP ((cutB 47 w).getD 2 []) 2147483647).isNone) || (numP ((cutB 47 w).getD 3 []) 4294967295).isNone) = (bad || (slotP w).isNone) := by
  have e : (slotP w).isNone = !decide (numsOk (cutB 47 w) slotM) := by
    rw [slotP_else h1 h2 h3]
    by_cases h : numsOk (cutB 47 w) slotM
    · rw [if_pos h, decide_eq_true h]; rfl
    · rw [if_neg h, decide_eq_false h]; rfl
  rw [e, nums4 hl]
  simp only [isNone_not]
  cases bad <;> cases (numP ((cutB 47 w).getD 0 []) 2147483647).isSome <;> cases (numP ((cutB 47 w).getD 1 []) 2147483647).isSome <;> cases (numP ((cutB 47 w).getD 2 []) 2147483647).isSome <;> cases (numP ((cutB 47 w).getD 3 []) 4294967295).isSome <;> rfl
theorem slotP_four {w : List UInt8} (h1 : ¬ w = [46]) (h2 : ¬ w = [120]) (h3 : ¬ w = [97]) {s : SlotP} (h : slotP w = some s) : slotW (cutB 47 w) = s := by
  rw [slotP_else h1 h2 h3] at h
  split at h
  · exact Option.some.inj h
  · cases h
theorem slotP_not4 {w : List UInt8} (h1 : ¬ w = [46]) (h2 : ¬ w = [120]) (h3 : ¬ w = [97]) (hl : ¬ (cutB 47 w).length = 4) : slotP w = none := by
  rw [slotP_else h1 h2 h3, if_neg (fun h => hl h.1)]
theorem W_four {W : List (List UInt8)} (hl : (cutB 47 (W.headD [])).length = 4) (bad : Bool) : (bad || W.isEmpty) = bad := by
  cases W with
  | nil => simp [cutB] at hl
  | cons a t => cases bad <;> rfl
theorem W_head {W : List (List UInt8)} {w : List UInt8} (h : W.headD [] = w) (hw : w ≠ []) (bad : Bool) : (bad || W.isEmpty) = bad := by
  cases W with
  | nil => exact absurd h.symm hw
  | cons a t => cases bad <;> rfl

theorem Own.blk1 {H : Hp} {v : Value} {el : TypeId} {n : Nat} {cs : List Value} (h : Own H v el 1 n cs) (hp : 0 < n) : ∃ b cap cur, v = .slice (some ⟨b, 0, none⟩) n cap ∧ H = [(b, .cells cur el (0, 0))] ∧ n ≤ cap ∧ ∀ (j : Nat) (u : Value), cs[j]? = some u → cur[j]? = some u := by
  obtain ⟨h0, h⟩ := h
  rcases h with ⟨_, h1, _⟩ | ⟨b, cap, cur, rfl, rfl, h1, h2, h3, h4⟩
  · omega
  · refine ⟨b, cap, cur, rfl, rfl, h1, fun j u hj => ?_⟩
    rw [← h4, List.getElem?_take] at hj
    split at hj
    · simpa using hj
    · cases hj
end Go.Eng
