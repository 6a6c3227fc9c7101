/- Plain words of the layer 34: what a reader's flag says; rows of steps. No condition. -/
import Derived.Test.YtmcopafdooejjaaDoorPu
import Derived.Test.YtmcopafdooejjaaDoorEm
namespace Go.Eng
set_option linter.unusedVariables false
set_option linter.unusedSimpArgs false
theorem getD_tail (W : List (List UInt8)) (i : Nat) : W.tail.getD i [] = W.getD (i + 1) [] := by cases W <;> simp
theorem hd_len {W : List (List UInt8)} {B : Nat} (h : ∀ w ∈ W, w.length ≤ B) : (W.headD []).length ≤ B := by
  cases W with
  | nil => simp
  | cons w ws => exact h w (List.mem_cons_self ..)
theorem tl_len {W : List (List UInt8)} {B : Nat} (h : ∀ w ∈ W, w.length ≤ B) : ∀ w ∈ W.tail, w.length ≤ B := fun w hw => h w (List.mem_of_mem_tail hw)
/-- Is a number none of these? -/
def numsF : List (List UInt8) → List Int → Bool
  | _, [] => false
  | W, m :: M => (numP (W.headD []) m).isNone || numsF W.tail M
theorem numsOk_cons (w : List UInt8) (W : List (List UInt8)) (m : Int) (M : List Int) : numsOk (w :: W) (m :: M) ↔ (numP w m).isSome = true ∧ numsOk W M := by
  unfold numsOk
  simp only [List.length_cons]
  constructor
  · rintro ⟨h1, h2⟩
    exact ⟨by have := h2 0 (by omega); simpa using this, by omega, fun i hi => by have := h2 (i + 1) (by omega); simpa using this⟩
  · rintro ⟨h1, h2, h3⟩
    refine ⟨by omega, fun i hi => ?_⟩
    cases i with
    | zero => simpa using h1
    | succ i => have := h3 i (by omega); simpa using this
theorem numsF_ok : ∀ (M : List Int) (W : List (List UInt8)), numsOk W M ↔ (numsF W M = false ∧ W.drop M.length = [])
  | [], W => by
    unfold numsOk numsF
    simp only [List.length_nil, List.drop_zero, List.length_eq_zero_iff]
    constructor
    · rintro ⟨h, _⟩; exact ⟨trivial, h⟩
    · rintro ⟨_, h⟩; exact ⟨h, fun i hi => by rw [h] at hi; simp at hi⟩
  | m :: M, [] => by
    simp only [numsF, List.headD_nil, numP_empty, Option.isNone_none, Bool.true_or, Bool.true_eq_false, false_and, iff_false]
    rintro ⟨h, _⟩; simp at h
  | m :: M, w :: W => by
    rw [numsOk_cons, numsF_ok M W]
    simp only [numsF, List.headD_cons, List.tail_cons, List.length_cons, List.drop_succ_cons, Bool.or_eq_false_iff, isNone_not, Bool.not_eq_false', and_assoc]
theorem num_get {W : List (List UInt8)} {M : List Int} (h : numsOk W M) {i : Nat} (hi : i < M.length) : num W M i = (numP (W.getD i []) (M.getD i 0)).getD 0 := numsL_get (by have := h.1; omega)
/-- What is read, or that it is nothing. -/
def Res {α : Type} (o : Option α) (bad : Bool) (W : List (List UInt8)) (l : α) : Prop := match o with
  | some x => bad = false ∧ W = [] ∧ l = x
  | none => bad = true ∨ W ≠ []
theorem Res.yes {α : Type} {o : Option α} {l : α} {bad : Bool} {W : List (List UInt8)} (h : o = some l) (hb : bad = false) (hW : W = []) : Res o bad W l := by rw [h]; exact ⟨hb, hW, rfl⟩
theorem Res.no {α : Type} {o : Option α} {l : α} {bad : Bool} {W : List (List UInt8)} (h : o = none) (hb : bad = true ∨ W ≠ []) : Res o bad W l := by rw [h]; exact hb
theorem Res.bad {α : Type} {o : Option α} {l : α} {W : List (List UInt8)} (h : o = none) : Res o true W l := by rw [h]; exact .inl rfl
/-- A step in a row of cells. -/
def StepAt (A : Hp) (cs : List Value) (i : Nat) (s : StepP) : Prop := ∃ vs va vb vl, (cs[i * 6]? = some (.int .i64 s.kind) ∧ cs[i * 6 + 1]? = some (.int .i64 s.n) ∧ cs[i * 6 + 2]? = some vs ∧ cs[i * 6 + 3]? = some va ∧ cs[i * 6 + 4]? = some vb ∧ cs[i * 6 + 5]? = some vl) ∧
  Ints A vs .i16 s.samples ∧ Ints A va .u8 s.a ∧ Ints A vb .u8 s.b ∧ Rd A vl 4 s.slots.length (slotsC s.slots)
theorem StepAt.more {A B : Hp} {cs : List Value} {i : Nat} {s : StepP} (h : StepAt A cs i s) (hs : ∀ x ∈ A, x ∈ B) : StepAt B cs i s := by
  obtain ⟨vs, va, vb, vl, h0, h1, h2, h3, h4⟩ := h
  exact ⟨vs, va, vb, vl, h0, h1.more hs, h2.more hs, h3.more hs, h4.more hs⟩
def SRows (Ho Hi : Hp) (v : Value) (el : TypeId) (L : List StepP) : Prop := ∃ cs, Own Ho v el 6 L.length cs ∧ (cs.all Value.oneCell') = true ∧ ∀ i s, L[i]? = some s → StepAt Hi cs i s
theorem SRows.nil (el : TypeId) : SRows [] [] (.slice none 0 0) el [] := ⟨[], Own.nil el 6, rfl, fun i s h => by simp at h⟩
theorem StepAt.left {A : Hp} {cs ds : List Value} {i : Nat} {s : StepP} (h : StepAt A cs i s) : StepAt A (cs ++ ds) i s := by
  obtain ⟨vs, va, vb, vl, ⟨h0, h1, h2, h3, h4, h5⟩, h6⟩ := h
  have key : ∀ {j : Nat} {u : Value}, cs[j]? = some u → (cs ++ ds)[j]? = some u := fun {j u} hj => by
    rw [List.getElem?_append_left (List.getElem?_eq_some_iff.1 hj).1]; exact hj
  exact ⟨vs, va, vb, vl, ⟨key h0, key h1, key h2, key h3, key h4, key h5⟩, h6⟩
theorem StepAt.right {A : Hp} {cs ds : List Value} {m i : Nat} {s : StepP} (hl : cs.length = m * 6) (h : StepAt A ds i s) : StepAt A (cs ++ ds) (m + i) s := by
  obtain ⟨vs, va, vb, vl, ⟨h0, h1, h2, h3, h4, h5⟩, h6⟩ := h
  have key : ∀ {j j' : Nat} {u : Value}, ds[j]? = some u → j' = m * 6 + j → (cs ++ ds)[j']? = some u := fun {j j' u} hj he => by
    rw [he, List.getElem?_append_right (by omega), hl, Nat.add_sub_cancel_left]; exact hj
  exact ⟨vs, va, vb, vl, ⟨key h0 (by omega), key h1 (by omega), key h2 (by omega), key h3 (by omega), key h4 (by omega), key h5 (by omega)⟩, h6⟩
theorem SRows.app {Ho' Hi Hj : Hp} {v' : Value} {el : TypeId} {L M : List StepP} {cs ds : List Value} (hc : cs.length = L.length * 6) (hO : Own Ho' v' el 6 (L.length + M.length) (cs ++ ds)) (h1 : (cs.all Value.oneCell') = true) (h2 : (ds.all Value.oneCell') = true) (hL : ∀ i s, L[i]? = some s → StepAt Hi cs i s) (hM : ∀ i s, M[i]? = some s → StepAt Hj ds i s) : SRows Ho' (Hj ++ Hi) v' el (L ++ M) := by
  refine ⟨cs ++ ds, by rw [List.length_append]; exact hO, by rw [List.all_append, h1, h2]; rfl, fun i s hs => ?_⟩
  rcases Nat.lt_or_ge i L.length with h | h
  · rw [List.getElem?_append_left h] at hs
    exact ((hL i s hs).more (fun x hx => List.mem_append.2 (.inr hx))).left
  · rw [List.getElem?_append_right h] at hs
    have := ((hM _ s hs).more (B := Hj ++ Hi) (fun x hx => List.mem_append.2 (.inl hx))).right (cs := cs) hc
    rwa [show L.length + (i - L.length) = i by omega] at this
def stepC (s : StepP) (vs va vb vl : Value) : List Value := [.int .i64 s.kind, .int .i64 s.n, vs, va, vb, vl]
theorem stepAt_one {A : Hp} {s : StepP} {vs va vb vl : Value} (h1 : Ints A vs .i16 s.samples) (h2 : Ints A va .u8 s.a) (h3 : Ints A vb .u8 s.b) (h4 : Rd A vl 4 s.slots.length (slotsC s.slots)) : ∀ i t, [s][i]? = some t → StepAt A (stepC s vs va vb vl) i t := by
  intro i t hi
  cases i with
  | zero =>
    simp only [List.getElem?_cons_zero, Option.some.injEq] at hi
    subst hi
    exact ⟨vs, va, vb, vl, ⟨rfl, rfl, rfl, rfl, rfl, rfl⟩, h1, h2, h3, h4⟩
  | succ i => simp at hi
theorem Rd.oneC {A : Hp} {v : Value} {sz m : Nat} {cs : List Value} (h : Rd A v sz m cs) : v.oneCell' = true := by
  obtain ⟨p, c, rfl, _⟩ := h.slice; rfl
theorem stepC_one {A : Hp} {s : StepP} {vs va vb vl : Value} {k1 k2 k3 : IntKind} {xs ys zs : List Int} {m : Nat} {cs : List Value} (h1 : Ints A vs k1 xs) (h2 : Ints A va k2 ys) (h3 : Ints A vb k3 zs) (h4 : Rd A vl 4 m cs) : ((stepC s vs va vb vl).all Value.oneCell') = true := by
  simp only [stepC, List.all_cons, List.all_nil, Rd.oneC h1, Rd.oneC h2, Rd.oneC h3, Rd.oneC h4, Bool.and_true, Bool.true_and]
  rfl
theorem SRows.push {Ho' Hi H : Hp} {v' : Value} {el : TypeId} {L : List StepP} {s : StepP} {cs : List Value} {vs va vb vl : Value} (hc : cs.length = L.length * 6) (hO : Own Ho' v' el 6 (L.length + 1) (cs ++ stepC s vs va vb vl)) (h1 : (cs.all Value.oneCell') = true) (hL : ∀ i s, L[i]? = some s → StepAt Hi cs i s)
    (k1 : Ints H vs .i16 s.samples) (k2 : Ints H va .u8 s.a) (k3 : Ints H vb .u8 s.b) (k4 : Rd H vl 4 s.slots.length (slotsC s.slots)) : SRows Ho' (H ++ Hi) v' el (L ++ [s]) :=
  SRows.app hc hO h1 (stepC_one k1 k2 k3 k4) hL (stepAt_one k1 k2 k3 k4)
theorem Ints.none (A : Hp) (k : IntKind) : Ints A (.slice none 0 0) k [] := ⟨by simp, by simp, Option.none, 0, rfl, Nat.le_refl _, fun h => absurd h (by simp)⟩
theorem Rd.none (A : Hp) (sz : Nat) : Rd A (.slice none 0 0) sz 0 [] := ⟨by simp, by simp, Option.none, 0, rfl, Nat.le_refl _, fun h => absurd h (by simp)⟩
theorem toneI_in {a n d : Int} {i : Nat} (ha : 0 ≤ a ∧ a ≤ 32767) (hd : 0 < d) : -32768 ≤ toneI a n d i ∧ toneI a n d i ≤ 32767 := by
  unfold toneI
  have hs := sin_in (i * n) hd
  have hp : -1073676289 ≤ a * sinI (i * n) d ∧ a * sinI (i * n) d ≤ 1073676289 := by
    have h1 : (a * sinI (i * n) d).natAbs ≤ 32767 * 32767 := by rw [Int.natAbs_mul]; exact Nat.mul_le_mul (by omega) (by omega)
    omega
  have hr := round15_in hp
  rw [clamp_of_in (by omega) (by omega)]
  exact hr
theorem toneRes {W : List (List UInt8)} {n0 n1 n2 : Int} {c : Nat} {f : Bool} (hok : numsOk W toneM ↔ (numsF W toneM = false ∧ W.drop toneM.length = [])) (hf : numsF W toneM = f) (hff : f = false) (hd : ¬ n2 = 0) (h0 : (numP (W.getD 0 []) 32767).getD 0 = n0) (h1 : (numP (W.getD 1 []) 65535).getD 0 = n1) (h2 : (numP (W.getD 2 []) 65535).getD 0 = n2) (h3 : (numP (W.getD 3 []) 4096).getD 0 = (c : Int)) :
    Res (if numsOk W toneM ∧ num W toneM 2 ≠ 0 then some (toneL (num W toneM 0) (num W toneM 1) (num W toneM 2) (num W toneM 3).toNat) else none) false W.tail.tail.tail.tail (toneL n0 n1 n2 c) := by
  have hdr : W.drop toneM.length = W.tail.tail.tail.tail := by
    rw [show toneM.length = 4 from rfl]
    rcases W with _ | ⟨_, _ | ⟨_, _ | ⟨_, _ | ⟨_, W⟩⟩⟩⟩ <;> rfl
  rw [hdr] at hok
  by_cases hW : W.tail.tail.tail.tail = []
  · have h := hok.2 ⟨by rw [hf, hff], hW⟩
    have e0 : num W toneM 0 = n0 := by rw [num_get h (by decide)]; exact h0
    have e1 : num W toneM 1 = n1 := by rw [num_get h (by decide)]; exact h1
    have e2 : num W toneM 2 = n2 := by rw [num_get h (by decide)]; exact h2
    have e3 : num W toneM 3 = c := by rw [num_get h (by decide)]; exact h3
    rw [if_pos ⟨h, by rw [e2]; exact hd⟩, e0, e1, e2, e3, Int.toNat_natCast]
    exact ⟨rfl, hW, rfl⟩
  · rw [if_neg (fun h => hW (hok.1 h.1).2)]
    exact .inr hW
theorem stormRes {W : List (List UInt8)} {n0 n1 n2 n3 n4 : Int} {c d : Nat} {f : Bool} (hok : numsOk W stormM ↔ (numsF W stormM = false ∧ W.drop stormM.length = [])) (hf : numsF W stormM = f) (hff : f = false) (h0 : (numP (W.getD 0 []) 4294967295).getD 0 = n0) (h1 : (numP (W.getD 1 []) 65536).getD 0 = n1) (h2 : (numP (W.getD 2 []) 65536).getD 0 = n2) (h3 : (numP (W.getD 3 []) 65536).getD 0 = n3) (h4 : (numP (W.getD 4 []) 65536).getD 0 = n4) (h5 : (numP (W.getD 5 []) 64).getD 0 = (c : Int)) (h6 : (numP (W.getD 6 []) 16).getD 0 = (d : Int)) :
    Res (if numsOk W stormM then some (stormP ⟨num W stormM 1, num W stormM 2, num W stormM 3, num W stormM 4⟩ (num W stormM 6).toNat (num W stormM 5).toNat (num W stormM 0, false)).2 else none) false W.tail.tail.tail.tail.tail.tail.tail (stormP ⟨n1, n2, n3, n4⟩ d c (n0, false)).2 := by
  have hdr : W.drop stormM.length = W.tail.tail.tail.tail.tail.tail.tail := by
    rw [show stormM.length = 7 from rfl]
    rcases W with _ | ⟨_, _ | ⟨_, _ | ⟨_, _ | ⟨_, _ | ⟨_, _ | ⟨_, _ | ⟨_, W⟩⟩⟩⟩⟩⟩⟩ <;> rfl
  rw [hdr] at hok
  by_cases hW : W.tail.tail.tail.tail.tail.tail.tail = []
  · have h := hok.2 ⟨by rw [hf, hff], hW⟩
    have e0 : num W stormM 0 = n0 := by rw [num_get h (by decide)]; exact h0
    have e1 : num W stormM 1 = n1 := by rw [num_get h (by decide)]; exact h1
    have e2 : num W stormM 2 = n2 := by rw [num_get h (by decide)]; exact h2
    have e3 : num W stormM 3 = n3 := by rw [num_get h (by decide)]; exact h3
    have e4 : num W stormM 4 = n4 := by rw [num_get h (by decide)]; exact h4
    have e5 : num W stormM 5 = c := by rw [num_get h (by decide)]; exact h5
    have e6 : num W stormM 6 = d := by rw [num_get h (by decide)]; exact h6
    rw [if_pos h, e0, e1, e2, e3, e4, e5, e6, Int.toNat_natCast, Int.toNat_natCast]
    exact ⟨rfl, hW, rfl⟩
  · rw [if_neg (fun h => hW (hok.1 h).2)]
    exact .inr hW
end Go.Eng
