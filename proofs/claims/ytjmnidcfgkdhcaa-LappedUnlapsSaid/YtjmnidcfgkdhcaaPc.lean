/- Plain words of the layer 4: tables; what a bank's cells hold. No program in sight. No condition. -/
import Derived.Test.YtjmnidcfgkdhcaaPb
import Derived.Test.YtjmnidcfgkdhcaaEh
import Derived.KernelRfl
namespace Go.Eng
set_option linter.unusedVariables false
set_option linter.unusedSimpArgs false

def turnL (n : Nat) : List Int := (List.range n).map fun (k : Nat) => cosI k n
def slopeL (n : Nat) : List Int := (List.range n).map fun (i : Nat) => sinI (2 * i + 1) (8 * n)
def filtV (m i : Int) : Int := if i - 5 * m = 0 then 32768 else (sinI (3 * (i - 5 * m)) (10 * m) * (565 * m)).tdiv (1065 * (i - 5 * m))
def filtW (m i : Int) : Int := (1376256 - 50 * cosI i (10 * m) + 8 * cosI (2 * i) (10 * m)).tdiv 100
def filtR (m i : Int) : Int := roundI (roundI (filtV m i * filtW m i) 15 * 19708) 15
def filterL (m : Nat) : List Int := (List.range (10 * m)).map fun (i : Nat) => filtR m i
def filtOk (m : Int) (i : Nat) : Bool := decide (-200000 ≤ filtV m i) && decide (filtV m i ≤ 200000) && decide (-40000 ≤ filtW m i) && decide (filtW m i ≤ 40000) && decide (-32768 ≤ filtR m i) && decide (filtR m i ≤ 32767)
theorem filt_all : ((List.range 40).all (filtOk 4) && (List.range 80).all (filtOk 8)) = true := by kernel_rfl
theorem filt_in {m : Int} {i : Int} (hm : m = 4 ∨ m = 8) (h0 : 0 ≤ i) (h1 : i < 10 * m) : -200000 ≤ filtV m i ∧ filtV m i ≤ 200000 ∧ -40000 ≤ filtW m i ∧ filtW m i ≤ 40000 ∧ -32768 ≤ filtR m i ∧ filtR m i ≤ 32767 := by
  have h := filt_all
  rw [Bool.and_eq_true, List.all_eq_true, List.all_eq_true] at h
  obtain ⟨k, rfl⟩ : ∃ k : Nat, i = k := ⟨i.toNat, by omega⟩
  have hk : filtOk m k = true := by
    rcases hm with rfl | rfl
    · exact h.1 k (by rw [List.mem_range]; omega)
    · exact h.2 k (by rw [List.mem_range]; omega)
  unfold filtOk at hk
  simp only [Bool.and_eq_true, decide_eq_true_eq] at hk
  obtain ⟨⟨⟨⟨⟨a, b⟩, c⟩, d⟩, e⟩, f⟩ := hk
  exact ⟨a, b, c, d, e, f⟩

/-- What table stands at which place. -/
def tabOf (k : Nat) : List Int := if k < 257 then turnL (4 * k) else if k < 386 then slopeL (k - 257) else filterL (if k = 386 then 4 else 8)
theorem turnL_len (n : Nat) : (turnL n).length = n := by simp [turnL]
theorem slopeL_len (n : Nat) : (slopeL n).length = n := by simp [slopeL]
theorem filterL_len (m : Nat) : (filterL m).length = 10 * m := by simp [filterL]
theorem turnL_get {n i : Nat} (h : i < n) : (turnL n).getD i 0 = cosI i n := by simp [turnL, h]
theorem slopeL_get {n i : Nat} (h : i < n) : (slopeL n).getD i 0 = sinI (2 * i + 1) (8 * n) := by simp [slopeL, h]
theorem filterL_get {m i : Nat} (h : i < 10 * m) : (filterL m).getD i 0 = filtR m i := by simp [filterL, h]
theorem tabOf_len (k : Nat) (hk : k < 388) : (tabOf k).length ≤ 1024 := by
  unfold tabOf
  split
  · rw [turnL_len]; omega
  · split
    · rw [slopeL_len]; omega
    · rw [filterL_len]; split <;> omega

/-! ### A bank's cells -/
def bankCell (j : Nat) : Value := if 1552 ≤ j then .int .i64 0 else if j % 4 = 0 then .int .u32 0 else if j % 4 = 1 then .int .i32 0 else if j % 4 = 2 then .int .u32 0 else .slice none 0 0
def bankZero : Array Value := ((List.range 1554).map bankCell).toArray
theorem bankZero_get {j : Nat} (h : j < 1554) : bankZero[j]? = some (bankCell j) := by simp [bankZero, h]

def TabV (Tb : Hp) (v : Value) (xs : List Int) : Prop := Ints Tb v .i16 xs ∧ ∃ a n c, v = .slice (some a) n c
structure BankRep (ar : Array Value) (Tb : Hp) (s : Nat → Bool) (made told : Int) : Prop where
  size : ar.size = 1554
  made : ar[1552]? = some (.int .i64 made)
  told : ar[1553]? = some (.int .i64 told)
  done : ∀ k, k < 388 → ar[4 * k]? = some (.int .u32 (if s k then 1 else 0))
  lock : ∀ k, k < 388 → ar[4 * k + 1]? = some (.int .i32 0)
  tab : ∀ k, k < 388 → ∃ v, ar[4 * k + 3]? = some v ∧ (s k = true → TabV Tb v (tabOf k)) ∧ (s k = false → v = .slice none 0 0)

theorem BankRep.new : BankRep bankZero [] (fun _ => false) 0 0 := by
  refine ⟨by simp [bankZero], ?_, ?_, fun k hk => ?_, fun k hk => ?_, fun k hk => ⟨.slice none 0 0, ?_, fun h => (by cases h), fun _ => rfl⟩⟩
  · rw [bankZero_get (by decide)]; rfl
  · rw [bankZero_get (by decide)]; rfl
  · rw [bankZero_get (by omega)]; unfold bankCell; rw [if_neg (by omega), if_pos (by omega)]; rfl
  · rw [bankZero_get (by omega)]; unfold bankCell; rw [if_neg (by omega), if_neg (by omega), if_pos (by omega)]
  · rw [bankZero_get (by omega)]; unfold bankCell; rw [if_neg (by omega), if_neg (by omega), if_neg (by omega), if_neg (by omega)]

theorem TabV.more {A B : Hp} {v : Value} {xs : List Int} (h : TabV A v xs) (hs : ∀ x ∈ A, x ∈ B) : TabV B v xs := ⟨h.1.more hs, h.2⟩
theorem BankRep.more {ar : Array Value} {A B : Hp} {s : Nat → Bool} {made told : Int} (h : BankRep ar A s made told) (hs : ∀ x ∈ A, x ∈ B) : BankRep ar B s made told :=
  ⟨h.size, h.made, h.told, h.done, h.lock, fun k hk => by obtain ⟨v, h1, h2, h3⟩ := h.tab k hk; exact ⟨v, h1, fun hv => (h2 hv).more hs, h3⟩⟩

/-- One table more. -/
theorem BankRep.put {ar ar' : Array Value} {Tb : Hp} {s : Nat → Bool} {made told : Int} (h : BankRep ar Tb s made told) {k : Nat} (hk : k < 388) {v : Value} (hsz : ar'.size = 1554) (h0 : ar'[4 * k]? = some (.int .u32 1)) (h1 : ar'[4 * k + 1]? = some (.int .i32 0)) (h3 : ar'[4 * k + 3]? = some v)
    (hm : ar'[1552]? = some (.int .i64 (made + 1))) (ho : ∀ j, j ≠ 4 * k → j ≠ 4 * k + 1 → j ≠ 4 * k + 3 → j ≠ 1552 → ar'[j]? = ar[j]?) (hv : TabV Tb v (tabOf k)) : BankRep ar' Tb (fun j => j == k || s j) (made + 1) told := by
  refine ⟨hsz, hm, by rw [ho 1553 (by omega) (by omega) (by omega) (by omega)]; exact h.told, fun j hj => ?_, fun j hj => ?_, fun j hj => ?_⟩
  · by_cases hjk : j = k
    · subst hjk; simpa using h0
    · rw [ho (4 * j) (by omega) (by omega) (by omega) (by omega), h.done j hj]; simp [hjk]
  · by_cases hjk : j = k
    · subst hjk; exact h1
    · rw [ho (4 * j + 1) (by omega) (by omega) (by omega) (by omega)]; exact h.lock j hj
  · by_cases hjk : j = k
    · subst hjk; exact ⟨v, h3, fun _ => hv, fun hc => by simp at hc⟩
    · rw [ho (4 * j + 3) (by omega) (by omega) (by omega) (by omega)]
      obtain ⟨u, a, b, c⟩ := h.tab j hj
      exact ⟨u, a, fun hs => b (by simpa [hjk] using hs), fun hs => c (by simpa [hjk] using hs)⟩
/-- As the program does it: the lock, the table, the count, done, the lock. -/
theorem BankRep.done5 {ar : Array Value} {Tb Tb' : Hp} {s : Nat → Bool} {made told : Int} (h : BankRep ar Tb s made told) {k : Nat} (hk : k < 388) {v : Value} (hv : TabV Tb' v (tabOf k)) (ht : ∀ x ∈ Tb, x ∈ Tb') :
    BankRep (((((ar.setIfInBounds (4 * k + 1) (.int .i32 1)).setIfInBounds (4 * k + 3) v).setIfInBounds 1552 (.int .i64 (made + 1))).setIfInBounds (4 * k) (.int .u32 1)).setIfInBounds (4 * k + 1) (.int .i32 0)) Tb' (fun j => j == k || s j) (made + 1) told := by
  obtain ⟨u, hu, _⟩ := h.tab k hk
  refine (h.more ht).put hk (v := v) (by simp [h.size]) ?_ ?_ ?_ ?_ ?_ hv
  · rw [get_set_ne (by omega)]
    exact get_set (show (((ar.setIfInBounds (4 * k + 1) (.int .i32 1)).setIfInBounds (4 * k + 3) v).setIfInBounds 1552 (.int .i64 (made + 1)))[4 * k]? = _ from by rw [get_set_ne (by omega), get_set_ne (by omega), get_set_ne (by omega)]; exact h.done k hk) _
  · refine get_set (u := .int .i32 1) ?_ _
    rw [get_set_ne (by omega), get_set_ne (by omega), get_set_ne (by omega)]
    exact get_set (h.lock k hk) _
  · rw [get_set_ne (by omega), get_set_ne (by omega), get_set_ne (by omega)]
    exact get_set (show (ar.setIfInBounds (4 * k + 1) (.int .i32 1))[4 * k + 3]? = _ from by rw [get_set_ne (by omega)]; exact hu) _
  · rw [get_set_ne (by omega), get_set_ne (by omega)]
    exact get_set (show ((ar.setIfInBounds (4 * k + 1) (.int .i32 1)).setIfInBounds (4 * k + 3) v)[1552]? = _ from by rw [get_set_ne (by omega), get_set_ne (by omega)]; exact h.made) _
  · intro j h0 h1 h3 h4
    rw [get_set_ne (by omega), get_set_ne (by omega), get_set_ne (by omega), get_set_ne (by omega), get_set_ne (by omega)]
/-- Told once more. -/
theorem BankRep.tell {ar : Array Value} {Tb : Hp} {s : Nat → Bool} {made told : Int} (h : BankRep ar Tb s made told) (n : Int) : BankRep (ar.setIfInBounds 1553 (.int .i64 n)) Tb s made n := by
  have ho : ∀ j, j ≠ 1553 → (ar.setIfInBounds 1553 (.int .i64 n))[j]? = ar[j]? := fun j hj => get_set_ne (by omega) _
  refine ⟨by rw [Array.size_setIfInBounds]; exact h.size, by rw [ho _ (by omega)]; exact h.made, get_set h.told _, fun k hk => by rw [ho _ (by omega)]; exact h.done k hk, fun k hk => by rw [ho _ (by omega)]; exact h.lock k hk, fun k hk => ?_⟩
  rw [ho _ (by omega)]
  exact h.tab k hk
theorem BankRep.congr {ar : Array Value} {Tb : Hp} {s s' : Nat → Bool} {made told : Int} (h : BankRep ar Tb s made told) (hs : ∀ k, s k = s' k) : BankRep ar Tb s' made told := by
  have : s = s' := funext hs
  exact this ▸ h

theorem turn4 : turnL 4 = [32767, 0, -32767, 0] := by kernel_rfl

/-! ### Questions -/
/-- Which table a question means, and what it holds. -/
def tabAsk (kind n : Int) : Option (Nat × List Int) :=
  if kind = 0 then (if 4 ≤ n ∧ n ≤ 1024 ∧ n % 4 = 0 then some ((n / 4).toNat, turnL n.toNat) else none)
  else if kind = 1 then (if 1 ≤ n ∧ n ≤ 128 then some (257 + n.toNat, slopeL n.toNat) else none)
  else (if n = 4 ∨ n = 8 then some (386 + n.toNat / 8, filterL n.toNat) else none)
/-- What a bank answers, and what it is then. -/
def BankAns (el : TypeId) (o : Option (Nat × List Int)) (ar : Array Value) (Tb : Hp) (s : Nat → Bool) (made told : Int) (t : Value) (e : Int) (ar' : Array Value) (Tb' H : Hp) : Prop :=
  match o with
  | some (k, xs) => e = 0 ∧ isNilS t = false ∧ OwnI H t el .i16 xs ∧ BankRep ar' Tb' (fun j => j == k || s j) (made + (if s k then 0 else 1)) (told + 1)
  | none => e = 1 ∧ t = .slice none 0 0 ∧ H = [] ∧ ar' = ar ∧ Tb' = Tb
def RefAns (el : TypeId) (o : Option (Nat × List Int)) (v : Value) (H : Hp) : Prop :=
  match o with
  | some (_, xs) => OwnI H v el .i16 xs
  | none => v = .slice none 0 0 ∧ H = []
theorem tabAsk_pos {kind n : Int} {k : Nat} {xs : List Int} (h : tabAsk kind n = some (k, xs)) : 0 < xs.length ∧ k < 388 ∧ xs.length ≤ 1024 := by
  unfold tabAsk at h
  split at h
  · split at h
    · simp only [Option.some.injEq, Prod.mk.injEq] at h; obtain ⟨rfl, rfl⟩ := h; rw [turnL_len]; omega
    · cases h
  · split at h
    · split at h
      · simp only [Option.some.injEq, Prod.mk.injEq] at h; obtain ⟨rfl, rfl⟩ := h; rw [slopeL_len]; omega
      · cases h
    · split at h
      · simp only [Option.some.injEq, Prod.mk.injEq] at h; obtain ⟨rfl, rfl⟩ := h; rw [filterL_len]; omega
      · cases h

def normK (q : Int) : Int := if q = 0 then 0 else if q = 1 then 1 else 2
theorem normK_in (q : Int) : normK q = 0 ∨ normK q = 1 ∨ normK q = 2 := by unfold normK; split <;> (try split) <;> omega
theorem tabAsk_norm (q n : Int) : tabAsk (normK q) n = tabAsk q n := by
  unfold normK
  by_cases h0 : q = 0
  · rw [if_pos h0, h0]
  · rw [if_neg h0]
    by_cases h1 : q = 1
    · rw [if_pos h1, h1]
    · rw [if_neg h1]; unfold tabAsk; rw [if_neg h0, if_neg h1]; rfl
def ixOf (d : Int × Int) : Option Nat := (tabAsk d.1 d.2).map (·.1)
theorem ix_spec {q n : Int} {k : Nat} (h : ixOf (q, n) = some k) (hq : q = 0 ∨ q = 1 ∨ q = 2) : (q = 0 ∧ k ≤ 256 ∧ n = 4 * k) ∨ (q = 1 ∧ 258 ≤ k ∧ k ≤ 385 ∧ n = k - 257) ∨ (q = 2 ∧ ((k = 386 ∧ n = 4) ∨ (k = 387 ∧ n = 8))) := by
  unfold ixOf tabAsk at h
  dsimp only at h
  rcases hq with rfl | rfl | rfl
  · rw [if_pos rfl] at h
    split at h
    · simp at h; omega
    · cases h
  · rw [if_neg (by decide), if_pos rfl] at h
    split at h
    · simp at h; omega
    · cases h
  · rw [if_neg (by decide), if_neg (by decide)] at h
    split at h
    · simp at h; omega
    · cases h
theorem ix_inj {d a : Int × Int} {k : Nat} (hd : ixOf d = some k) (ha : ixOf a = some k) (hd1 : d.1 = 0 ∨ d.1 = 1 ∨ d.1 = 2) (ha1 : a.1 = 0 ∨ a.1 = 1 ∨ a.1 = 2) : d = a := by
  obtain ⟨d1, d2⟩ := d
  obtain ⟨a1, a2⟩ := a
  have h1 := ix_spec hd hd1
  have h2 := ix_spec ha ha1
  have : d1 = a1 ∧ d2 = a2 := by omega
  rw [this.1, this.2]
/-- What was told, and which tables there are. -/
structure Kept (D : List (Int × Int)) (s : Nat → Bool) : Prop where
  norm : ∀ d ∈ D, d.1 = 0 ∨ d.1 = 1 ∨ d.1 = 2
  made : ∀ k, s k = true ↔ ∃ d ∈ D, ixOf d = some k
theorem Kept.nil : Kept [] (fun _ => false) := ⟨fun d h => by simp at h, fun k => by simp⟩
theorem Kept.mem {D : List (Int × Int)} {s : Nat → Bool} (h : Kept D s) {a : Int × Int} {k : Nat} (ha : ixOf a = some k) (ha1 : a.1 = 0 ∨ a.1 = 1 ∨ a.1 = 2) : s k = true ↔ a ∈ D := by
  rw [h.made]
  exact ⟨fun ⟨d, h1, h2⟩ => ix_inj h2 ha (h.norm d h1) ha1 ▸ h1, fun h1 => ⟨a, h1, ha⟩⟩
theorem Kept.old {D : List (Int × Int)} {s : Nat → Bool} (h : Kept D s) {k : Nat} (hs : s k = true) : Kept D (fun j => j == k || s j) := by
  have : (fun j => j == k || s j) = s := funext fun j => by by_cases hj : j = k <;> simp [hj, hs]
  rw [this]; exact h
theorem Kept.new {D : List (Int × Int)} {s : Nat → Bool} (h : Kept D s) {a : Int × Int} {k : Nat} (ha : ixOf a = some k) (ha1 : a.1 = 0 ∨ a.1 = 1 ∨ a.1 = 2) : Kept (D ++ [a]) (fun j => j == k || s j) := by
  refine ⟨fun d hd => ?_, fun j => ?_⟩
  · rcases List.mem_append.1 hd with h1 | h1
    · exact h.norm d h1
    · simp at h1; subst h1; exact ha1
  · simp only [Bool.or_eq_true, beq_iff_eq, h.made, List.mem_append, List.mem_singleton]
    constructor
    · rintro (rfl | ⟨d, h1, h2⟩)
      · exact ⟨a, .inr rfl, ha⟩
      · exact ⟨d, .inl h1, h2⟩
    · rintro ⟨d, h1 | rfl, h2⟩
      · exact .inr ⟨d, h1, h2⟩
      · left; rw [ha] at h2; exact (Option.some.inj h2).symm
end Go.Eng
