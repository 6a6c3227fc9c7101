/- Plain words of texts: cut at a byte, numbers of digits. No program in sight. No condition. -/
import Derived.Test.YtmcopafdooejjaaDoorPb
import Derived.Test.YtmcopafdooejjaaDoorEl
namespace Go.Eng
set_option linter.unusedVariables false
set_option linter.unusedSimpArgs false

/-- A text, cut at a byte. -/
def cutB (c : UInt8) : List UInt8 → List (List UInt8)
  | [] => [[]]
  | b :: l => if b = c then [] :: cutB c l else match cutB c l with
    | [] => [[b]]
    | w :: ws => (b :: w) :: ws
def consW (w : List UInt8) : List (List UInt8) → List (List UInt8)
  | [] => [w]
  | v :: vs => (w ++ v) :: vs
theorem cutB_ne (c : UInt8) (l : List UInt8) : cutB c l ≠ [] := by
  cases l with
  | nil => simp [cutB]
  | cons b l => unfold cutB; split
                · simp
                · split <;> simp
theorem cutB_at (c : UInt8) (l : List UInt8) : cutB c (c :: l) = [] :: cutB c l := by
  rw [cutB, if_pos rfl]
theorem cutB_other {b c : UInt8} (h : b ≠ c) (l : List UInt8) : cutB c (b :: l) = consW [b] (cutB c l) := by
  rw [cutB, if_neg h]
  cases cutB c l <;> rfl
theorem consW_nil {L : List (List UInt8)} (h : L ≠ []) : consW [] L = L := by
  cases L with
  | nil => exact absurd rfl h
  | cons a l => rfl
theorem consW_app (a b : List UInt8) {L : List (List UInt8)} (h : L ≠ []) : consW (a ++ b) L = consW a (consW b L) := by
  cases L with
  | nil => exact absurd rfl h
  | cons v l => simp [consW]
theorem cutB_app {c : UInt8} : ∀ {w : List UInt8}, c ∉ w → ∀ r, cutB c (w ++ r) = consW w (cutB c r)
  | [], _, r => (consW_nil (cutB_ne c r)).symm
  | b :: w, h, r => by
    rw [List.cons_append, cutB_other (fun e => h (by rw [e]; exact List.mem_cons_self ..)), cutB_app (fun hm => h (List.mem_cons_of_mem _ hm)), ← consW_app _ _ (cutB_ne c r)]
    rfl
theorem cutB_first {c : UInt8} {w : List UInt8} (h : c ∉ w) (r : List UInt8) : cutB c (w ++ c :: r) = w :: cutB c r := by
  rw [cutB_app h, cutB_at]; simp [consW]
theorem cutB_none {c : UInt8} {w : List UInt8} (h : c ∉ w) : cutB c w = [w] := by
  have := cutB_app h []
  simpa [cutB, consW] using this
theorem cutB_len (c : UInt8) : ∀ l, (cutB c l).length = l.count c + 1
  | [] => rfl
  | b :: l => by
    by_cases h : b = c
    · subst h; rw [cutB_at, List.length_cons, cutB_len b l, List.count_cons_self]
    · rw [cutB_other h, List.count_cons_of_ne h, ← cutB_len c l]
      cases hc : cutB c l with
      | nil => exact absurd hc (cutB_ne c l)
      | cons a t => rfl
theorem cutB_count (c : UInt8) (l : List UInt8) : (cutB c l).length ≤ l.length + 1 := by
  rw [cutB_len]; have := List.count_le_length (a := c) (l := l); omega
theorem cutB_word {c : UInt8} : ∀ {l : List UInt8} {w : List UInt8}, w ∈ cutB c l → w.length ≤ l.length
  | [], w, h => by simp [cutB] at h; simp [h]
  | b :: l, w, h => by
    by_cases hb : b = c
    · subst hb; rw [cutB_at] at h
      rcases List.mem_cons.1 h with rfl | h
      · simp
      · have := cutB_word h; simp; omega
    · rw [cutB_other hb] at h
      cases hc : cutB c l with
      | nil => exact absurd hc (cutB_ne c l)
      | cons a t =>
        rw [hc] at h
        rcases List.mem_cons.1 h with rfl | h
        · have := cutB_word (l := l) (w := a) (by rw [hc]; exact List.mem_cons_self ..); simp; omega
        · have := cutB_word (l := l) (w := w) (by rw [hc]; exact List.mem_cons_of_mem _ h); simp; omega
/-- Where a byte is first. -/
theorem ix_cases (l : List UInt8) (c : UInt8) : (Lib.indexByte l c = -1 ∧ c ∉ l) ∨ ∃ i : Nat, Lib.indexByte l c = i ∧ i < l.length ∧ l = l.take i ++ c :: l.drop (i + 1) ∧ c ∉ l.take i := by
  have h := Lib.indexByte_ge l c
  by_cases h1 : Lib.indexByte l c = -1
  · left
    refine ⟨h1, fun hm => ?_⟩
    obtain ⟨k, hk⟩ := List.mem_iff_getElem?.1 hm
    exact Lib.indexByte_none h1 k hk
  · right
    obtain ⟨i, hi⟩ : ∃ i : Nat, Lib.indexByte l c = i := ⟨(Lib.indexByte l c).toNat, by omega⟩
    obtain ⟨h2, h3⟩ := Lib.indexByte_some hi
    obtain ⟨hlt, he⟩ := List.getElem?_eq_some_iff.1 h2
    refine ⟨i, hi, hlt, ?_, fun hm => ?_⟩
    · rw [← he, List.getElem_cons_drop, List.take_append_drop]
    · obtain ⟨k, hk⟩ := List.mem_iff_getElem?.1 hm
      rw [List.getElem?_take] at hk
      split at hk
      · exact h3 k (by assumption) hk
      · cases hk
/-- Rows of texts. -/
def strs (L : List (List UInt8)) : Array Value := (L.map str).toArray
theorem strs_size (L : List (List UInt8)) : (strs L).size = L.length := by simp [strs]
theorem strs_get {L : List (List UInt8)} {i : Nat} (h : i < L.length) : (strs L)[i]? = some (str (L.getD i [])) := by simp [strs, h]
theorem strs_set (L : List (List UInt8)) (i : Nat) (w : List UInt8) : (strs L).setIfInBounds i (str w) = strs (L.set i w) := by
  apply Array.ext'
  simp [strs, List.map_set]
theorem strs_made (n : Nat) : madeCells #[Value.string ByteArray.empty] n = strs (List.replicate n []) := by
  apply Array.ext'
  rw [toList_madeCells_one]
  simp [strs, str]
  exact .inr rfl
theorem fill_stepG {α : Type} {d : α} {xs : List α} {N i : Nat} (hx : xs.length = N) (hi : i < N) : (xs.take i ++ List.replicate (N - i) d).set i (xs.getD i d) = xs.take (i + 1) ++ List.replicate (N - (i + 1)) d := by
  have hl : (xs.take i).length = i := by rw [List.length_take]; omega
  rw [List.set_append_right _ _ (by omega), hl, Nat.sub_self, List.take_add_one, List.append_assoc]
  congr 1
  rw [show N - i = (N - (i + 1)) + 1 by omega, List.replicate_succ]
  simp [show i < xs.length by omega]
theorem take_getG {α : Type} {d : α} {xs : List α} {j : Nat} (h : j < xs.length) : xs.take j ++ [xs.getD j d] = xs.take (j + 1) := by
  rw [List.take_add_one]; simp [h]
theorem u8_lt (b : UInt8) : b.toNat < 256 := b.toNat_lt
theorem u8_eq {a b : UInt8} : (a.toNat : Int) = b.toNat ↔ a = b := by
  constructor
  · intro h; exact UInt8.toNat_inj.1 (by omega)
  · intro h; rw [h]
/-- A number of digits. -/
def numV (w : List UInt8) : Int := w.foldl (fun n b => 10 * n + ((b.toNat : Int) - 48)) 0
def digs (w : List UInt8) : Prop := ∀ b ∈ w, 48 ≤ b.toNat ∧ b.toNat ≤ 57
instance (w : List UInt8) : Decidable (digs w) := by unfold digs; infer_instance
def numOk (w : List UInt8) : Prop := 1 ≤ w.length ∧ w.length ≤ 10 ∧ (w.length ≤ 1 ∨ (w.getD 0 0).toNat ≠ 48) ∧ digs w
instance (w : List UInt8) : Decidable (numOk w) := by unfold numOk; infer_instance
def numP (w : List UInt8) (most : Int) : Option Int := if numOk w ∧ numV w ≤ most then some (numV w) else none
theorem numV_nil : numV [] = 0 := rfl
theorem numV_step {w : List UInt8} {i : Nat} (h : i < w.length) : numV (w.take (i + 1)) = 10 * numV (w.take i) + (((w.getD i 0).toNat : Int) - 48) := by
  have e : w.take (i + 1) = w.take i ++ [w.getD i 0] := (take_getG h).symm
  unfold numV
  rw [e, List.foldl_append]; rfl
theorem digs_take {w : List UInt8} (h : digs w) (i : Nat) : digs (w.take i) := fun b hb => h b (List.mem_of_mem_take hb)
theorem digs_step {w : List UInt8} {i : Nat} (hi : i < w.length) (h : digs (w.take i)) (h2 : 48 ≤ (w.getD i 0).toNat ∧ (w.getD i 0).toNat ≤ 57) : digs (w.take (i + 1)) := by
  rw [← take_getG (d := 0) hi]
  intro b hb
  rcases List.mem_append.1 hb with h3 | h3
  · exact h b h3
  · rw [List.mem_singleton.1 h3]; exact h2
theorem digs_not {w : List UInt8} {i : Nat} (hi : i < w.length) (h2 : ¬ (48 ≤ (w.getD i 0).toNat ∧ (w.getD i 0).toNat ≤ 57)) : ¬ digs w := fun h =>
  h2 (h _ (by rw [List.getD_eq_getElem?_getD, List.getElem?_eq_getElem hi]; exact List.getElem_mem hi))
theorem numV_in : ∀ (i : Nat) {w : List UInt8}, i ≤ w.length → digs (w.take i) → i ≤ 10 → 0 ≤ numV (w.take i) ∧ numV (w.take i) < 10 ^ i
  | 0, w, _, _, _ => by simp [numV]
  | i + 1, w, hi, h, h10 => by
    have hd : digs (w.take i) := by
      have := digs_take h i; rwa [List.take_take, Nat.min_eq_left (by omega)] at this
    have ih := numV_in i (by omega) hd (by omega)
    have hb : 48 ≤ (w.getD i 0).toNat ∧ (w.getD i 0).toNat ≤ 57 := h _ (by rw [← take_getG (d := 0) (show i < w.length by omega)]; simp)
    rw [numV_step (by omega), Int.pow_succ]
    omega
theorem numV_in10 {w : List UInt8} {i : Nat} (hi : i ≤ w.length) (h : digs (w.take i)) (h10 : i ≤ 10) : 0 ≤ numV (w.take i) ∧ numV (w.take i) < 10000000000 := by
  have h1 := numV_in i hi h h10
  have h2 : (10 : Int) ^ i ≤ 10000000000 := by
    clear h1 h hi
    rcases (show i = 0 ∨ i = 1 ∨ i = 2 ∨ i = 3 ∨ i = 4 ∨ i = 5 ∨ i = 6 ∨ i = 7 ∨ i = 8 ∨ i = 9 ∨ i = 10 by omega) with rfl | rfl | rfl | rfl | rfl | rfl | rfl | rfl | rfl | rfl | rfl <;> decide
  omega
theorem numP_in {w : List UInt8} {most n : Int} (h : numP w most = some n) : 0 ≤ n ∧ n ≤ most := by
  unfold numP at h
  split at h
  · rename_i hc
    obtain rfl := Option.some.inj h
    have := numV_in10 (i := w.length) (Nat.le_refl _) (by rw [List.take_length]; exact hc.1.2.2.2) hc.1.2.1
    rw [List.take_length] at this
    exact ⟨this.1, hc.2⟩
  · cases h

theorem z0 : (0 : Int).toNat = 0 := rfl
theorem numP_none {w : List UInt8} (m : Int) (h : ¬ numOk w) : numP w m = none := by unfold numP; rw [if_neg (fun hc => h hc.1)]
theorem numP_big {w : List UInt8} {m : Int} (h : ¬ (numV w ≤ m)) : numP w m = none := by unfold numP; rw [if_neg (fun hc => h hc.2)]
theorem numP_some {w : List UInt8} {m : Int} (h : numOk w) (h2 : numV w ≤ m) : numP w m = some (numV w) := by unfold numP; rw [if_pos ⟨h, h2⟩]
theorem numP_empty (m : Int) : numP [] m = none := numP_none m (fun h => by have := h.1; simp at this)
/-- Some numbers. -/
def numsOk (W : List (List UInt8)) (M : List Int) : Prop := W.length = M.length ∧ ∀ i, i < W.length → (numP (W.getD i []) (M.getD i 0)).isSome = true
instance (W : List (List UInt8)) (M : List Int) : Decidable (numsOk W M) := by unfold numsOk; infer_instance
def numsL (W : List (List UInt8)) (M : List Int) : List Int := (List.range W.length).map fun i => (numP (W.getD i []) (M.getD i 0)).getD 0
theorem numsL_len (W : List (List UInt8)) (M : List Int) : (numsL W M).length = W.length := by simp [numsL]
theorem numsL_get {W : List (List UInt8)} {M : List Int} {i : Nat} (h : i < W.length) : (numsL W M).getD i 0 = (numP (W.getD i []) (M.getD i 0)).getD 0 := by simp [numsL, h]
/-- What of a text is read as a row of texts. -/
def RW (A : Hp) (v : Value) (W : List (List UInt8)) : Prop := Rd A v 1 W.length (W.map str)
theorem RW.cell {W : List (List UInt8)} {i : Nat} (h : i < W.length) : (W.map str)[i]? = some (str (W.getD i [])) := by simp [h]
theorem headD_get (W : List (List UInt8)) : W.headD [] = W.getD 0 [] := by cases W <;> rfl
theorem RW.tail {A : Hp} {p : Option Addr} {c : Nat} {W : List (List UInt8)} (h : RW A (.slice p W.length c) W) (hp : 0 < W.length) : RW A (.slice (slcAt p 1 1 c) W.tail.length (c - 1)) W.tail := by
  have := Rd.part h (show 1 ≤ W.length by omega) (Nat.le_refl _)
  unfold RW
  rw [List.length_tail]
  have e : (List.drop (1 * 1) (W.map str)).take ((W.length - 1) * 1) = W.tail.map str := by
    rw [List.take_of_length_le (by simp)]
    cases W <;> simp
  rw [e] at this
  exact this
end Go.Eng
