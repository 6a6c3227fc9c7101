/- Plain words of the layer 8: bands. No program in sight. No condition. -/
import Derived.Test.YtjmnidcfgkdhcaaPc
import Derived.Test.YtjmnidcfgkdhcaaEh
namespace Go.Eng
set_option linter.unusedVariables false
set_option linter.unusedSimpArgs false

/-- Saturated to 32 bits, behind rounding. -/
def rsat (n s : Int) : Int := clampI (roundI n s) (-2147483648) 2147483647
theorem rsat_in (n s : Int) : -2147483648 ≤ rsat n s ∧ rsat n s ≤ 2147483647 := clamp_in _ _ _ (by decide)
/-- The first k of some numbers, summed. -/
def sumN (f : Nat → Int) : Nat → Int
  | 0 => 0
  | k + 1 => sumN f k + f k
theorem sumN_in {f : Nat → Int} {B : Int} (hB : 0 ≤ B) : ∀ (k : Nat), (∀ i, i < k → -B ≤ f i ∧ f i ≤ B) → -(k * B) ≤ sumN f k ∧ sumN f k ≤ k * B
  | 0, _ => by simp [sumN]
  | k + 1, h => by
    have h1 := sumN_in hB k fun i hi => h i (by omega)
    have h2 := h k (by omega)
    simp only [sumN]
    have : ((k + 1 : Nat) : Int) * B = k * B + B := by rw [Int.natCast_add, Int.add_mul]; simp
    omega
theorem sumN_congr {f g : Nat → Int} : ∀ (k : Nat), (∀ i, i < k → f i = g i) → sumN f k = sumN g k
  | 0, _ => rfl
  | k + 1, h => by simp only [sumN]; rw [sumN_congr k fun i hi => h i (by omega), h k (by omega)]
theorem prod_in {x y X Y : Int} (hx : -X ≤ x ∧ x ≤ X) (hy : -Y ≤ y ∧ y ≤ Y) : -(X * Y) ≤ x * y ∧ x * y ≤ X * Y := by
  have a : (X - x) * (Y - y) ≥ 0 := Int.mul_nonneg (by omega) (by omega)
  have b : (X + x) * (Y + y) ≥ 0 := Int.mul_nonneg (by omega) (by omega)
  have c : (X - x) * (Y + y) ≥ 0 := Int.mul_nonneg (by omega) (by omega)
  have d : (X + x) * (Y - y) ≥ 0 := Int.mul_nonneg (by omega) (by omega)
  rw [Int.sub_mul, Int.mul_sub, Int.mul_sub] at a
  rw [Int.add_mul, Int.mul_add, Int.mul_add] at b
  rw [Int.sub_mul, Int.mul_add, Int.mul_add] at c
  rw [Int.add_mul, Int.mul_sub, Int.mul_sub] at d
  omega
/-- What the filter makes of the samples, newest first. -/
def polyP (x : List Int) (m j k : Nat) : Int := x.getD (j + 2 * m * k) 0 * (filterL m).getD (j + 2 * m * k) 0
def polyN (x : List Int) (m j : Nat) : Int := -polyP x m j 0 + polyP x m j 1 - polyP x m j 2 + polyP x m j 3 - polyP x m j 4
def polyY (x : List Int) (m j : Nat) : Int := rsat (polyN x m j) 14
def polyS (m : Nat) : Int := if m = 8 then 18 else 17
def splitI (x : List Int) (m i : Nat) : Int := rsat (sumN (fun j => polyY x m j * cosI ((2 * i + 1) * (2 * j - m)) (8 * m)) (2 * m)) (polyS m)
/-- What bands are told, of the last 10 m samples. -/
def splitL (x : List Int) (m : Nat) : List Int := (List.range m).map (splitI x m)
theorem wave_ix (c : Int) (m : Nat) (hm : 1 ≤ m) : (turnL (8 * m)).getD ((c.tmod (8 * m) + 8 * m) % (8 * m)).toNat 0 = cosI c (8 * m) ∧ 0 ≤ (c.tmod (8 * m) + 8 * m) % (8 * m) ∧ (c.tmod (8 * m) + 8 * m) % (8 * m) < ((turnL (8 * m)).length : Nat) := by
  have hp : (0 : Int) < 8 * m := by omega
  have h1 := Int.emod_nonneg (c.tmod (8 * m) + 8 * m) (show (8 * (m : Int)) ≠ 0 by omega)
  have h2 := Int.emod_lt_of_pos (c.tmod (8 * m) + 8 * m) hp
  have h3 : (c.tmod (8 * m) + 8 * m) % (8 * m) = c % (8 * m) := by rw [Int.add_emod_right]; exact tmod_emod c hp
  rw [h3] at h1 h2 ⊢
  rw [turnL_len]
  refine ⟨?_, h1, by omega⟩
  rw [turnL_get (by omega), show (((c % (8 * (m : Int))).toNat : Nat) : Int) = c % (8 * m) by omega]
  unfold cosI
  rw [show ((8 * m : Nat) : Int) = 8 * (m : Int) by omega, Int.emod_emod_of_dvd _ (Int.dvd_refl _)]
/-- The samples so far, newest first: a block more. -/
def newH (x hist : List Int) (m : Nat) : List Int := x.reverse ++ hist.take (9 * m)
theorem newH_len {x hist : List Int} {m : Nat} (hx : x.length = m) (hh : hist.length = 10 * m) : (newH x hist m).length = 10 * m := by
  unfold newH; rw [List.length_append, List.length_reverse, List.length_take]; omega
/-- What was moved on. -/
theorem moved {hist : List Int} {m : Nat} (hh : hist.length = 10 * m) : setN (ints .i64 hist) m ((hist.map (Value.int .i64)).take (min (10 * m) (9 * m))) = ints .i64 (hist.take m ++ hist.take (9 * m)) := by
  have hl : ((hist.map (Value.int .i64)).take (min (10 * m) (9 * m))).length = 9 * m := by rw [List.length_take, List.length_map, hh]; omega
  rw [setN_eq _ _ _ (by rw [hl, ints_size, hh]; omega), hl, show min (10 * m) (9 * m) = 9 * m by omega]
  apply Array.ext'
  have hd : ((ints .i64 hist).toList.drop (m + 9 * m)) = [] := List.drop_eq_nil_of_le (by simp [ints, hh]; omega)
  rw [hd, List.append_nil]
  simp [ints, List.map_append, List.map_take]
def putH (x hist : List Int) (m i : Nat) : List Int := hist.take (m - i) ++ ((x.take i).reverse ++ hist.take (9 * m))
theorem putH_0 (x hist : List Int) (m : Nat) : putH x hist m 0 = hist.take m ++ hist.take (9 * m) := by simp [putH]
theorem putH_m {x hist : List Int} {m : Nat} (hx : x.length = m) : putH x hist m m = newH x hist m := by simp [putH, newH, List.take_of_length_le (Nat.le_of_eq hx)]
theorem putH_len {x hist : List Int} {m i : Nat} (hx : x.length = m) (hh : hist.length = 10 * m) (hi : i ≤ m) : (putH x hist m i).length = 10 * m := by
  unfold putH; simp only [List.length_append, List.length_take, List.length_reverse]; omega
theorem putH_step {x hist : List Int} {m i : Nat} (hx : x.length = m) (hh : hist.length = 10 * m) (hi : i < m) : (putH x hist m i).set (m - 1 - i) (x.getD i 0) = putH x hist m (i + 1) := by
  unfold putH
  have hl : (hist.take (m - i)).length = m - i := by rw [List.length_take]; omega
  rw [List.set_append_left _ _ (by omega), List.take_add_one, List.reverse_append]
  have ht : hist.take (m - i) = hist.take (m - (i + 1)) ++ [hist.getD (m - 1 - i) 0] := by
    rw [show m - i = m - (i + 1) + 1 by omega, List.take_add_one, show m - (i + 1) = m - 1 - i by omega]
    simp [show m - 1 - i < hist.length by omega]
  rw [ht, List.set_append_right _ _ (by rw [List.length_take]; omega)]
  have : m - 1 - i - (hist.take (m - (i + 1))).length = 0 := by rw [List.length_take]; omega
  rw [this]
  simp [show i < x.length by omega]
/-- The five products, each taken from the next. -/
def altS (f : Nat → Int) : Nat → Int
  | 0 => 0
  | k + 1 => f k - altS f k
theorem altS_in {f : Nat → Int} {B : Int} (hB : 0 ≤ B) : ∀ (k : Nat), (∀ i, i < k → -B ≤ f i ∧ f i ≤ B) → -(k * B) ≤ altS f k ∧ altS f k ≤ k * B
  | 0, _ => by simp [altS]
  | k + 1, h => by
    have h1 := altS_in hB k fun i hi => h i (by omega)
    have h2 := h k (by omega)
    simp only [altS]
    have : ((k + 1 : Nat) : Int) * B = k * B + B := by rw [Int.natCast_add, Int.add_mul]; simp
    omega
theorem alt_poly (x : List Int) (m j : Nat) : -altS (polyP x m j) 5 = polyN x m j := by
  simp only [altS, polyN]; omega
theorem filterL_in {m : Nat} (hm : m = 4 ∨ m = 8) (i : Nat) : -32768 ≤ (filterL m).getD i 0 ∧ (filterL m).getD i 0 ≤ 32767 := by
  by_cases hi : i < 10 * m
  · rw [filterL_get hi]
    obtain ⟨_, _, _, _, h1, h2⟩ := filt_in (m := m) (i := i) (by omega) (by omega) (by omega)
    exact ⟨h1, h2⟩
  · rw [List.getD_eq_getElem?_getD, List.getElem?_eq_none (by rw [filterL_len]; omega)]; simp
def in16 (l : List Int) : Prop := ∀ a ∈ l, -32768 ≤ a ∧ a ≤ 32767
theorem in16.get {l : List Int} (h : in16 l) (i : Nat) : -32768 ≤ l.getD i 0 ∧ l.getD i 0 ≤ 32767 := by
  by_cases hi : i < l.length
  · have : l.getD i 0 ∈ l := by rw [List.getD_eq_getElem?_getD, List.getElem?_eq_getElem hi]; exact List.getElem_mem hi
    exact h _ this
  · rw [List.getD_eq_getElem?_getD, List.getElem?_eq_none (by omega)]; simp
theorem in16.new {x hist : List Int} {m : Nat} (hx : in16 x) (hh : in16 hist) : in16 (newH x hist m) := by
  intro a ha
  rcases List.mem_append.1 ha with h | h
  · exact hx a (List.mem_reverse.1 h)
  · exact hh a (List.mem_of_mem_take h)
theorem polyP_in {x : List Int} (hx : in16 x) {m : Nat} (hm : m = 4 ∨ m = 8) (j k : Nat) : -1073741824 ≤ polyP x m j k ∧ polyP x m j k ≤ 1073741824 := prod_in (X := 32768) (Y := 32768) (by have := hx.get (j + 2 * m * k); omega) (by have := filterL_in hm (j + 2 * m * k); omega)
def yL (x : List Int) (m : Nat) : List Int := (List.range (2 * m)).map (polyY x m)
theorem yL_len (x : List Int) (m : Nat) : (yL x m).length = 2 * m := by simp [yL]
theorem yL_get {x : List Int} {m j : Nat} (h : j < 2 * m) : (yL x m).getD j 0 = polyY x m j := by simp [yL, h]
theorem splitL_len (x : List Int) (m : Nat) : (splitL x m).length = m := by simp [splitL]
theorem splitL_get {x : List Int} {m j : Nat} (h : j < m) : (splitL x m).getD j 0 = splitI x m j := by simp [splitL, h]
/-- One product of the second sum. -/
def polyQ (x : List Int) (m i j : Nat) : Int := polyY x m j * cosI ((2 * i + 1) * (2 * j - m)) (8 * m)
theorem polyQ_in (x : List Int) {m : Nat} (hm : m = 4 ∨ m = 8) (i j : Nat) : -70368744177664 ≤ polyQ x m i j ∧ polyQ x m i j ≤ 70368744177664 := by
  have h1 := rsat_in (polyN x m j) 14
  have h2 := cos_in ((2 * i + 1) * (2 * j - m)) (show (0 : Int) < 8 * m by omega)
  exact prod_in (X := 2147483648) (Y := 32768) (by unfold polyY; omega) (by omega)
theorem split_sum (x : List Int) (m i : Nat) : splitI x m i = rsat (sumN (polyQ x m i) (2 * m)) (polyS m) := rfl
theorem arg_in {m i j : Nat} (hm : m = 4 ∨ m = 8) (hi : i < m) (hj : j < 2 * m) : -1000 ≤ (2 * (i : Int) + 1) * (2 * j - m) ∧ (2 * (i : Int) + 1) * (2 * j - m) ≤ 1000 := by
  have := prod_in (x := 2 * (i : Int) + 1) (y := 2 * (j : Int) - m) (X := 17) (Y := 32) (by omega) (by omega)
  omega
theorem at_in {m j k : Nat} (hm : m = 4 ∨ m = 8) (hj : j < 2 * m) (hk : k < 5) : 2 * m * k ≤ 64 ∧ j + 2 * m * k < 10 * m := by
  have : k = 0 ∨ k = 1 ∨ k = 2 ∨ k = 3 ∨ k = 4 := by omega
  rcases hm with rfl | rfl <;> rcases this with rfl | rfl | rfl | rfl | rfl <;> omega
theorem polyS_eq {m : Nat} (hm : m = 4 ∨ m = 8) : 16 + (m : Int) / 4 = polyS m := by rcases hm with rfl | rfl <;> rfl
/-- Numbers in blocks of m. -/
def blkL (xs : List Int) (m i : Nat) : List Int := (xs.drop (i * m)).take m
def cutL (xs : List Int) (m : Nat) : List (List Int) := (List.range (xs.length / m)).map (blkL xs m)
theorem blkL_len {xs : List Int} {m i : Nat} (h : i * m + m ≤ xs.length) : (blkL xs m i).length = m := by unfold blkL; rw [List.length_take, List.length_drop]; omega
theorem cut_end {n m j : Nat} (hm : 0 < m) (h1 : j * m ≤ n) (h2 : ¬ (j * m + m ≤ n)) : j = n / m := by
  symm
  apply Nat.div_eq_of_lt_le h1
  rw [Nat.add_mul, Nat.one_mul]; omega
/-- What of the blocks is read already, newest first. -/
def readX (bs : List (List Int)) (c : Nat) : List Int := (bs.drop (bs.length - c)).flatten.reverse
theorem readX_0 (bs : List (List Int)) : readX bs 0 = [] := by simp [readX]
theorem readX_all (bs : List (List Int)) : readX bs bs.length = bs.flatten.reverse := by simp [readX]
theorem readX_step {bs : List (List Int)} {c : Nat} (h : c < bs.length) : readX bs (c + 1) = readX bs c ++ (bs.getD (bs.length - 1 - c) []).reverse := by
  unfold readX
  have hlt : bs.length - (c + 1) < bs.length := by omega
  rw [List.drop_eq_getElem_cons hlt, List.flatten_cons, List.reverse_append, show bs.length - (c + 1) + 1 = bs.length - c by omega]
  congr 2
  rw [List.getD_eq_getElem?_getD, List.getElem?_eq_getElem (by omega)]
  simp only [Option.getD_some]
  congr 1
  omega
theorem flat_length {bs : List (List Int)} {m : Nat} (h : ∀ b ∈ bs, b.length = m) : bs.flatten.length = bs.length * m := by
  induction bs with
  | nil => simp
  | cons b bs ih => rw [List.flatten_cons, List.length_append, h b (List.mem_cons_self ..), ih (fun c hc => h c (List.mem_cons_of_mem _ hc)), List.length_cons, Nat.add_mul]; omega
theorem readX_len {bs : List (List Int)} {m c : Nat} (h : ∀ b ∈ bs, b.length = m) (hc : c ≤ bs.length) : (readX bs c).length = c * m := by
  unfold readX
  rw [List.length_reverse, flat_length (m := m) (fun b hb => h b (List.mem_of_mem_drop hb)), List.length_drop]
  congr 1; omega
theorem rev_take_step {b : List Int} {m q : Nat} (hb : b.length = m) (hq : q < m) : b.reverse.take (q + 1) = b.reverse.take q ++ [b.getD (m - 1 - q) 0] := by
  rw [List.take_add_one, List.getElem?_reverse (by omega)]
  rw [show b.length - 1 - q = m - 1 - q by omega]
  simp [show m - 1 - q < b.length by omega]
def polyR (x : List Int) (m j k : Nat) : Int := if k % 2 = 0 then -polyP x m j k else polyP x m j k
theorem polyR_sum (x : List Int) (m j : Nat) : sumN (polyR x m j) 5 = polyN x m j := by
  simp only [sumN, polyR, polyN]; simp; omega
theorem polyR_in {x : List Int} (hx : in16 x) {m : Nat} (hm : m = 4 ∨ m = 8) (j k : Nat) : -1073741824 ≤ polyR x m j k ∧ polyR x m j k ≤ 1073741824 := by
  have := polyP_in hx hm j k
  unfold polyR; split <;> omega
/-- Only the last 10 m samples tell. -/
theorem splitL_congr {x y : List Int} {m : Nat} (hm : m = 4 ∨ m = 8) (h : ∀ i, i < 10 * m → x.getD i 0 = y.getD i 0) : splitL x m = splitL y m := by
  unfold splitL
  refine List.map_congr_left fun i hi => ?_
  unfold splitI
  congr 1
  refine sumN_congr _ fun j hj => ?_
  have hP : ∀ k, k < 5 → polyP x m j k = polyP y m j k := fun k hk => by
    unfold polyP
    rw [h _ (at_in hm hj hk).2]
  unfold polyY polyN
  rw [hP 0 (by omega), hP 1 (by omega), hP 2 (by omega), hP 3 (by omega), hP 4 (by omega)]
theorem splitL_pad (x : List Int) {m : Nat} (hm : m = 4 ∨ m = 8) (z : Nat) : splitL (x ++ List.replicate z 0) m = splitL x m :=
  splitL_congr hm fun i _ => by
    simp only [List.getD_eq_getElem?_getD, List.getElem?_append]
    split
    · rfl
    · rename_i hi
      rw [List.getElem?_eq_none (show x.length ≤ i by omega), List.getElem?_replicate]
      split <;> rfl
/-- The state behind some blocks. -/
def histL (bs : List (List Int)) (m : Nat) : List Int := (bs.flatten.reverse ++ List.replicate (10 * m) 0).take (10 * m)
theorem histL_nil (m : Nat) : histL [] m = List.replicate (10 * m) 0 := by simp [histL]
theorem histL_len (bs : List (List Int)) (m : Nat) : (histL bs m).length = 10 * m := by simp [histL]
theorem histL_step {bs : List (List Int)} {b : List Int} {m : Nat} (hb : b.length = m) : newH b (histL bs m) m = histL (bs ++ [b]) m := by
  unfold newH histL
  rw [List.flatten_append, List.reverse_append]
  simp only [List.flatten_cons, List.flatten_nil, List.append_nil, List.append_assoc]
  have e : ∀ F : List Int, List.take (10 * m) (b.reverse ++ F) = b.reverse ++ List.take (9 * m) F := fun F => by
    rw [List.take_append, List.take_of_length_le (by rw [List.length_reverse]; omega), List.length_reverse, hb, show 10 * m - m = 9 * m by omega]
  rw [e, List.take_take, show min (9 * m) (10 * m) = 9 * m by omega]
theorem histL_split (bs : List (List Int)) {m : Nat} (hm : m = 4 ∨ m = 8) : splitL (histL bs m) m = splitL bs.flatten.reverse m := by
  rw [← splitL_pad bs.flatten.reverse hm (10 * m)]
  exact splitL_congr hm fun i hi => by unfold histL; simp only [List.getD_eq_getElem?_getD, List.getElem?_take, hi, if_true]

theorem rsat_0 (s : Int) : rsat 0 s = 0 := by unfold rsat roundI; split <;> simp [clampI]
theorem sumN_0 {f : Nat → Int} : ∀ (k : Nat), (∀ i, i < k → f i = 0) → sumN f k = 0
  | 0, _ => rfl
  | k + 1, h => by simp only [sumN]; rw [sumN_0 k fun i hi => h i (by omega), h k (by omega)]; rfl
theorem splitL_zero {x : List Int} {m : Nat} (h : ∀ i, x.getD i 0 = 0) : splitL x m = List.replicate m 0 := by
  unfold splitL
  have hi : ∀ i, splitI x m i = 0 := fun i => by
    unfold splitI
    rw [sumN_0 _ fun j _ => by
      have hP : ∀ k, polyP x m j k = 0 := fun k => by unfold polyP; rw [h, Int.zero_mul]
      have : polyY x m j = 0 := by unfold polyY polyN; simp only [hP]; exact rsat_0 14
      rw [this, Int.zero_mul]]
    exact rsat_0 _
  rw [List.map_congr_left (g := fun _ => (0 : Int)) fun i _ => hi i, List.map_const', List.length_range]
theorem getD_rep (n i : Nat) : (List.replicate n (0 : Int)).getD i 0 = 0 := by
  rw [List.getD_eq_getElem?_getD, List.getElem?_replicate]; split <;> rfl
theorem in16_rep (n : Nat) : in16 (List.replicate n 0) := fun a ha => by rw [List.eq_of_mem_replicate ha]; omega
theorem in16_hist {bs : List (List Int)} (m : Nat) (h : ∀ b ∈ bs, in16 b) : in16 (histL bs m) := by
  intro a ha
  rcases List.mem_append.1 (List.mem_of_mem_take ha) with h1 | h1
  · obtain ⟨b, hb1, hb2⟩ := List.mem_flatten.1 (List.mem_reverse.1 h1)
    exact h b hb1 a hb2
  · rw [List.eq_of_mem_replicate h1]; omega
theorem take_stepL {bs : List (List Int)} {i : Nat} (h : i < bs.length) : bs.take i ++ [bs.getD i []] = bs.take (i + 1) := by
  rw [List.take_add_one]; simp [h]
theorem cutL_in {xs : List Int} {m : Nat} (hm : 0 < m) {b : List Int} (h : b ∈ cutL xs m) : b.length = m ∧ ∀ a ∈ b, a ∈ xs := by
  obtain ⟨i, hi, rfl⟩ := List.mem_map.1 h
  rw [List.mem_range] at hi
  refine ⟨blkL_len ?_, fun a ha => List.mem_of_mem_drop (List.mem_of_mem_take ha)⟩
  have := Nat.div_mul_le_self xs.length m
  have h2 : (i + 1) * m ≤ xs.length / m * m := Nat.mul_le_mul_right _ hi
  rw [Nat.add_mul, Nat.one_mul] at h2
  omega
theorem cutL_len (xs : List Int) (m : Nat) : (cutL xs m).length = xs.length / m := by simp [cutL]
end Go.Eng
