/- Plain words of the layer 8: bands joined. No program in sight. No condition. -/
import Derived.Test.YtjmnidcfgkdhcaaPd
namespace Go.Eng
set_option linter.unusedVariables false
set_option linter.unusedSimpArgs false

def in32 (l : List Int) : Prop := ∀ a ∈ l, -2147483648 ≤ a ∧ a ≤ 2147483647
theorem in32.get {l : List Int} (h : in32 l) (i : Nat) : -2147483648 ≤ l.getD i 0 ∧ l.getD i 0 ≤ 2147483647 := by
  by_cases hi : i < l.length
  · have : l.getD i 0 ∈ l := by rw [List.getD_eq_getElem?_getD, List.getElem?_eq_getElem hi]; exact List.getElem_mem hi
    exact h _ this
  · rw [List.getD_eq_getElem?_getD, List.getElem?_eq_none (by omega)]; simp
theorem in32_rep (n : Nat) : in32 (List.replicate n 0) := fun a ha => by rw [List.eq_of_mem_replicate ha]; omega
theorem in32.app {a b : List Int} (h1 : in32 a) (h2 : in32 b) : in32 (a ++ b) := fun x hx => (List.mem_append.1 hx).elim (h1 x) (h2 x)
theorem in32.take {a : List Int} (h : in32 a) (n : Nat) : in32 (a.take n) := fun x hx => h x (List.mem_of_mem_take hx)
/-- Some numbers moved on, within a list. -/
theorem movedG {hist : List Int} {k : IntKind} {n a b : Nat} (hh : hist.length = n) (hn : n = a + b) : setN (ints k hist) a ((hist.map (Value.int k)).take (min n b)) = ints k (hist.take a ++ hist.take b) := by
  have hl : ((hist.map (Value.int k)).take (min n b)).length = b := by rw [List.length_take, List.length_map, hh]; omega
  rw [setN_eq _ _ _ (by rw [hl, ints_size, hh]; omega), hl, show min n b = b by omega]
  apply Array.ext'
  have hd : ((ints k hist).toList.drop (a + b)) = [] := List.drop_eq_nil_of_le (by simp [ints, hh]; omega)
  rw [hd, List.append_nil]
  simp [ints, List.map_append, List.map_take]
/-- A list written over from its head on. -/
theorem over_step {xs ys : List Int} {k : Nat} (h1 : k < xs.length) (h2 : k < ys.length) : (xs.take k ++ ys.drop k).set k (xs.getD k 0) = xs.take (k + 1) ++ ys.drop (k + 1) := by
  have hl : (xs.take k).length = k := by rw [List.length_take]; omega
  rw [List.set_append_right _ _ (by omega), hl, Nat.sub_self, List.take_add_one, List.append_assoc]
  congr 1
  rw [List.drop_eq_getElem_cons h2]
  simp only [List.set_cons_zero, List.getElem?_eq_getElem h1, Option.toList, List.getD_eq_getElem?_getD, Option.getD_some, List.cons_append, List.nil_append]
def joinP (s : List Int) (m k b : Nat) : Int := s.getD b 0 * cosI ((2 * b + 1) * (2 * k + m)) (8 * m)
def joinV (s : List Int) (m k : Nat) : Int := rsat (sumN (joinP s m k) m) 15
def vL (s : List Int) (m : Nat) : List Int := (List.range (2 * m)).map (joinV s m)
theorem vL_len (s : List Int) (m : Nat) : (vL s m).length = 2 * m := by simp [vL]
theorem vL_get {s : List Int} {m k : Nat} (h : k < 2 * m) : (vL s m).getD k 0 = joinV s m k := by simp [vL, h]
theorem vL_in (s : List Int) (m : Nat) : in32 (vL s m) := by
  intro a ha
  obtain ⟨k, _, rfl⟩ := List.mem_map.1 ha
  exact rsat_in _ _
theorem joinP_in {s : List Int} (hs : in32 s) {m : Nat} (hm : m = 4 ∨ m = 8) (k b : Nat) : -70368744177664 ≤ joinP s m k b ∧ joinP s m k b ≤ 70368744177664 := by
  have h2 := cos_in ((2 * b + 1) * (2 * k + m)) (show (0 : Int) < 8 * m by omega)
  exact prod_in (X := 2147483648) (Y := 32768) (by have := hs.get b; omega) (by omega)
theorem arg_in2 {m k b : Nat} (hm : m = 4 ∨ m = 8) (hk : k < 2 * m) (hb : b < m) : -1000 ≤ (2 * (b : Int) + 1) * (2 * k + m) ∧ (2 * (b : Int) + 1) * (2 * k + m) ≤ 1000 := by
  have := prod_in (x := 2 * (b : Int) + 1) (y := 2 * (k : Int) + m) (X := 17) (Y := 40) (by omega) (by omega)
  omega
/-- What is told of 20 m numbers. -/
def joinA (v : List Int) (m j i : Nat) : Int := v.getD (4 * m * i + j) 0 * (filterL m).getD (2 * m * i + j) 0
def joinB (v : List Int) (m j i : Nat) : Int := v.getD (4 * m * i + 3 * m + j) 0 * (filterL m).getD (2 * m * i + m + j) 0
def joinF (v : List Int) (m j i : Nat) : Int := joinA v m j i + joinB v m j i
def joinR (v : List Int) (m j i : Nat) : Int := if i % 2 = 1 then -joinF v m j i else joinF v m j i
def joinI (v : List Int) (m j : Nat) : Int := clampI (roundI (sumN (joinR v m j) 5) 14) (-32768) 32767
def joinL (v : List Int) (m : Nat) : List Int := (List.range m).map (joinI v m)
theorem joinL_len (v : List Int) (m : Nat) : (joinL v m).length = m := by simp [joinL]
theorem joinL_get {v : List Int} {m j : Nat} (h : j < m) : (joinL v m).getD j 0 = joinI v m j := by simp [joinL, h]
theorem join_alt (v : List Int) (m j : Nat) : altS (joinF v m j) 5 = sumN (joinR v m j) 5 := by
  simp only [altS, sumN, joinR]; simp; omega
theorem joinAB_in {v : List Int} (hv : in32 v) {m : Nat} (hm : m = 4 ∨ m = 8) (j i : Nat) : (-70368744177664 ≤ joinA v m j i ∧ joinA v m j i ≤ 70368744177664) ∧ -70368744177664 ≤ joinB v m j i ∧ joinB v m j i ≤ 70368744177664 :=
  ⟨prod_in (X := 2147483648) (Y := 32768) (by have := hv.get (4 * m * i + j); omega) (by have := filterL_in hm (2 * m * i + j); omega),
   prod_in (X := 2147483648) (Y := 32768) (by have := hv.get (4 * m * i + 3 * m + j); omega) (by have := filterL_in hm (2 * m * i + m + j); omega)⟩
theorem joinF_in {v : List Int} (hv : in32 v) {m : Nat} (hm : m = 4 ∨ m = 8) (j i : Nat) : -140737488355328 ≤ joinF v m j i ∧ joinF v m j i ≤ 140737488355328 := by
  have := joinAB_in hv hm j i
  unfold joinF; omega
theorem joinR_in {v : List Int} (hv : in32 v) {m : Nat} (hm : m = 4 ∨ m = 8) (j i : Nat) : -140737488355328 ≤ joinR v m j i ∧ joinR v m j i ≤ 140737488355328 := by
  have := joinF_in hv hm j i
  unfold joinR; split <;> omega
theorem at_in2 {m j i : Nat} (hm : m = 4 ∨ m = 8) (hj : j < m) (hi : i < 5) : (4 * m * i ≤ 128 ∧ 2 * m * i ≤ 64 ∧ 4 * m * i = 2 * (2 * m * i)) ∧ 4 * m * i + j < 20 * m ∧ 4 * m * i + 3 * m + j < 20 * m ∧ 2 * m * i + j < 10 * m ∧ 2 * m * i + m + j < 10 * m := by
  have : i = 0 ∨ i = 1 ∨ i = 2 ∨ i = 3 ∨ i = 4 := by omega
  rcases hm with rfl | rfl <;> rcases this with rfl | rfl | rfl | rfl | rfl <;> omega
theorem joinL_congr {x y : List Int} {m : Nat} (hm : m = 4 ∨ m = 8) (h : ∀ i, i < 20 * m → x.getD i 0 = y.getD i 0) : joinL x m = joinL y m := by
  unfold joinL
  refine List.map_congr_left fun j hj => ?_
  rw [List.mem_range] at hj
  unfold joinI
  congr 2
  refine sumN_congr _ fun i hi => ?_
  have := at_in2 hm hj hi
  unfold joinR joinF joinA joinB
  rw [h _ this.2.1, h _ this.2.2.1]
/-- All numbers of blocks, those of the newest block first. -/
def allV (bs : List (List Int)) (m : Nat) : List Int := (bs.reverse.map fun s => vL s m).flatten
theorem allV_len (bs : List (List Int)) (m : Nat) : (allV bs m).length = bs.length * (2 * m) := by
  unfold allV
  rw [flat_length (m := 2 * m) (fun b hb => by obtain ⟨s, _, rfl⟩ := List.mem_map.1 hb; exact vL_len s m), List.length_map, List.length_reverse]
theorem allV_in (bs : List (List Int)) (m : Nat) : in32 (allV bs m) := by
  intro a ha
  obtain ⟨l, hl, ha⟩ := List.mem_flatten.1 ha
  obtain ⟨s, _, rfl⟩ := List.mem_map.1 hl
  exact vL_in s m a ha
theorem allV_app (a b : List (List Int)) (m : Nat) : allV (a ++ b) m = allV b m ++ allV a m := by
  unfold allV; rw [List.reverse_append, List.map_append, List.flatten_append]
theorem allV_one (s : List Int) (m : Nat) : allV [s] m = vL s m := by simp [allV]
def readV (bs : List (List Int)) (m c : Nat) : List Int := allV (bs.drop (bs.length - c)) m
theorem readV_0 (bs : List (List Int)) (m : Nat) : readV bs m 0 = [] := by simp [readV, allV]
theorem readV_len {bs : List (List Int)} {m c : Nat} (hc : c ≤ bs.length) : (readV bs m c).length = c * (2 * m) := by
  unfold readV; rw [allV_len, List.length_drop]; congr 1; omega
theorem readV_step {bs : List (List Int)} {m c : Nat} (h : c < bs.length) : readV bs m (c + 1) = readV bs m c ++ vL (bs.getD (bs.length - 1 - c) []) m := by
  unfold readV
  have hlt : bs.length - (c + 1) < bs.length := by omega
  rw [List.drop_eq_getElem_cons hlt, ← List.singleton_append, allV_app, allV_one, show bs.length - (c + 1) + 1 = bs.length - c by omega]
  congr 2
  rw [List.getD_eq_getElem?_getD, List.getElem?_eq_getElem (by omega)]
  simp only [Option.getD_some]
  congr 1
  omega
theorem readV_all {bs : List (List Int)} {m c : Nat} (hm : m = 4 ∨ m = 8) (hc : c ≤ bs.length) (h : c = bs.length ∨ 20 * m ≤ (readV bs m c).length) (z : Nat) : joinL (readV bs m c ++ List.replicate z 0) m = joinL (allV bs m) m := by
  refine joinL_congr hm fun i hi => ?_
  have e : allV bs m = readV bs m c ++ allV (bs.take (bs.length - c)) m := by
    unfold readV; rw [← allV_app, List.take_append_drop]
  rw [List.getD_eq_getElem?_getD, List.getElem?_append]
  rcases h with rfl | h
  · have e2 : readV bs m bs.length = allV bs m := by simp [readV]
    rw [e2]
    split
    · rw [List.getD_eq_getElem?_getD]
    · rename_i h2
      rw [List.getElem?_replicate, List.getD_eq_getElem?_getD, List.getElem?_eq_none (show (allV bs m).length ≤ i by omega)]
      split <;> rfl
  · rw [if_pos (by omega), e, List.getD_eq_getElem?_getD, List.getElem?_append, if_pos (by omega)]
/-- The state behind some blocks. -/
def newV (s hist : List Int) (m : Nat) : List Int := vL s m ++ hist.take (18 * m)
theorem newV_len {s hist : List Int} {m : Nat} (hh : hist.length = 20 * m) : (newV s hist m).length = 20 * m := by
  unfold newV; rw [List.length_append, vL_len, List.length_take]; omega
theorem newV_in {s hist : List Int} (m : Nat) (hh : in32 hist) : in32 (newV s hist m) := (vL_in s m).app (hh.take _)
def histV (bs : List (List Int)) (m : Nat) : List Int := (allV bs m ++ List.replicate (20 * m) 0).take (20 * m)
theorem histV_nil (m : Nat) : histV [] m = List.replicate (20 * m) 0 := by simp [histV, allV]
theorem histV_len (bs : List (List Int)) (m : Nat) : (histV bs m).length = 20 * m := by simp [histV]
theorem histV_in (bs : List (List Int)) (m : Nat) : in32 (histV bs m) := ((allV_in bs m).app (in32_rep _)).take _
theorem histV_step (bs : List (List Int)) (b : List Int) (m : Nat) : newV b (histV bs m) m = histV (bs ++ [b]) m := by
  unfold newV histV
  rw [allV_app, allV_one, List.append_assoc]
  have e : ∀ F : List Int, List.take (20 * m) (vL b m ++ F) = vL b m ++ List.take (18 * m) F := fun F => by
    rw [List.take_append, List.take_of_length_le (by rw [vL_len]; omega), vL_len, show 20 * m - 2 * m = 18 * m by omega]
  rw [e, List.take_take, show min (18 * m) (20 * m) = 18 * m by omega]
theorem histV_join (bs : List (List Int)) {m : Nat} (hm : m = 4 ∨ m = 8) : joinL (histV bs m) m = joinL (allV bs m) m := by
  refine joinL_congr hm fun i hi => ?_
  unfold histV
  simp only [List.getD_eq_getElem?_getD, List.getElem?_take, hi, if_true, List.getElem?_append]
  split
  · rfl
  · rename_i h
    rw [List.getElem?_replicate, List.getElem?_eq_none (show (allV bs m).length ≤ i by omega)]
    split <;> rfl
end Go.Eng
