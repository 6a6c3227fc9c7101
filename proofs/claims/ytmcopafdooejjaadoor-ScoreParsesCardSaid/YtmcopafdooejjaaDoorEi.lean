/- The engine, part 9: rows: out of a contract over all the blocks there are, what a row's statement asks; arguments opened. No condition. -/
import Derived.Test.YtmcopafdooejjaaDoorEh
import Derived.ProofKit
import Derived.Deep.Slices
import Derived.DataReads
import Derived.Laws.StructEq
namespace Go.Eng
open Go.ChangeShapes Go.WideShapes Go.ChangeAt Go.RowKit
set_option linter.unusedSimpArgs false
set_option linter.unusedVariables false

/-- All the blocks of a world. -/
def allH (W : World) : Hp := W.heap.toList.zipIdx.map fun p => (p.2, p.1)
theorem mem_allH {W : World} {b : Nat} {o : Obj} : (b, o) ∈ allH W ↔ W.heap[b]? = some o := by
  unfold allH
  rw [List.mem_map]
  constructor
  · rintro ⟨⟨p, i⟩, hm, he⟩
    obtain ⟨rfl, rfl⟩ := Prod.mk.inj he
    have := List.mem_zipIdx_iff_getElem?.1 hm
    simpa using this
  · intro h
    exact ⟨(o, b), List.mem_zipIdx_iff_getElem?.2 (by simpa using h), rfl⟩
theorem holds_allH (W : World) : Holds W (allH W) := by
  refine ⟨?_, fun b o h => mem_allH.1 h⟩
  unfold allH
  rw [List.map_map]
  have : (W.heap.toList.zipIdx.map (Prod.fst ∘ fun p => (p.2, p.1))) = List.range W.heap.toList.length := by
    apply List.ext_getElem?
    intro i
    simp only [List.getElem?_map, List.getElem?_zipIdx, List.getElem?_range']
    by_cases hi : i < W.heap.toList.length
    · simp [hi] at *; rw [List.getElem?_range (by simpa using hi)]; simp [show i < W.heap.size by simpa using hi]
    · rw [List.getElem?_eq_none (by omega), List.getElem?_eq_none (by simp at hi ⊢; omega)]; rfl
  rw [this]
  exact List.nodup_range
theorem row_calls {P : Program} {f : FuncId} {vs : List Value} {W : World} (c : Ctr P f vs [allH W] fun v ho => v = .bool true ∧ ho = [allH W]) : Calls P f vs.toArray W fun e W' => e = .returned (.bool true) ∧ Below W.heap.size W W' := by
  refine (c [] W (by simpa using holds_allH W)).mono ?_
  rintro e W' ⟨v, ho, rfl, ⟨rfl, rfl⟩, hev, X, hX⟩
  refine ⟨rfl, hev.os, hev.tape, hev.output, hev.size, fun k hk => ?_⟩
  have hw : W.heap[k]? = some (W.heap[k]) := by simp
  rw [hw]
  exact hX.rd k _ (List.mem_append.2 (.inl (by simpa using mem_allH.2 hw)))
theorem Ctr.of_nil {P : Program} {f : FuncId} {vs : List Value} {A : Hp} {u : Value} (c : Ctr P f vs [] fun v ho => v = u ∧ ho = []) : Ctr P f vs [A] fun v ho => v = u ∧ ho = [A] :=
  (Ctr.frame c [A]).mono fun _ _ ⟨ho', h1, h2, h3⟩ => ⟨h2, by rw [h1, h3]; rfl⟩

section
variable {H : Type} {enc : TypeId × Value → H} {P : Program}
theorem trodAll_below (hl : laidOutB P = true) {W W' : World} (hb : Below W.heap.size W W') : ∀ (ts : List TypeId) (vs : List Value) (ds : List (DataW H)) (ps : List MemPlace), (∀ t ∈ ts, P.readableRec t = true ∧ t < P.types.size) →
    DataW.TrodAll enc P W 0 (fun _ => true) true ts vs ds ps → (∀ x ∈ ps, x.block < W.heap.size) → DataW.TrodAll enc P W' 0 (fun b => decide (b < W.heap.size)) true ts vs ds ps
  | [], [], [], _, _, h, _ => h
  | t :: ts, v :: vs, d :: ds, ps, ht, h, hlt => by
    obtain ⟨p, q, h1, h2, rfl⟩ := h
    refine ⟨p, q, Below.trod hl (ht t (List.mem_cons_self ..)).1 (ht t (List.mem_cons_self ..)).2 h1 hb (fun x hx => hlt x (List.mem_append.2 (.inl hx))), ?_, rfl⟩
    exact trodAll_below hl hb ts vs ds q (fun t ht' => ht t (List.mem_cons_of_mem _ ht')) h2 (fun x hx => hlt x (List.mem_append.2 (.inr hx)))
  | [], [], _ :: _, _, _, h, _ => h.elim
  | [], _ :: _, _, _, _, h, _ => h.elim
  | _ :: _, [], _, _, _, h, _ => h.elim
  | _ :: _, _ :: _, [], _, _, h, _ => h.elim

/-- What a law's row asks at the end: true; the arguments read as they did; nothing old has turned. -/
theorem post_law {f : Func} {s : ChangeSpec} {apart fresh handsOn : Bool} {W W' : World} {args : Array Value} {ds gs : List (DataW H)} {before : List MemPlace} {t : TypeId} (hl : laidOutB P = true) (hr : (f.params.toList.all fun t => P.readableRec t && decide (t < P.types.size)) = true)
    (hv : s.vars = []) (hW : DataW.Whole enc P f.params.toList s.vars apart W args.toList ds gs before) (hb : Below W.heap.size W W') (hs : s.fn H (ds ++ gs) = { results := [.lit (.bool true)], args := ds }) (hrt : f.resultTypes = #[t]) (hbool : P.underlying t = some .bool) :
    s.post enc P f apart fresh handsOn false W args (.bool true) W' := by
  have hW' := hW
  obtain ⟨p, q, hA, hV, rfl, _, _⟩ := hW'
  rw [hv] at hV
  have hq : q = [] ∧ gs = [] := by
    cases gs with
    | nil => exact ⟨hV, rfl⟩
    | cons g gs => exact hV.elim
  obtain ⟨rfl, rfl⟩ := hq
  have hlt : ∀ x ∈ p, x.block < W.heap.size := fun x hx => hW.lt x (by simpa using hx)
  refine ⟨ds, [], p ++ [], [], p, [], hW, ?_, ?_, ?_, hb.frame _, fun h => by cases h⟩
  · rw [hs, hrt]
    exact trodAll_mk1 (shut_bool hbool true)
  · rw [hs]
    refine trodAll_below hl hb _ _ _ _ (fun t ht => ?_) hA hlt
    have := List.all_eq_true.1 hr t ht
    simpa using this
  · rw [hs, hv]
    exact rfl

/-! ### Arguments -/
variable {W : World}
theorem open_int' {base : Nat} {r : Reach} {b0 : Nat} {sp : Nat → Bool} {hd : Bool} {t : TypeId} {k : IntKind} {v : Value} {d : DataW H} {ps : List MemPlace} (ht : intB P t = some k) (hval : Value.okWide P W r b0 t v) (h : DataW.Trod enc P W base sp hd t v d ps) : ∃ n, v = .int k n ∧ (Lit.int k n).wf = true := by
  have hu : P.underlying t = some (.int k) := by
    unfold intB at ht
    split at ht
    · rename_i k' hk; rw [hk, Option.some.inj ht]
    · cases ht
  obtain ⟨n, h1, _, _, h4⟩ := open_int hu hval h
  exact ⟨n, h1, h4⟩

theorem wf_i64 {n : Int} (h : (Lit.int .i64 n).wf = true) : -9223372036854775808 ≤ n ∧ n ≤ 9223372036854775807 := by
  simp [Lit.wf, IntKind.min, IntKind.max, IntKind.bits, IntKind.signed] at h
  omega
theorem wf_i32 {n : Int} (h : (Lit.int .i32 n).wf = true) : -2147483648 ≤ n ∧ n ≤ 2147483647 := by
  simp [Lit.wf, IntKind.min, IntKind.max, IntKind.bits, IntKind.signed] at h
  omega
theorem wf_i16 {n : Int} (h : (Lit.int .i16 n).wf = true) : -32768 ≤ n ∧ n ≤ 32767 := by
  simp [Lit.wf, IntKind.min, IntKind.max, IntKind.bits, IntKind.signed] at h
  omega
/-- A struct of two numbers. -/
def pairB (P : Program) (t : Nat) : Option (IntKind × IntKind) := match P.underlying t with
  | some (.struct fs) => match fs.toList with
    | [f0, f1] => match intB P f0.type, intB P f1.type, Nat.beq f0.offset 0 && Nat.beq f1.offset 1 && Nat.beq (P.cellsOf t) 2 && Nat.beq (P.cellsOf f0.type) 1 && Nat.beq (P.cellsOf f1.type) 1 with
      | some k0, some k1, true => some (k0, k1)
      | _, _, _ => none
    | _ => none
  | _ => none
theorem intB_spec {t : Nat} {k : IntKind} (ht : intB P t = some k) : P.underlying t = some (.int k) := by
  unfold intB at ht
  split at ht
  · rename_i k' hk; rw [hk, Option.some.inj ht]
  · cases ht
theorem pair_cells {base : Nat} {sp : Nat → Bool} {hd : Bool} {t : Nat} {k0 k1 : IntKind} (ht : pairB P t = some (k0, k1)) {fuel : Nat} {cs : List Value} {x : DataW H × List MemPlace} (h : DataW.trod enc P W base sp hd fuel t cs = some x) :
    ∃ m n, cs = [.int k0 m, .int k1 n] ∧ (Lit.int k0 m).wf = true ∧ (Lit.int k1 n).wf = true := by
  unfold pairB at ht
  split at ht
  · rename_i fs hu0
    split at ht
    · rename_i f0 f1 hfs
      have hu : P.underlying t = some (.struct #[f0, f1]) := by rw [hu0]; congr 2; exact Array.ext' hfs
      split at ht
      rename_i a0 a1 h0 h1 hb
      obtain ⟨rfl, rfl⟩ := Prod.mk.inj (Option.some.inj ht)
      simp only [Bool.and_eq_true] at hb
      obtain ⟨⟨⟨⟨b1, b2⟩, b3⟩, b4⟩, b5⟩ := hb
      have b1 := Nat.eq_of_beq_eq_true b1
      have b2 := Nat.eq_of_beq_eq_true b2
      have b3 := Nat.eq_of_beq_eq_true b3
      have b4 := Nat.eq_of_beq_eq_true b4
      have b5 := Nat.eq_of_beq_eq_true b5
      obtain ⟨y0, y1, n, _, hl, hy0, hy1⟩ := trod_struct2 hu h
      rw [b1, b4] at hy0
      rw [b2, b5] at hy1
      rw [b3] at hl
      match cs, hl with
      | [c0, c1], _ =>
        simp only [List.drop_zero, List.take_succ_cons, List.take_zero, List.drop_succ_cons] at hy0 hy1
        obtain ⟨m, e1, _, w1⟩ := DataW.trod_int (intB_spec h0) hy0
        obtain ⟨m', e2, _, w2⟩ := DataW.trod_int (intB_spec h1) hy1
        simp only [List.cons.injEq, and_true] at e1 e2
        exact ⟨m, m', by rw [e1, e2], w1, w2⟩
      cases ht
    · cases ht
  · cases ht
theorem open_pair {base : Nat} {r : Reach} {b0 : Nat} {sp : Nat → Bool} {hd : Bool} {t : Nat} {k0 k1 : IntKind} {v : Value} {d : DataW H} {ps : List MemPlace} (ht : pairB P t = some (k0, k1)) (hval : Value.okWide P W r b0 t v) (h : DataW.Trod enc P W base sp hd t v d ps) :
    ∃ m n, v = .agg #[.int k0 m, .int k1 n] ∧ (Lit.int k0 m).wf = true ∧ (Lit.int k1 n).wf = true := by
  have hs : ∃ fs, P.underlying t = some (.struct fs) := by
    unfold pairB at ht
    split at ht
    · rename_i hu; exact ⟨_, hu⟩
    · cases ht
  obtain ⟨fs, hu⟩ := hs
  obtain ⟨cs, rfl, _⟩ := okWide_struct hu hval
  obtain ⟨fuel, hf⟩ := h
  obtain ⟨m, n, h1, w1, w2⟩ := pair_cells ht hf
  refine ⟨m, n, ?_, w1, w2⟩
  have : cs = #[.int k0 m, .int k1 n] := by apply Array.ext'; exact h1
  rw [this]


theorem flat_get {sz : Nat} (hp : 0 < sz) {C : Nat → List Value} : ∀ (n : Nat), (∀ i, i < n → (C i).length = sz) → ∀ {j : Nat} {u : Value}, ((List.range n).flatMap C)[j]? = some u → j < n * sz ∧ (C (j / sz))[j % sz]? = some u
  | 0, _, j, u, h => by simp at h
  | n + 1, hl, j, u, h => by
    have hlen : ((List.range n).flatMap C).length = n * sz := by
      clear h
      have : ∀ m, m ≤ n → ((List.range m).flatMap C).length = m * sz := by
        intro m
        induction m with
        | zero => intro _; simp
        | succ m ih => intro hm; rw [List.range_succ, List.flatMap_append, List.length_append, ih (by omega), List.flatMap_singleton, hl m (by omega), Nat.add_mul, Nat.one_mul]
      exact this n (Nat.le_refl _)
    rw [List.range_succ, List.flatMap_append, List.flatMap_singleton] at h
    rcases Nat.lt_or_ge j (n * sz) with hj | hj
    · rw [List.getElem?_append_left (by rw [hlen]; exact hj)] at h
      obtain ⟨h1, h2⟩ := flat_get hp n (fun i hi => hl i (by omega)) h
      exact ⟨by rw [Nat.add_mul]; omega, h2⟩
    · rw [List.getElem?_append_right (by rw [hlen]; exact hj), hlen] at h
      have hlt : j - n * sz < sz := by
        have := (List.getElem?_eq_some_iff.1 h).1
        rw [hl n (by omega)] at this
        exact this
      have e1 : j / sz = n := Nat.div_eq_of_lt_le hj (by rw [Nat.add_mul, Nat.one_mul]; omega)
      have e2 : j % sz = j - n * sz := by
        have := Nat.div_add_mod j sz
        rw [e1, Nat.mul_comm] at this
        omega
      exact ⟨by rw [Nat.add_mul, Nat.one_mul]; omega, by rw [e1, e2]; exact h⟩
theorem flatMap_ext {α β : Type} {l : List α} {f g : α → List β} (h : ∀ i ∈ l, f i = g i) : l.flatMap f = l.flatMap g := by rw [List.flatMap_def, List.flatMap_def, List.map_congr_left h]
theorem flat_len {sz : Nat} {C : Nat → List Value} : ∀ (n : Nat), (∀ i, i < n → (C i).length = sz) → ((List.range n).flatMap C).length = n * sz
  | 0, _ => by simp
  | n + 1, hl => by rw [List.range_succ, List.flatMap_append, List.length_append, flat_len n (fun i hi => hl i (by omega)), List.flatMap_singleton, hl n (by omega), Nat.add_mul, Nat.one_mul]

/-- A slice, as it came: its cells, m to each. -/
theorem open_rd {sp : Nat → Bool} {hd : Bool} {r : Reach} {b0 : Nat} {t e sz : Nat} {v : Value} {d : DataW H} {ps : List MemPlace} (ht : slcB P t = some (e, sz)) (hc : P.cellsOf e = sz) (hp : Nat.blt 0 sz = true) (hval : Value.okWide P W r b0 t v) (h : DataW.Trod enc P W 0 sp hd t v d ps) :
    ∃ (n : Nat) (C : Nat → List Value), n ≤ maxLen ∧ (∀ i, i < n → (C i).length = sz ∧ ∃ fuel x, DataW.trod enc P W 0 sp hd fuel e (C i) = some x) ∧ Rd (allH W) v sz n ((List.range n).flatMap C) := by
  obtain ⟨hu, _, _, _⟩ := slcB_spec ht
  have hp : 0 < sz := by simpa [Nat.blt_eq] using hp
  obtain ⟨fuel, hf⟩ := h
  obtain ⟨a0, l0, c0, rfl⟩ := okWide_slice hu hval
  rcases Go.Deep.open_slice hu hf with ⟨h0, _⟩ | ⟨a, len, cap, m, n, D, Pl, h0, _, hl, hm, hmm, _, hx⟩
  · simp only [Value.cells, List.cons.injEq, and_true] at h0
    injection h0 with e1 e2 e3
    subst e1 e2 e3
    exact ⟨0, fun _ => [], Nat.zero_le _, fun i hi => by omega, by simp, by omega, none, 0, rfl, Nat.le_refl _, fun h => by omega⟩
  · simp only [Value.cells, List.cons.injEq, and_true] at h0
    injection h0 with e1 e2 e3
    subst e1 e2 e3
    have hml : l0 ≤ m := by rw [hmm]; split <;> omega
    rw [hc] at hx
    have hC : ∃ C : Nat → List Value, ∀ i, i < m → W.cells? 0 (a.add (i * sz)) sz = some (C i) ∧ ∃ fuel x, DataW.trod enc P W 0 sp hd fuel e (C i) = some x := by
      refine ⟨fun i => if h : i < m then (hx i h).choose else [], fun i hi => ?_⟩
      simp only [hi, dif_pos]
      have := (hx i hi).choose_spec
      exact ⟨this.1, n, _, this.2⟩
    obtain ⟨C, hC⟩ := hC
    have hlen : ∀ i, i < l0 → (C i).length = sz := fun i hi => (World.cells?_some (hC i (by omega)).1).2.1
    refine ⟨l0, C, by omega, fun i hi => ⟨hlen i hi, (hC i (by omega)).2⟩, flat_len l0 hlen, by simp only [maxLen] at hm; omega, _, c0, rfl, hl, fun hpos => ?_⟩
    have hcell : ∀ i k, i < l0 → k < sz → W.cell? ((a.add (i * sz)).add k) = (C i)[k]? := fun i k hi hk => (World.cells?_some (hC i (by omega)).1).2.2 k hk
    have h00 := hcell 0 0 hpos hp
    have hC0 : (C 0)[0]? = some ((C 0)[0]'(by rw [hlen 0 hpos]; exact hp)) := by simp
    rw [hC0] at h00
    obtain ⟨b, o, spot⟩ := a
    simp only [Addr.add, Nat.zero_mul, Nat.add_zero] at h00
    obtain ⟨_, _, _, _, hspot⟩ := World.shape?_of_cell? h00
    replace hspot : spot = none := hspot
    subst hspot
    have hblk : ∃ ar T fr, W.heap[b]? = some (.cells ar T fr) := by
      cases hb : W.heap[b]? with
      | none => simp [World.cell?, hb] at h00
      | some ob =>
        cases ob with
        | cells ar T fr => exact ⟨ar, T, fr, rfl⟩
        | _ => simp [World.cell?, hb] at h00
    obtain ⟨ar, T, fr, hb⟩ := hblk
    refine ⟨b, o, ar, T, fr, rfl, mem_allH.2 hb, fun j u hj => ?_⟩
    obtain ⟨h1, h2⟩ := flat_get hp l0 hlen hj
    have hi : j / sz < l0 := by rw [Nat.div_lt_iff_lt_mul hp]; exact h1
    have h3 := hcell (j / sz) (j % sz) hi (Nat.mod_lt _ hp)
    rw [h2] at h3
    have e3 : ((⟨b, o, none⟩ : Addr).add (j / sz * sz)).add (j % sz) = ⟨b, o + j, none⟩ := by
      rw [Addr.add_lit, Addr.add_lit, Nat.add_assoc, Nat.mul_comm, Nat.div_add_mod]
    rw [e3] at h3
    simpa [World.cell?, hb] using h3

/-- A slice of numbers. -/
theorem open_ints' {sp : Nat → Bool} {hd : Bool} {r : Reach} {b0 : Nat} {t e : Nat} {k : IntKind} {v : Value} {d : DataW H} {ps : List MemPlace} (ht : slcB P t = some (e, 1)) (hc : P.cellsOf e = 1) (he : intB P e = some k) (hval : Value.okWide P W r b0 t v) (h : DataW.Trod enc P W 0 sp hd t v d ps) :
    ∃ xs : List Int, Ints (allH W) v k xs ∧ xs.length ≤ maxLen ∧ ∀ x ∈ xs, (Lit.int k x).wf = true := by
  obtain ⟨n, C, hn, hC, hr⟩ := open_rd ht hc rfl hval h
  have hx : ∃ X : Nat → Int, ∀ i, i < n → C i = [.int k (X i)] ∧ (Lit.int k (X i)).wf = true := by
    have : ∀ i, ∃ x : Int, i < n → C i = [.int k x] ∧ (Lit.int k x).wf = true := fun i => by
      by_cases hi : i < n
      · obtain ⟨_, fuel, x, hx⟩ := hC i hi
        obtain ⟨y, e1, _, e2⟩ := DataW.trod_int (intB_spec he) hx
        exact ⟨y, fun _ => ⟨e1, e2⟩⟩
      · exact ⟨0, fun h => absurd h hi⟩
    exact ⟨fun i => (this i).choose, fun i => (this i).choose_spec⟩
  obtain ⟨X, hX⟩ := hx
  refine ⟨(List.range n).map X, ?_, by simpa using hn, fun x hx => ?_⟩
  · have : (List.range n).flatMap C = ((List.range n).map X).map (Value.int k) := by
      rw [List.map_map, List.map_eq_flatMap]
      exact flatMap_ext fun i hi => (hX i (List.mem_range.1 hi)).1
    unfold Ints
    rw [← this]
    simpa using hr
  · obtain ⟨i, hi, rfl⟩ := List.mem_map.1 hx
    exact (hX i (List.mem_range.1 hi)).2
/-- A slice of structs of two numbers. -/
def pairsC (k0 k1 : IntKind) (L : List (Int × Int)) : List Value := L.flatMap fun p => [.int k0 p.1, .int k1 p.2]
theorem pairs_get {k0 k1 : IntKind} : ∀ {L : List (Int × Int)} {i : Nat}, i < L.length → ∀ j u, ([.int k0 (L.getD i (0, 0)).1, .int k1 (L.getD i (0, 0)).2] : List Value)[j]? = some u → (pairsC k0 k1 L)[i * 2 + j]? = some u
  | [], i, h, _, _, _ => by simp at h
  | p :: L, 0, _, j, u, hu => by
    have hj : j < 2 := by have := (List.getElem?_eq_some_iff.1 hu).1; simpa using this
    simp only [pairsC, List.flatMap_cons, Nat.zero_mul, Nat.zero_add]
    rw [List.getElem?_append_left (by simpa using hj)]
    simpa using hu
  | p :: L, i + 1, h, j, u, hu => by
    have := pairs_get (k0 := k0) (k1 := k1) (L := L) (i := i) (by simpa using h) j u (by simpa using hu)
    simp only [pairsC, List.flatMap_cons]
    rw [List.getElem?_append_right (by simp; omega)]
    rw [show (i + 1) * 2 + j - ([Value.int k0 p.1, Value.int k1 p.2] : List Value).length = i * 2 + j by simp; omega]
    exact this
theorem open_pairs {sp : Nat → Bool} {hd : Bool} {r : Reach} {b0 : Nat} {t e : Nat} {k0 k1 : IntKind} {v : Value} {d : DataW H} {ps : List MemPlace} (ht : slcB P t = some (e, 2)) (hc : P.cellsOf e = 2) (he : pairB P e = some (k0, k1)) (hval : Value.okWide P W r b0 t v) (h : DataW.Trod enc P W 0 sp hd t v d ps) :
    ∃ L : List (Int × Int), Rd (allH W) v 2 L.length (pairsC k0 k1 L) ∧ L.length ≤ maxLen ∧ ∀ p ∈ L, (Lit.int k0 p.1).wf = true ∧ (Lit.int k1 p.2).wf = true := by
  obtain ⟨n, C, hn, hC, hr⟩ := open_rd ht hc rfl hval h
  have hx : ∃ X : Nat → Int × Int, ∀ i, i < n → C i = [.int k0 (X i).1, .int k1 (X i).2] ∧ (Lit.int k0 (X i).1).wf = true ∧ (Lit.int k1 (X i).2).wf = true := by
    have : ∀ i, ∃ x : Int × Int, i < n → C i = [.int k0 x.1, .int k1 x.2] ∧ (Lit.int k0 x.1).wf = true ∧ (Lit.int k1 x.2).wf = true := fun i => by
      by_cases hi : i < n
      · obtain ⟨_, fuel, x, hx⟩ := hC i hi
        obtain ⟨y, z, e1, e2, e3⟩ := pair_cells he hx
        exact ⟨(y, z), fun _ => ⟨e1, e2, e3⟩⟩
      · exact ⟨(0, 0), fun h => absurd h hi⟩
    exact ⟨fun i => (this i).choose, fun i => (this i).choose_spec⟩
  obtain ⟨X, hX⟩ := hx
  refine ⟨(List.range n).map X, ?_, by simpa using hn, fun x hx => ?_⟩
  · have : (List.range n).flatMap C = pairsC k0 k1 ((List.range n).map X) := by
      unfold pairsC
      rw [List.flatMap_map]
      exact flatMap_ext fun i hi => (hX i (List.mem_range.1 hi)).1
    rw [← this]
    simpa using hr
  · obtain ⟨i, hi, rfl⟩ := List.mem_map.1 hx
    exact (hX i (List.mem_range.1 hi)).2
theorem open_bool' {r : Reach} {b0 : Nat} {t : Nat} {v : Value} (ht : P.underlying t = some .bool) (hval : Value.okWide P W r b0 t v) : ∃ b, v = .bool b := by
  simp only [Value.okWide, ht, Cell.okWide] at hval
  cases v <;> simp_all [Cell.ok]

/-- No field is without a name. -/
def namesB (P : Program) (t : Nat) : Bool := match P.underlying t with
  | some (.struct fs) => fs.toList.all fun f => !(f.name == "_")
  | _ => false
end
theorem o_eqP {P : Program} {n : Nat} {ops : Array Oper} {r : List Oper} {K : Env → Hs → Prop} {e : Env} {h : Hs} {d : Tmp} {ty : TypeId} {pos : String} {af : Array Edge} {x y : Operand} {t u : Nat} {k0 k1 : IntKind} {a0 a1 b0 b1 : Int} (hp : pairB P t = some (k0, k1)) (hn : namesB P t = true) (hs : P.stoodInHeld t = false) (hg : P.eqGuardType P.depth t = false)
    (hx : ev e (compX x) = some (.agg #[.int k0 a0, .int k1 a1])) (hy : ev e (compX y) = some (.agg #[.int k0 b0, .int k1 b1])) (k : WL P n ops r K ((d, .bool (decide (a0 = b0 ∧ a1 = b1))) :: e) h) : WL P n ops (⟨some d, .binOp .eql t x y u, ty, pos, af, none⟩ :: r) K e h := by
  refine o_pure rfl (fun a ha w => ?_) k
  unfold pairB at hp
  split at hp
  · rename_i fs hu0
    split at hp
    · rename_i f0 f1 hfs
      have hu : P.underlying t = some (.struct #[f0, f1]) := by rw [hu0]; congr 2; exact Array.ext' hfs
      have hn0 : ¬ f0.name = "_" ∧ ¬ f1.name = "_" := by simpa [namesB, hu] using hn
      split at hp
      rename_i k0' k1' h0 h1 hb
      obtain ⟨rfl, rfl⟩ := Prod.mk.inj (Option.some.inj hp)
      simp only [Bool.and_eq_true] at hb
      obtain ⟨⟨⟨⟨c1, c2⟩, _⟩, _⟩, _⟩ := hb
      have c1 := Nat.eq_of_beq_eq_true c1
      have c2 := Nat.eq_of_beq_eq_true c2
      have u0 := intB_spec h0
      have u1 := intB_spec h1
      have l0 : lodB P f0.type = some none := by simp [lodB, u0]
      have l1 : lodB P f1.type = some none := by simp [lodB, u1]
      have hfo : P.fieldsOf t = #[f0, f1] := by simp [Program.fieldsOf, hu]
      have heq : (Op.equalIn (9999 + 1) t (.agg #[.int k0' a0, .int k1' a1]) (.agg #[.int k0' b0, .int k1' b1])).run P w = .ok (decide (a0 = b0 ∧ a1 = b1)) w := by
        rw [run_equalIn_struct w 9999 t _ _ (by rw [hfo]; exact hu) hs, hfo]
        simp only [Op.eqFields]
        rw [c1, c2]
        have p0 := fun (w : World) => run_part_one (P := P) l0 (cs := #[.int k0' a0, .int k1' a1]) (off := 0) (v := .int k0' a0) rfl w
        have p1 := fun (w : World) => run_part_one (P := P) l1 (cs := #[.int k0' a0, .int k1' a1]) (off := 1) (v := .int k1' a1) rfl w
        have q0 := fun (w : World) => run_part_one (P := P) l0 (cs := #[.int k0' b0, .int k1' b1]) (off := 0) (v := .int k0' b0) rfl w
        have q1 := fun (w : World) => run_part_one (P := P) l1 (cs := #[.int k0' b0, .int k1' b1]) (off := 1) (v := .int k1' b1) rfl w
        have e0 := run_equalIn_int (P := P) w 9998 f0.type k0' k0' a0 b0 u0
        have e1 := run_equalIn_int (P := P) w 9998 f1.type k1' k1' a1 b1 u1
        simp only [hn0.1, hn0.2, ne_eq, not_false_eq_true, if_true, Sem.run_bind, p0, q0, Result.andThen_ok]
        rw [e0]
        by_cases hab : a0 = b0
        · subst hab
          simp only [beq_self_eq_true, Bool.not_true, Result.andThen_ok, Bool.false_eq_true, if_false, Sem.run_bind, p1, q1]
          rw [e1]
          by_cases hab1 : a1 = b1 <;> simp [hab1]
        · simp [hab]
      have hmain := run_eql_struct (P := P) w t #[.int k0' a0, .int k1' a1] #[.int k0' b0, .int k1' b1]
      rw [show (10000 : Nat) = 9999 + 1 from rfl, heq] at hmain
      have hguard := run_eqGuard_agg (P := P) w .eql t x y #[.int k0' a0, .int k1' a1] #[.int k0' b0, .int k1' b1] hg
      simp only [execOp, ev_sound ha hx, ev_sound ha hy, Sem.run_bind, hguard, Result.andThen_ok, hmain, Sem.run_pure]
      cases hp
    · cases hp
  · cases hp
/-- append(a, x) of one struct, behind the block that the call lays it in. -/
theorem o_appS {P : Program} {n : Nat} {ops : Array Oper} {r : List Oper} {K : Env → Hs → Prop} {e : Env} {h : Hs} {d : Tmp} {ty : TypeId} {pos : String} {af : Array Edge} (us : List Value) {x y : Operand} {t el sz by' cp m0 b2 : Nat} {z v : Value} {cs : List Value} {H : Hp} {R : Hs} {T2 : TypeId} {fr2 : Nat × Nat}
    (hs : slcB P t = some (el, sz)) (hz : zerB P el = some (z, sz, by')) (hzs : (z.cells.size == sz && Nat.blt 0 sz) = true) (hx : ev e (compX x) = some v) (hy : ev e (compX y) = some (.slice (some ⟨b2, 0, none⟩) 1 cp))
    (ho : Own H v el sz m0 cs) (tk : Pick H h R) (hlen : us.length = sz) (hA : Has [(b2, .cells us.toArray T2 fr2)] R) (h1 : (us.all Value.oneCell') = true) (hcp : 1 ≤ cp) (h63 : m0 + 1 ≤ maxLen) (hb : (m0 + 1) * by' ≤ 140737488355328)
    (k : ∀ v' H', Own H' v' el sz (m0 + 1) (cs ++ us) → WL P n ops r K ((d, v') :: e) (H' :: R)) : WL P n ops (⟨some d, .call { callee := .builtin .append, args := #[x, y], argTypes := #[t, t] }, ty, pos, af, none⟩ :: r) K e h :=
  o_app (m := 1) (news := us) hs hz hzs hx hy ho tk ⟨by simp [hlen], by omega, _, cp, rfl, hcp, fun _ => ⟨b2, 0, us.toArray, T2, fr2, rfl, List.mem_cons_self .., fun j u hj => by simpa using hj⟩⟩ hA (by simpa [List.all_eq_true] using h1) h63 hb (fun v' H' hO _ => k v' H' hO)
/-- A struct out of a result's own block, and a slot. -/
theorem ret2c {P : Program} {fn : Func} {e : Env} {h : Hs} {t u : Tmp} {tt : TypeId} {m b off : Nat} {c vs : Array Value} {T : TypeId} {fr : Nat × Nat} {x : Value} (hr : fn.results = #[.cell t tt, .tmp u]) (hl : lodB P tt = some (some m)) (ht : get e t = some (.pointer (some ⟨b, off, none⟩))) (hm : At h b (.cells c T fr)) (hs : off + m ≤ c.size) (hv : c.extract off (off + m) = vs) (hu : get e u = some x) : RetOk P fn e h (.tuple #[.agg vs, x]) := by
  refine ⟨fun a w L hk hh => ?_⟩
  obtain ⟨h1, h2⟩ := lodB_many hl w
  have hlen : vs.size = m := by rw [← hv]; simp; omega
  have h3 := run_loadCells_list (P := P) w ⟨b, off, none⟩ vs.toList (fun j u hj => by
    rw [Addr.add_lit, hh.at_ hm]
    have hj' : vs[j]? = some u := by simpa using hj
    have hjl : j < m := by rw [← hlen]; exact (Array.getElem?_eq_some_iff.1 hj').1
    rw [← hv, Array.getElem?_extract] at hj'
    rw [if_pos (by omega)] at hj'
    exact hj')
  simp only [Array.length_toList, Array.toArray_toList, hlen] at h3
  have e1 := getD_of_get hk ht
  have e2 := getD_of_get hk hu
  simp only [Array.getD_eq_getD_getElem?] at e1 e2
  unfold results
  rw [hr]
  simp [e1, e2, asAddr, loadVar, h1, h2, h3]
/-- A slice of a slice at a block's place, told plainly. -/
theorem o_slS2 {P : Program} {n : Nat} {ops : Array Oper} {r : List Oper} {K : Env → Hs → Prop} {e : Env} {h : Hs} {d : Tmp} {ty : TypeId} {pos : String} {af : Array Edge} {x : Operand} {lo hi : Option Operand} {t el sz l c b o o' l' c' : Nat} {i j : Int} (hs : slcB P t = some (el, sz)) (hx : ev e (compX x) = some (.slice (some ⟨b, o, none⟩) l c))
    (hlo : (match lo with | some y => ∃ k, ev e (compX y) = some (.int k i) | none => i = 0)) (hhi : (match hi with | some y => ∃ k, ev e (compX y) = some (.int k j) | none => j = l)) (hb : 0 ≤ i ∧ i ≤ j ∧ j ≤ c) (ho : (c : Int) ≠ i ∧ o + i.toNat * sz = o') (hl' : (l' : Int) = j - i) (hc' : (c' : Int) = c - i)
    (k : WL P n ops r K ((d, .slice (some ⟨b, o', none⟩) l' c') :: e) h) : WL P n ops (⟨some d, .slice t x lo hi none, ty, pos, af, none⟩ :: r) K e h := by
  refine o_slS hs hx hlo hhi hb ?_
  have h1 : slcAt (some ⟨b, o, none⟩) sz i.toNat c = some ⟨b, o', none⟩ := by
    unfold slcAt
    rw [if_neg (by omega), ← ho.2]
    simp [Addr.add_lit]
  rw [h1, show j.toNat - i.toNat = l' by omega, show c - i.toNat = c' by omega]
  exact k
end Go.Eng
