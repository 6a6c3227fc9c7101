/- The engine, part 9: rows: out of a contract over all the blocks there are, what a row's statement asks; arguments opened. No condition. -/
import Derived.Test.YtjmnidcfgkdhcaaEh
import Derived.ProofKit
namespace Go.Eng
open Go.ChangeShapes Go.WideShapes Go.ChangeAt Go.RowKit
set_option linter.unusedSimpArgs false
set_option linter.unusedVariables false

/-- All the blocks of a world. -/
def allH (W : World) : Hp := W.heap.toList.zipIdx.map fun p => (p.2, p.1)
theorem mem_allH {W : World} {b : Nat} {o : Obj} : (b, o) ∈ allH W ↔ W.heap[b]? = some o := by
  unfold allH
  rw [List.mem_map]
  constructor
  · rintro ⟨⟨p, i⟩, hm, he⟩
    obtain ⟨rfl, rfl⟩ := Prod.mk.inj he
    have := List.mem_zipIdx_iff_getElem?.1 hm
    simpa using this
  · intro h
    exact ⟨(o, b), List.mem_zipIdx_iff_getElem?.2 (by simpa using h), rfl⟩
theorem holds_allH (W : World) : Holds W (allH W) := by
  refine ⟨?_, fun b o h => mem_allH.1 h⟩
  unfold allH
  rw [List.map_map]
  have : (W.heap.toList.zipIdx.map (Prod.fst ∘ fun p => (p.2, p.1))) = List.range W.heap.toList.length := by
    apply List.ext_getElem?
    intro i
    simp only [List.getElem?_map, List.getElem?_zipIdx, List.getElem?_range']
    by_cases hi : i < W.heap.toList.length
    · simp [hi] at *; rw [List.getElem?_range (by simpa using hi)]; simp [show i < W.heap.size by simpa using hi]
    · rw [List.getElem?_eq_none (by omega), List.getElem?_eq_none (by simp at hi ⊢; omega)]; rfl
  rw [this]
  exact List.nodup_range
theorem row_calls {P : Program} {f : FuncId} {vs : List Value} {W : World} (c : Ctr P f vs [allH W] fun v ho => v = .bool true ∧ ho = [allH W]) : Calls P f vs.toArray W fun e W' => e = .returned (.bool true) ∧ Below W.heap.size W W' := by
  refine (c [] W (by simpa using holds_allH W)).mono ?_
  rintro e W' ⟨v, ho, rfl, ⟨rfl, rfl⟩, hev, X, hX⟩
  refine ⟨rfl, hev.os, hev.tape, hev.output, hev.size, fun k hk => ?_⟩
  have hw : W.heap[k]? = some (W.heap[k]) := by simp
  rw [hw]
  exact hX.rd k _ (List.mem_append.2 (.inl (by simpa using mem_allH.2 hw)))
theorem Ctr.of_nil {P : Program} {f : FuncId} {vs : List Value} {A : Hp} {u : Value} (c : Ctr P f vs [] fun v ho => v = u ∧ ho = []) : Ctr P f vs [A] fun v ho => v = u ∧ ho = [A] :=
  (Ctr.frame c [A]).mono fun _ _ ⟨ho', h1, h2, h3⟩ => ⟨h2, by rw [h1, h3]; rfl⟩

section
variable {H : Type} {enc : TypeId × Value → H} {P : Program}
theorem trodAll_below (hl : laidOutB P = true) {W W' : World} (hb : Below W.heap.size W W') : ∀ (ts : List TypeId) (vs : List Value) (ds : List (DataW H)) (ps : List MemPlace), (∀ t ∈ ts, P.readableRec t = true ∧ t < P.types.size) →
    DataW.TrodAll enc P W 0 (fun _ => true) true ts vs ds ps → (∀ x ∈ ps, x.block < W.heap.size) → DataW.TrodAll enc P W' 0 (fun b => decide (b < W.heap.size)) true ts vs ds ps
  | [], [], [], _, _, h, _ => h
  | t :: ts, v :: vs, d :: ds, ps, ht, h, hlt => by
    obtain ⟨p, q, h1, h2, rfl⟩ := h
    refine ⟨p, q, Below.trod hl (ht t (List.mem_cons_self ..)).1 (ht t (List.mem_cons_self ..)).2 h1 hb (fun x hx => hlt x (List.mem_append.2 (.inl hx))), ?_, rfl⟩
    exact trodAll_below hl hb ts vs ds q (fun t ht' => ht t (List.mem_cons_of_mem _ ht')) h2 (fun x hx => hlt x (List.mem_append.2 (.inr hx)))
  | [], [], _ :: _, _, _, h, _ => h.elim
  | [], _ :: _, _, _, _, h, _ => h.elim
  | _ :: _, [], _, _, _, h, _ => h.elim
  | _ :: _, _ :: _, [], _, _, h, _ => h.elim

/-- What a law's row asks at the end: true; the arguments read as they did; nothing old has turned. -/
theorem post_law {f : Func} {s : ChangeSpec} {apart fresh handsOn : Bool} {W W' : World} {args : Array Value} {ds gs : List (DataW H)} {before : List MemPlace} {t : TypeId} (hl : laidOutB P = true) (hr : (f.params.toList.all fun t => P.readableRec t && decide (t < P.types.size)) = true)
    (hv : s.vars = []) (hW : DataW.Whole enc P f.params.toList s.vars apart W args.toList ds gs before) (hb : Below W.heap.size W W') (hs : s.fn H (ds ++ gs) = { results := [.lit (.bool true)], args := ds }) (hrt : f.resultTypes = #[t]) (hbool : P.underlying t = some .bool) :
    s.post enc P f apart fresh handsOn false W args (.bool true) W' := by
  have hW' := hW
  obtain ⟨p, q, hA, hV, rfl, _, _⟩ := hW'
  rw [hv] at hV
  have hq : q = [] ∧ gs = [] := by
    cases gs with
    | nil => exact ⟨hV, rfl⟩
    | cons g gs => exact hV.elim
  obtain ⟨rfl, rfl⟩ := hq
  have hlt : ∀ x ∈ p, x.block < W.heap.size := fun x hx => hW.lt x (by simpa using hx)
  refine ⟨ds, [], p ++ [], [], p, [], hW, ?_, ?_, ?_, hb.frame _, fun h => by cases h⟩
  · rw [hs, hrt]
    exact trodAll_mk1 (shut_bool hbool true)
  · rw [hs]
    refine trodAll_below hl hb _ _ _ _ (fun t ht => ?_) hA hlt
    have := List.all_eq_true.1 hr t ht
    simpa using this
  · rw [hs, hv]
    exact rfl

/-! ### Arguments -/
variable {W : World}
theorem open_int' {base : Nat} {r : Reach} {b0 : Nat} {sp : Nat → Bool} {hd : Bool} {t : TypeId} {k : IntKind} {v : Value} {d : DataW H} {ps : List MemPlace} (ht : intB P t = some k) (hval : Value.okWide P W r b0 t v) (h : DataW.Trod enc P W base sp hd t v d ps) : ∃ n, v = .int k n ∧ (Lit.int k n).wf = true := by
  have hu : P.underlying t = some (.int k) := by
    unfold intB at ht
    split at ht
    · rename_i k' hk; rw [hk, Option.some.inj ht]
    · cases ht
  obtain ⟨n, h1, _, _, h4⟩ := open_int hu hval h
  exact ⟨n, h1, h4⟩

theorem wf_i64 {n : Int} (h : (Lit.int .i64 n).wf = true) : -9223372036854775808 ≤ n ∧ n ≤ 9223372036854775807 := by
  simp [Lit.wf, IntKind.min, IntKind.max, IntKind.bits, IntKind.signed] at h
  omega
theorem wf_i32 {n : Int} (h : (Lit.int .i32 n).wf = true) : -2147483648 ≤ n ∧ n ≤ 2147483647 := by
  simp [Lit.wf, IntKind.min, IntKind.max, IntKind.bits, IntKind.signed] at h
  omega
theorem wf_i16 {n : Int} (h : (Lit.int .i16 n).wf = true) : -32768 ≤ n ∧ n ≤ 32767 := by
  simp [Lit.wf, IntKind.min, IntKind.max, IntKind.bits, IntKind.signed] at h
  omega
/-- A struct of two numbers. -/
def pairB (P : Program) (t : Nat) : Option (IntKind × IntKind) := match P.underlying t with
  | some (.struct fs) => match fs.toList with
    | [f0, f1] => match intB P f0.type, intB P f1.type, Nat.beq f0.offset 0 && Nat.beq f1.offset 1 && Nat.beq (P.cellsOf t) 2 && Nat.beq (P.cellsOf f0.type) 1 && Nat.beq (P.cellsOf f1.type) 1 with
      | some k0, some k1, true => some (k0, k1)
      | _, _, _ => none
    | _ => none
  | _ => none
theorem intB_spec {t : Nat} {k : IntKind} (ht : intB P t = some k) : P.underlying t = some (.int k) := by
  unfold intB at ht
  split at ht
  · rename_i k' hk; rw [hk, Option.some.inj ht]
  · cases ht
theorem pair_cells {base : Nat} {sp : Nat → Bool} {hd : Bool} {t : Nat} {k0 k1 : IntKind} (ht : pairB P t = some (k0, k1)) {fuel : Nat} {cs : List Value} {x : DataW H × List MemPlace} (h : DataW.trod enc P W base sp hd fuel t cs = some x) :
    ∃ m n, cs = [.int k0 m, .int k1 n] ∧ (Lit.int k0 m).wf = true ∧ (Lit.int k1 n).wf = true := by
  unfold pairB at ht
  split at ht
  · rename_i fs hu0
    split at ht
    · rename_i f0 f1 hfs
      have hu : P.underlying t = some (.struct #[f0, f1]) := by rw [hu0]; congr 2; exact Array.ext' hfs
      split at ht
      rename_i a0 a1 h0 h1 hb
      obtain ⟨rfl, rfl⟩ := Prod.mk.inj (Option.some.inj ht)
      simp only [Bool.and_eq_true] at hb
      obtain ⟨⟨⟨⟨b1, b2⟩, b3⟩, b4⟩, b5⟩ := hb
      have b1 := Nat.eq_of_beq_eq_true b1
      have b2 := Nat.eq_of_beq_eq_true b2
      have b3 := Nat.eq_of_beq_eq_true b3
      have b4 := Nat.eq_of_beq_eq_true b4
      have b5 := Nat.eq_of_beq_eq_true b5
      obtain ⟨y0, y1, n, _, hl, hy0, hy1⟩ := trod_struct2 hu h
      rw [b1, b4] at hy0
      rw [b2, b5] at hy1
      rw [b3] at hl
      match cs, hl with
      | [c0, c1], _ =>
        simp only [List.drop_zero, List.take_succ_cons, List.take_zero, List.drop_succ_cons] at hy0 hy1
        obtain ⟨m, e1, _, w1⟩ := DataW.trod_int (intB_spec h0) hy0
        obtain ⟨m', e2, _, w2⟩ := DataW.trod_int (intB_spec h1) hy1
        simp only [List.cons.injEq, and_true] at e1 e2
        exact ⟨m, m', by rw [e1, e2], w1, w2⟩
      cases ht
    · cases ht
  · cases ht
theorem open_pair {base : Nat} {r : Reach} {b0 : Nat} {sp : Nat → Bool} {hd : Bool} {t : Nat} {k0 k1 : IntKind} {v : Value} {d : DataW H} {ps : List MemPlace} (ht : pairB P t = some (k0, k1)) (hval : Value.okWide P W r b0 t v) (h : DataW.Trod enc P W base sp hd t v d ps) :
    ∃ m n, v = .agg #[.int k0 m, .int k1 n] ∧ (Lit.int k0 m).wf = true ∧ (Lit.int k1 n).wf = true := by
  have hs : ∃ fs, P.underlying t = some (.struct fs) := by
    unfold pairB at ht
    split at ht
    · rename_i hu; exact ⟨_, hu⟩
    · cases ht
  obtain ⟨fs, hu⟩ := hs
  obtain ⟨cs, rfl, _⟩ := okWide_struct hu hval
  obtain ⟨fuel, hf⟩ := h
  obtain ⟨m, n, h1, w1, w2⟩ := pair_cells ht hf
  refine ⟨m, n, ?_, w1, w2⟩
  have : cs = #[.int k0 m, .int k1 n] := by apply Array.ext'; exact h1
  rw [this]

end
end Go.Eng
