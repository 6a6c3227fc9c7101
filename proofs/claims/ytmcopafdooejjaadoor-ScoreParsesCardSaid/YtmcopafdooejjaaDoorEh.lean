/- The engine, part 8: parts of values; copies; clearing. No condition. -/
import Derived.Test.YtmcopafdooejjaaDoorEg
namespace Go.Eng
set_option linter.unusedSimpArgs false
set_option linter.unusedVariables false

theorem shl_c {ik : IntKind} {p q m c : Int} (hm : (2 : Int) ^ min q.toNat ik.bits = m) (hc : ik.wrap (p * m) = c) : ik.wrap (p * 2 ^ min q.toNat ik.bits) = c := by rw [hm]; exact hc

/-- An array's length, and its elements' type. -/
def arrE (P : Program) (t : Nat) : Option (Nat × Nat) := match P.underlying t with
  | some (.array n e) => some (n, e)
  | _ => none
/-- A field's type and place, in a struct's value. -/
def fdvB (P : Program) (t f : Nat) : Option (Nat × Nat) := match P.underlying t with
  | some (.struct fs) => (fs[f]?).map fun x => (x.type, x.offset)
  | _ => none

section
variable {P : Program} {n : Nat} {ops : Array Oper} {r : List Oper} {K : Env → Hs → Prop} {e : Env} {h : Hs} {d : Tmp} {ty : TypeId} {pos : String} {af : Array Edge}

theorem run_part_one {el : Nat} (hl : lodB P el = some none) {cs : Array Value} {off : Nat} {v : Value} (hv : cs[off]? = some v) (w : World) : (part el cs off).run P w = .ok v w := by
  unfold part
  rw [Sem.run_bind, lodB_one hl]
  simp [hv]
theorem run_part_many {el m : Nat} (hl : lodB P el = some (some m)) (cs : Array Value) (off : Nat) (w : World) : (part el cs off).run P w = .ok (.agg (cs.extract off (off + m))) w := by
  unfold part
  rw [Sem.run_bind, (lodB_many hl w).1]
  simp [(lodB_many hl w).2]

theorem o_idxV {x y : Operand} {t m el : Nat} {cs : Array Value} {ik : IntKind} {i : Int} {v : Value} (hs : arrE P t = some (m, el)) (hz : sizB P el = some 1) (hl : lodB P el = some none) (hx : ev e (compX x) = some (.agg cs)) (hy : ev e (compX y) = some (.int ik i)) (hb : 0 ≤ i ∧ i < m) (hv : cs[i.toNat]? = some v)
    (k : WL P n ops r K ((d, v) :: e) h) : WL P n ops (⟨some d, .index t x y, ty, pos, af, none⟩ :: r) K e h := by
  refine o_pure rfl (fun a ha w => ?_) k
  unfold arrE at hs
  split at hs
  · rename_i m' el' hu
    simp only [Option.some.injEq, Prod.mk.injEq] at hs
    obtain ⟨rfl, rfl⟩ := hs
    have hi : (sizeOf el').run P w = .ok 1 w := by
      unfold sizB at hz
      cases hi : P.info? el' with
      | none => simp [hi] at hz
      | some i => simp [hi] at hz; simp [sizeOf, typeInfo, hi, hz]
    simp [execOp, ev_sound ha hx, ev_sound ha hy, Instr.index, asIntOf, run_underlying hu, hb.1, hb.2, hi, run_part_one hl hv]
  · cases hs
theorem o_idxS {x y : Operand} {t : Nat} {s : ByteArray} {ik : IntKind} {i : Int} {b : UInt8} (ht : P.underlying t = some .string) (hx : ev e (compX x) = some (.string s)) (hy : ev e (compX y) = some (.int ik i)) (h0 : 0 ≤ i) (hv : s[i.toNat]? = some b)
    (k : WL P n ops r K ((d, .int .u8 b.toNat) :: e) h) : WL P n ops (⟨some d, .index t x y, ty, pos, af, none⟩ :: r) K e h := by
  refine o_pure rfl (fun a ha w => ?_) k
  simp [execOp, ev_sound ha hx, ev_sound ha hy, Instr.index, asIntOf, run_underlying ht, h0, hv]
theorem fdvB_spec {t f el off : Nat} (hs : fdvB P t f = some (el, off)) : ∃ fs fl, P.underlying t = some (.struct fs) ∧ fs[f]? = some fl ∧ fl.type = el ∧ fl.offset = off := by
  unfold fdvB at hs
  split at hs
  · rename_i fs hu
    cases hf : fs[f]? with
    | none => simp [hf] at hs
    | some fl => simp [hf] at hs; exact ⟨fs, fl, hu, hf, hs.1, hs.2⟩
  · cases hs
theorem o_fldV {x : Operand} {t f el off : Nat} {cs : Array Value} {v : Value} (hs : fdvB P t f = some (el, off)) (hl : lodB P el = some none) (hx : ev e (compX x) = some (.agg cs)) (hv : cs[off]? = some v)
    (k : WL P n ops r K ((d, v) :: e) h) : WL P n ops (⟨some d, .field t x f, ty, pos, af, none⟩ :: r) K e h := by
  refine o_pure rfl (fun a ha w => ?_) k
  obtain ⟨fs, fl, hu, hf, rfl, rfl⟩ := fdvB_spec hs
  simp [execOp, ev_sound ha hx, Instr.field, run_underlying hu, hf, asAgg, run_part_one hl hv]
theorem o_fldA {x : Operand} {t f el off m : Nat} {cs vs : Array Value} (hs : fdvB P t f = some (el, off)) (hl : lodB P el = some (some m)) (hx : ev e (compX x) = some (.agg cs)) (hv : cs.extract off (off + m) = vs)
    (k : WL P n ops r K ((d, .agg vs) :: e) h) : WL P n ops (⟨some d, .field t x f, ty, pos, af, none⟩ :: r) K e h := by
  refine o_pure rfl (fun a ha w => ?_) k
  subst hv
  obtain ⟨fs, fl, hu, hf, rfl, rfl⟩ := fdvB_spec hs
  simp [execOp, ev_sound ha hx, Instr.field, run_underlying hu, hf, asAgg, run_part_many hl]

/-! ### Copies -/
theorem setN_eq : ∀ (l : List Value) (c : Array Value) (o : Nat), o + l.length ≤ c.size → setN c o l = (c.toList.take o ++ l ++ c.toList.drop (o + l.length)).toArray
  | [], c, o, _ => by simp [setN]
  | v :: l, c, o, ho => by
    simp only [List.length_cons] at ho
    rw [setN, setN_eq l _ _ (by simp; omega)]
    apply Array.ext'
    simp only [Array.toList_setIfInBounds, List.length_cons]
    have hlt : o < c.toList.length := by simp; omega
    rw [List.set_eq_take_append_cons_drop]
    simp only [hlt, if_true]
    have h1 : (c.toList.take o ++ v :: c.toList.drop (o + 1)).take (o + 1) = c.toList.take o ++ [v] := by
      have hL : (c.toList.take o).length = o := by rw [List.length_take]; omega
      rw [List.take_append, hL, List.take_of_length_le (by omega), show o + 1 - o = 1 by omega]
      rfl
    have h2 : (c.toList.take o ++ v :: c.toList.drop (o + 1)).drop (o + 1 + l.length) = c.toList.drop (o + (l.length + 1)) := by
      rw [List.drop_append]
      have : (List.take o c.toList).length = o := by rw [List.length_take]; omega
      rw [this, List.drop_eq_nil_of_le (by omega), show o + 1 + l.length - o = l.length + 1 by omega, List.drop_succ_cons, List.drop_drop]
      simp
      congr 1
      omega
    rw [h1, h2]
    simp

/-! ### Literals of slices -/
theorem foldl_setN : ∀ (l : List Value) (i off : Nat) (c : Array Value), (l.zipIdx i).foldl (fun cs (x : Value × Nat) => cs.setIfInBounds (off + x.2) x.1) c = setN c (off + i) l
  | [], _, _, _ => rfl
  | v :: l, i, off, c => by
    rw [List.zipIdx_cons, List.foldl_cons, foldl_setN l (i + 1) off]
    rfl
theorem setN_app : ∀ (a b : List Value) (c : Array Value) (o : Nat), setN (setN c o a) (o + a.length) b = setN c o (a ++ b)
  | [], b, c, o => by simp [setN]
  | v :: a, b, c, o => by
    simp only [setN, List.cons_append, List.length_cons]
    rw [show o + (a.length + 1) = o + 1 + a.length by omega]
    exact setN_app a b _ _
theorem setN_size : ∀ (l : List Value) (c : Array Value) (o : Nat), (setN c o l).size = c.size
  | [], _, _ => rfl
  | v :: l, c, o => by rw [setN, setN_size l]; simp
theorem fill_all {sz : Nat} : ∀ (xs : List Value) (i : Nat) (c : Array Value), (∀ v ∈ xs, v.cells.size = sz) → (i + xs.length) * sz ≤ c.size →
    Instr.fill (fun i => some (i * sz, sz)) c ((xs.zipIdx i).map fun p => (p.2, p.1)) = some (setN c (i * sz) (xs.flatMap fun v => v.cells.toList))
  | [], _, _, _, _ => by simp [Instr.fill, setN]
  | v :: xs, i, c, hs, hc => by
    have hv : v.cells.size = sz := hs v (List.mem_cons_self ..)
    have hle : (i + 1 + xs.length) * sz ≤ c.size := by rw [List.length_cons] at hc; rwa [show i + 1 + xs.length = i + (xs.length + 1) by omega]
    have h1 : i * sz + sz ≤ c.size := by
      have : (i + 1) * sz ≤ (i + 1 + xs.length) * sz := Nat.mul_le_mul_right _ (by omega)
      rw [Nat.add_mul, Nat.one_mul] at this
      omega
    rw [List.zipIdx_cons, List.map_cons]
    unfold Instr.fill
    simp only []
    rw [if_neg (by simp [hv]; omega)]
    have hf : v.cells.zipIdx.foldl (fun cs (x : Value × Nat) => cs.setIfInBounds (i * sz + x.2) x.1) c = setN c (i * sz) v.cells.toList := by
      rw [← Array.foldl_toList, Array.toList_zipIdx]
      exact foldl_setN v.cells.toList 0 (i * sz) c
    have hf' : (v.cells.zipIdx.foldl (fun cs x => match x with | (c, j) => cs.setIfInBounds (i * sz + j) c) c) = setN c (i * sz) v.cells.toList := hf
    rw [hf', fill_all xs (i + 1) _ (fun u hu => hs u (List.mem_cons_of_mem _ hu)) (by rw [setN_size]; exact hle)]
    rw [List.flatMap_cons, ← setN_app]
    congr 2
    rw [Nat.add_mul, Nat.one_mul]
    simp [hv]
theorem o_bslN {t el sz by' : Nat} {z : Value} {ps : Array (Nat × Operand)} (xs : List Value) (hs : slcB P t = some (el, sz)) (hz : zerB P el = some (z, sz, by')) (hm : xs.length * sz ≤ 16777216) (hv : evp e ps.toList = some ((xs.zipIdx 0).map fun p => (p.2, p.1))) (h1 : (xs.all fun v => v.cells.size == sz) = true)
    (k : ∀ b, WL P n ops r K ((d, .slice (some ⟨b, 0, none⟩) xs.length xs.length) :: e) ([(b, .cells (xs.flatMap fun v => v.cells.toList).toArray el (0, 0))] :: h)) : WL P n ops (⟨some d, .buildSlice t xs.length ps, ty, pos, af, none⟩ :: r) K e h := by
  have hall : ∀ v ∈ xs, v.cells.size = sz := by simpa using h1
  have hlen : (xs.flatMap fun v => v.cells.toList).length = xs.length * sz := by
    clear hv h1 k hm
    induction xs with
    | nil => simp
    | cons v xs ih =>
      rw [List.flatMap_cons, List.length_append, ih (fun u hu => hall u (List.mem_cons_of_mem _ hu)), List.length_cons, Nat.add_mul, Nat.one_mul]
      have := hall v (List.mem_cons_self ..)
      simp [this]
      omega
  have hsz : (madeCells z.cells (xs.length * sz)).size = xs.length * sz := by simp [madeCells]
  refine o_bsl hs hz hm hv ?_ k
  rw [fill_all xs 0 _ hall (by rw [hsz]; simp), setN_eq _ _ _ (by rw [hsz, hlen]; simp)]
  congr 1
  apply Array.ext'
  simp only [Nat.zero_mul, List.take_zero, List.nil_append, Nat.zero_add]
  rw [List.drop_eq_nil_of_le (by rw [hlen, Array.length_toList, hsz]; exact Nat.le_refl _), List.append_nil]

/-- copy(dst, src) of one-cell elements: into a block at hand, out of what is read. -/
theorem o_copy {x y : Operand} {t t2 el m l cp b off : Nat} {v2 : Value} {c : Array Value} {T : TypeId} {src : List Value} {A : Hp} {h' : Hs} (hs : slcB P t = some (el, 1)) (hx : ev e (compX x) = some (.slice (some ⟨b, off, none⟩) l cp)) (hy : ev e (compX y) = some v2) (hr : Rd A v2 1 m src) (hA : Has A h) (h1 : ∀ u ∈ src, u.oneCell' = true)
    (hm : Upd h b (.cells c T (0, 0)) (.cells (setN c off (src.take (min m l))) T (0, 0)) h') (hsz : off + min m l ≤ c.size)
    (k : WL P n ops r K ((d, .int .i64 (min m l : Nat)) :: e) h') : WL P n ops (⟨some d, .call { callee := .builtin .copy, args := #[x, y], argTypes := #[t, t2] }, ty, pos, af, none⟩ :: r) K e h := by
  refine o_eff rfl (fun a w L ha hh => ?_)
  obtain ⟨hu, it, hit, hi1⟩ := slcB_spec hs
  obtain ⟨hl, hmm, p, c2, rfl, hmc, hcell⟩ := hr
  have hlen : (src.take (min m l)).length = min m l := by rw [List.length_take, hl]; omega
  have hsize : (sizeOf el).run P w = .ok 1 w := by simp [sizeOf, typeInfo, hit, hi1]
  have hload : (Builtin.firstCells 1 (Nat.min m l) (.slice p m c2)).run P w = .ok (src.take (min m l)).toArray w := by
    cases p with
    | none =>
      have hm0 : m = 0 := by
        rcases Nat.eq_zero_or_pos m with h | h
        · exact h
        · obtain ⟨_, _, _, _, _, hn, _⟩ := hcell h; cases hn
      subst hm0
      simp [Builtin.firstCells]
    | some ad =>
      have := run_loadCells_list (P := P) w ad (src.take (min m l)) (fun j u hj => by
        rw [List.getElem?_take] at hj
        split at hj
        · rcases Nat.eq_zero_or_pos m with h0 | h0
          · omega
          · obtain ⟨b', o', ar, T', fr, he, hmA, hg⟩ := hcell h0
            injection he with he
            subst he
            rw [Addr.add_lit, hh.at_ (hA.at_ hmA)]
            exact hg j u hj
        · cases hj)
      rw [hlen] at this
      simp only [Builtin.firstCells]
      rw [show Nat.min m l * 1 = min m l by simp [Nat.min_def, Nat.min]]
      exact this
  obtain ⟨w', h2, h3, h4⟩ := hm.run hh (s := storeCells ⟨b, off, none⟩ (src.take (min m l))) (v := ()) (fun L' hL => storeCells_at (P := P) (src.take (min m l)) 0 c w L' hL (by rw [hlen]; simpa using hsz) (.inl (by simp)) (by
    rw [List.all_eq_true]
    exact fun u hu => h1 u (List.mem_of_mem_take hu)))
  have hrun : (execOp a.eval ⟨some d, .call { callee := .builtin .copy, args := #[x, y], argTypes := #[t, t2] }, ty, pos, af, none⟩).run P w = .ok (.value (.int .i64 (min m l : Nat))) w' := by
    have hmin : Nat.min m l = min m l := rfl
    simp [execOp, resolve, invoke, builtin, ev_sound ha hx, ev_sound ha hy, Builtin.copy_, run_underlying hu, Builtin.lenOf, hsize, hload, h2, goInt, hmin]
  rw [hrun]
  exact ⟨h', k, h3, [], by simpa using h4⟩

/-- clear(s). -/
theorem o_clear {x : Operand} {t el l cp b off sz by' : Nat} {z : Value} {c : Array Value} {T : TypeId} {h' : Hs} (hs : slcB P t = some (el, sz)) (hz : zerB P el = some (z, sz, by')) (hz1 : z.cells.toList.all Value.oneCell' = true) (hx : ev e (compX x) = some (.slice (some ⟨b, off, none⟩) l cp))
    (hm : Upd h b (.cells c T (0, 0)) (.cells (setN c off (Builtin.zeroCells z.cells l).toList) T (0, 0)) h') (hsz : off + l * z.cells.size ≤ c.size)
    (k : WL P n ops r K ((d, .tuple #[]) :: e) h') : WL P n ops (⟨some d, .call { callee := .builtin .clear, args := #[x], argTypes := #[t] }, ty, pos, af, none⟩ :: r) K e h := by
  refine o_eff rfl (fun a w L ha hh => ?_)
  obtain ⟨i, hi, hq, rfl, rfl⟩ := zerB_spec hz
  obtain ⟨hu, _, _, _⟩ := slcB_spec hs
  have hlen : (Builtin.zeroCells z.cells l).toList.length = l * z.cells.size := by simp [Builtin.zeroCells]
  obtain ⟨w', h2, h3, h4⟩ := hm.run hh (s := storeCells ⟨b, off, none⟩ (Builtin.zeroCells z.cells l).toList) (v := ()) (fun L' hL => storeCells_at (P := P) _ 0 c w L' hL (by rw [hlen]; simpa using hsz) (.inl (by simp)) (by
    rw [List.all_eq_true]
    intro u hu
    simp only [Builtin.zeroCells, Array.toList_map, List.mem_map] at hu
    obtain ⟨j, hj, rfl⟩ := hu
    rw [List.all_eq_true] at hz1
    by_cases h0 : z.cells.size = 0
    · simp [h0] at hj
    · have hlt : j % z.cells.size < z.cells.size := Nat.mod_lt _ (by omega)
      rw [getElem!_pos z.cells (j % z.cells.size) hlt]
      exact hz1 _ (by simp)))
  have hrun : (execOp a.eval ⟨some d, .call { callee := .builtin .clear, args := #[x], argTypes := #[t] }, ty, pos, af, none⟩).run P w = .ok (.value (.tuple #[])) w' := by
    cases l with
    | zero =>
      have h5 : w' = w := by
        have h6 : (Builtin.zeroCells z.cells 0).toList = [] := by simp [Builtin.zeroCells]
        rw [h6] at h2
        simp [storeCells] at h2
        exact h2.symm
      subst h5
      simp [execOp, resolve, invoke, builtin, ev_sound ha hx, Builtin.clear_, run_underlying hu]
    | succ l => simp [execOp, resolve, invoke, builtin, ev_sound ha hx, Builtin.clear_, run_underlying hu, zeroValue, typeInfo, hi, hq, h2]
  rw [hrun]
  exact ⟨h', k, h3, [], by simpa using h4⟩

theorem get_set {ar : Array Value} {i : Nat} {u : Value} (h : ar[i]? = some u) (v : Value) : (ar.setIfInBounds i v)[i]? = some v := by
  have := (Array.getElem?_eq_some_iff.1 h).1
  simp [this]
theorem get_set_ne {ar : Array Value} {i j : Nat} (hij : i ≠ j) (v : Value) : (ar.setIfInBounds i v)[j]? = ar[j]? := Array.getElem?_setIfInBounds_ne hij

theorem Take.all (h : Hs) : Take h h [] := by
  induction h with
  | nil => exact Take.nil
  | cons c h ih => exact Take.cons Pick.here ih

/-- Two chunks are one. -/
theorem w_merge {cx : Cx} {k : List It} {A B : Hp} (hw : WT cx k e ((A ++ B) :: h)) : WT cx k e (A :: B :: h) :=
  fun a w st => hw a w ⟨st.knows, st.defers, st.evo, by obtain ⟨X, hX⟩ := st.holds; exact ⟨X, by simpa using hX⟩⟩
theorem w_emp {cx : Cx} {k : List It} (hw : WT cx k e ([] :: h)) : WT cx k e h := fun a w st => hw a w ⟨st.knows, st.defers, st.evo, st.holds⟩
theorem Ctr.emp {f : FuncId} {args : List Value} {hin : Hs} {post : Value → Hs → Prop} (hc : Ctr P f args hin post) : Ctr P f args hin fun v ho => ∃ ho', ho = [] :: ho' ∧ post v ho' :=
  fun L w hh => (hc L w hh).mono fun _ _ ⟨v, ho, h1, h2, h3, X, h4⟩ => ⟨v, [] :: ho, h1, ⟨ho, rfl, h2⟩, h3, X, by simpa using h4⟩
/-- Is it nil? -/
def isNilS : Value → Bool
  | .slice none _ _ => true
  | _ => false
theorem Own.nonnil {H : Hp} {v : Value} {el : TypeId} {sz m : Nat} {cs : List Value} (h : Own H v el sz m cs) (hv : v ≠ .slice none 0 0) : isNilS v = false := by
  rcases h.2 with ⟨rfl, _⟩ | ⟨b, cap, cur, rfl, _⟩
  · exact absurd rfl hv
  · rfl
theorem Own.empty (b : Nat) (el : TypeId) (z : Array Value) (sz : Nat) : Own [(b, .cells (madeCells z (0 * sz)) el (0, 0))] (.slice (some ⟨b, 0, none⟩) 0 0) el sz 0 [] :=
  Own.mk_ (Nat.le_refl _) (by decide) (by simp [madeCells]) (by simp)
theorem Rd.nil_len {A : Hp} {sz m l c : Nat} {cs : List Value} (h : Rd A (.slice none l c) sz m cs) : m = 0 := by
  obtain ⟨_, _, p, c', hv, _, hc⟩ := h
  injection hv with e1 e2 e3
  rcases Nat.eq_zero_or_pos m with h0 | h0
  · exact h0
  · obtain ⟨_, _, _, _, _, hn, _⟩ := hc h0
    rw [← e1] at hn; cases hn
theorem one_ints (k : IntKind) (xs : List Int) : ∀ u ∈ xs.map (Value.int k), u.oneCell' = true := by
  intro u hu
  obtain ⟨x, _, rfl⟩ := List.mem_map.1 hu
  rfl
/-- A row is filled, one behind the other. -/
theorem fill_step {xs : List Int} {N i : Nat} (hx : xs.length = N) (hi : i < N) : (xs.take i ++ List.replicate (N - i) 0).set i (xs.getD i 0) = xs.take (i + 1) ++ List.replicate (N - (i + 1)) 0 := by
  have hl : (xs.take i).length = i := by rw [List.length_take]; omega
  rw [List.set_append_right _ _ (by omega), hl, Nat.sub_self, show N - i = N - (i + 1) + 1 by omega, List.replicate_succ, List.set_cons_zero]
  have ht : xs.take (i + 1) = xs.take i ++ [xs.getD i 0] := by rw [List.take_add_one]; simp [show i < xs.length by omega]
  rw [ht]
  simp

/-- A struct, read whole out of cells that are told one by one. -/
theorem o_loadL {x : Operand} {t m b off : Nat} {c : Array Value} {us : List Value} {T : TypeId} {fr : Nat × Nat} (hl : lodB P t = some (some m)) (hx : ev e (compX x) = some (.pointer (some ⟨b, off, none⟩))) (hm : At h b (.cells c T fr)) (hlen : us.length = m) (hg : ∀ j u, us[j]? = some u → c[off + j]? = some u)
    (k : WL P n ops r K ((d, .agg us.toArray) :: e) h) : WL P n ops (⟨some d, .load t x, ty, pos, af, none⟩ :: r) K e h := by
  refine o_read rfl (fun a w L ha hh => ?_) k
  obtain ⟨h1, h2⟩ := lodB_many hl w
  have h3 := run_loadCells_list (P := P) w ⟨b, off, none⟩ us (fun j u hj => by rw [Addr.add_lit, hh.at_ hm]; exact hg j u hj)
  rw [hlen] at h3
  simp [execOp, Instr.loadAt, ev_sound ha hx, Instr.sureAddr, loadVar, h1, h2, h3]
/-- What is owned and not empty: its block; a number written into it. -/
theorem OwnI.blk {H : Hp} {v : Value} {el : TypeId} {k : IntKind} {xs : List Int} (h : OwnI H v el k xs) (hp : 0 < xs.length) : ∃ b cap cur, v = .slice (some ⟨b, 0, none⟩) xs.length cap ∧ H = [(b, .cells cur el (0, 0))] ∧
    (∀ a i, OwnI [(b, .cells (cur.setIfInBounds i (.int k a)) el (0, 0))] v el k (xs.set i a)) ∧ (∀ i, i < xs.length → cur[i]? = some (.int k (xs.getD i 0))) := by
  rcases h.2 with ⟨_, h0, _⟩ | ⟨b, cap, cur, rfl, rfl, h1, h2, h3, h4⟩
  · omega
  · simp only [Nat.mul_one] at h3 h4
    refine ⟨b, cap, cur, rfl, rfl, fun a i => ?_, fun i hi => ?_⟩
    · have := Own.mk_ (b := b) (n := xs.length) (cap := cap) (cur := cur.setIfInBounds i (.int k a)) (el := el) (sz := 1) (cs := (xs.set i a).map (Value.int k)) h1 h2 (by simp [h3]) (by
        rw [Nat.mul_one, Array.toList_setIfInBounds, List.take_set, h4, List.map_set])
      unfold OwnI
      rw [List.length_set]
      exact this
    · have h5 : (cur.toList.take xs.length)[i]? = some (.int k (xs.getD i 0)) := by rw [h4]; simp [hi]
      rw [List.getElem?_take] at h5
      rw [if_pos hi] at h5
      simpa using h5

/-! ### Deferred calls, at the walk -/
theorem defer_fn {f : FuncId} {xs : Array Operand} {ts : Array TypeId} {vs : List Value} (hv : evs e xs.toList = some vs) (a : Act) (w : World) (hk : Knows n e a) :
    (resolve a.eval { callee := .value (.func f), args := xs, argTypes := ts } ty).run P w = .ok { target := .fn (.func f) #[], args := vs.toArray } w := by
  have e1 := evs_arr hk xs hv
  simp [resolve, e1, Act.eval, Deferred.ofValue]
theorem w_deferL {cx : Cx} {k : List It} {id : Nat} {ops : Array Oper} {c : Call} (hd : dstOk cx.n ops = true) (hk : noAg k = true) (hops : ops.toList = ops.toList.dropLast ++ [⟨none, .defer c, ty, pos, af, none⟩])
    (hw : WL cx.P cx.n ops ops.toList.dropLast (fun e h => ∃ d, (∀ a w, Knows cx.n e a → (resolve a.eval c ty).run cx.P w = .ok d w) ∧ WT { cx with D := d :: cx.D } k e h) e h) : WT cx (.code (.region id ops false) :: k) e h :=
  w_defer hd hk hops hw
theorem wl_nil {KK : Env → Hs → Prop} (hw : KK e h) : WL P n ops [] KK e h := hw
theorem LV.cons {fn : Func} {post postd : Value → Hs → Prop} {f : FuncId} {vs : List Value} {ds : List Deferred} {hin R : Hs} (sp : CtrD P f vs hin postd) (hf : fnB P f = true) (tk : Take hin h R) (k : ∀ v ho, postd v ho → LV P fn post e ds (ho ++ R)) :
    LV P fn post e ({ target := .fn (.func f) #[], args := vs.toArray } :: ds) h :=
  ⟨_, _, f, _, hin, R, postd, rfl, fun w => by simp [invoke, fnB_run hf], ⟨vs, rfl, sp⟩, tk, k⟩

/-- One order that serves for all: what is quiet is taken as soon as may be; what is not must be the one that may be taken. -/
def lineP : List (Nat × Bool) → Plan
  | [] => .done
  | (i, true) :: l => .take i (lineP l)
  | (i, false) :: l => .alt i (lineP l) .stop
theorem WP_line {K : Env → Hs → Prop} : ∀ (l : List (Nat × Bool)) {e : Env} {h : Hs}, WL P n ops (l.map fun i => ops.getD i.1 default) K e h → WP P n ops K (lineP l) e h
  | [], _, _, hw => hw
  | (i, true) :: l, _, _, hw => WOp.mono hw fun _ _ hw' => WP_line l hw'
  | (i, false) :: l, _, _, hw => ⟨WOp.mono hw fun _ _ hw' => WP_line l hw', trivial⟩
theorem w_line {cx : Cx} {k : List It} (l : List (Nat × Bool)) {id : Nat} {ops : Array Oper} (hm : cx.P.follows .mixedOrders = true) (hok : (dstOk cx.n ops && Region.noSelect ops && planOk cx.P ops (lineP l) ops.size false (Array.replicate ops.size false)) = true)
    (hw : WL cx.P cx.n ops (l.map fun i => ops.getD i.1 default) (WT cx k) e h) : WT cx (.code (.region id ops true) :: k) e h :=
  w_plan (lineP l) hm hok (WP_line l hw)
theorem wp_take {K : Env → Hs → Prop} (p : Plan) (l : List Nat) (hw : WL P n ops (l.map fun i => ops.getD i default) (WP P n ops K p) e h) : WP P n ops K (takes l p) e h := WP_takes p l hw
theorem wp_alt {K : Env → Hs → Prop} {i : Nat} {t r : Plan} (h1 : WL P n ops [ops.getD i default] (WP P n ops K t) e h) (h2 : WP P n ops K r e h) : WP P n ops K (.alt i t r) e h := ⟨h1, h2⟩
theorem wp_stop {K : Env → Hs → Prop} : WP P n ops K .stop e h := trivial
theorem wp_done {K : Env → Hs → Prop} (hw : K e h) : WP P n ops K .done e h := hw
theorem LV.nil {fn : Func} {post : Value → Hs → Prop} {v : Value} {hout : Hs} (hr : RetOk P fn e h v) (hp : post v hout) (hh : HSub hout h) : LV P fn post e [] h := ⟨v, hout, hr, hp, hh⟩
end
end Go.Eng
