/- The engine, part 6: slices that are read, slices that are owned; append, copy, clear, slicing; stores of many cells; atomic cells. No condition. -/
import Derived.Test.YtmcopafdooejjaaDoorEe
import Derived.Maps.AppendAt
import Derived.Laws.LoneSync
namespace Go.Eng
set_option linter.unusedSimpArgs false
set_option linter.unusedVariables false

/-! ### A chunk among the others -/
inductive Has : Hp → Hs → Prop where
  | here {A h} : Has A (A :: h)
  | next {A B h} : Has A h → Has A (B :: h)
theorem Has.at_ {A : Hp} {h : Hs} (ha : Has A h) {b : Nat} {o : Obj} (hm : (b, o) ∈ A) : At h b o := by
  induction ha with
  | here => exact At.inA hm
  | next _ ih => exact At.next ih

/-! ### Numbers in a block -/
def ints (k : IntKind) (xs : List Int) : Array Value := (xs.map (Value.int k)).toArray
theorem ints_size (k : IntKind) (xs : List Int) : (ints k xs).size = xs.length := by simp [ints]
theorem ints_get {k : IntKind} {xs : List Int} {i : Nat} (h : i < xs.length) : (ints k xs)[i]? = some (.int k (xs.getD i 0)) := by simp [ints, h]
theorem ints_set (k : IntKind) (xs : List Int) (i : Nat) (a : Int) : (ints k xs).setIfInBounds i (.int k a) = ints k (xs.set i a) := by simp [ints, List.map_set]
theorem ints_made (k : IntKind) (n : Nat) : madeCells #[.int k 0] n = ints k (List.replicate n 0) := by
  apply Array.ext'
  rw [toList_madeCells_one]
  simp [ints]

/-! ### A slice that is read -/
/-- The value is a slice of m elements of sz cells each, in this chunk, and they are cs. -/
def Rd (A : Hp) (v : Value) (sz m : Nat) (cs : List Value) : Prop :=
  cs.length = m * sz ∧ m ≤ 9223372036854775807 ∧ ∃ p c, v = .slice p m c ∧ m ≤ c ∧ (0 < m → ∃ b o ar T fr, p = some ⟨b, o, none⟩ ∧ (b, Obj.cells ar T fr) ∈ A ∧ ∀ j u, cs[j]? = some u → ar[o + j]? = some u)
def Ints (A : Hp) (v : Value) (k : IntKind) (xs : List Int) : Prop := Rd A v 1 xs.length (xs.map (Value.int k))

/-- The value owns the chunk: a slice from the block's head on, with what is spare; or nil. -/
def Own (H : Hp) (v : Value) (el : TypeId) (sz n : Nat) (cs : List Value) : Prop :=
  cs.length = n * sz ∧ ((v = .slice none 0 0 ∧ n = 0 ∧ H = []) ∨
    ∃ b cap cur, v = .slice (some ⟨b, 0, none⟩) n cap ∧ H = [(b, .cells cur el (0, 0))] ∧ n ≤ cap ∧ cap ≤ maxLen ∧ cur.size = cap * sz ∧ cur.toList.take (n * sz) = cs)
def OwnI (H : Hp) (v : Value) (el : TypeId) (k : IntKind) (xs : List Int) : Prop := Own H v el 1 xs.length (xs.map (Value.int k))

theorem Own.nil (el : TypeId) (sz : Nat) : Own [] (.slice none 0 0) el sz 0 [] := ⟨by simp, .inl ⟨rfl, rfl, rfl⟩⟩
theorem OwnI.nil (el : TypeId) (k : IntKind) : OwnI [] (.slice none 0 0) el k [] := Own.nil el 1
theorem Own.mk_ {b n cap : Nat} {cur : Array Value} {el : TypeId} {sz : Nat} {cs : List Value} (h1 : n ≤ cap) (h2 : cap ≤ maxLen) (h3 : cur.size = cap * sz) (h4 : cur.toList.take (n * sz) = cs) : Own [(b, .cells cur el (0, 0))] (.slice (some ⟨b, 0, none⟩) n cap) el sz n cs :=
  ⟨by rw [← h4, List.length_take, Array.length_toList, h3, Nat.min_eq_left (Nat.mul_le_mul_right _ h1)], .inr ⟨b, cap, cur, rfl, rfl, h1, h2, h3, h4⟩⟩
theorem OwnI.mk_ {b : Nat} {el : TypeId} {k : IntKind} {xs : List Int} (h2 : xs.length ≤ maxLen) : OwnI [(b, .cells (ints k xs) el (0, 0))] (.slice (some ⟨b, 0, none⟩) xs.length xs.length) el k xs :=
  Own.mk_ (Nat.le_refl _) h2 (by simp [ints]) (by simp [ints, List.take_of_length_le])
theorem Own.rd {H : Hp} {v : Value} {el : TypeId} {sz n : Nat} {cs : List Value} (h : Own H v el sz n cs) : Rd H v sz n cs := by
  obtain ⟨h0, h⟩ := h
  rcases h with ⟨rfl, rfl, rfl⟩ | ⟨b, cap, cur, rfl, rfl, h1, h2, h3, h4⟩
  · exact ⟨h0, by omega, none, 0, rfl, Nat.le_refl _, fun h => absurd h (by omega)⟩
  · refine ⟨h0, by simp only [maxLen] at h2; omega, _, cap, rfl, h1, fun _ => ⟨b, 0, cur, el, (0, 0), rfl, List.mem_cons_self .., fun j u hj => ?_⟩⟩
    rw [← h4, List.getElem?_take] at hj
    split at hj
    · simpa using hj
    · cases hj
theorem OwnI.ints {H : Hp} {v : Value} {el : TypeId} {k : IntKind} {xs : List Int} (h : OwnI H v el k xs) : Ints H v k xs := h.rd
theorem Own.slice {H : Hp} {v : Value} {el : TypeId} {sz n : Nat} {cs : List Value} (h : Own H v el sz n cs) : ∃ p c, v = .slice p n c := by
  obtain ⟨_, _, p, c, hv, _⟩ := h.rd
  exact ⟨p, c, hv⟩
theorem Rd.slice {A : Hp} {v : Value} {sz m : Nat} {cs : List Value} (h : Rd A v sz m cs) : ∃ p c, v = .slice p m c ∧ m ≤ c := by
  obtain ⟨_, _, p, c, hv, hc, _⟩ := h; exact ⟨p, c, hv, hc⟩
theorem Rd.more {A B : Hp} {v : Value} {sz m : Nat} {cs : List Value} (h : Rd A v sz m cs) (hs : ∀ x ∈ A, x ∈ B) : Rd B v sz m cs := by
  obtain ⟨h0, h1, p, c, hv, hq, hc⟩ := h
  exact ⟨h0, h1, p, c, hv, hq, fun hm => by obtain ⟨b, o, ar, T, fr, h2, h3, h4⟩ := hc hm; exact ⟨b, o, ar, T, fr, h2, hs _ h3, h4⟩⟩
theorem Ints.more {A B : Hp} {v : Value} {k : IntKind} {xs : List Int} (h : Ints A v k xs) (hs : ∀ x ∈ A, x ∈ B) : Ints B v k xs := Rd.more h hs

section
variable {P : Program} {n : Nat} {ops : Array Oper} {r : List Oper} {K : Env → Hs → Prop} {e : Env} {h : Hs} {d : Tmp} {ty : TypeId} {pos : String} {af : Array Edge}

/-- The address of an element that is read. -/
theorem o_idxR {A : Hp} {x y : Operand} {t el sz m : Nat} {cs : List Value} {v : Value} {ik : IntKind} {i : Int} (hr : Rd A v sz m cs) (hA : Has A h) (hs : slcB P t = some (el, sz)) (hx : ev e (compX x) = some v) (hy : ev e (compX y) = some (.int ik i)) (hb : 0 ≤ i ∧ i < m)
    (k : ∀ b off ar T fr, At h b (.cells ar T fr) → (∀ j u, cs[i.toNat * sz + j]? = some u → ar[off + j]? = some u) → WL P n ops r K ((d, .pointer (some ⟨b, off, none⟩)) :: e) h) : WL P n ops (⟨some d, .indexAddr t x y, ty, pos, af, none⟩ :: r) K e h := by
  obtain ⟨_, _, p, c, rfl, _, hc⟩ := hr
  obtain ⟨b, o, ar, T, fr, rfl, hm, hg⟩ := hc (by omega)
  exact o_idx hs hx hy hb rfl (k b _ ar T fr (hA.at_ hm) (fun j u hu => by rw [Nat.add_assoc]; exact hg _ u hu))
theorem o_idxI {A : Hp} {x y : Operand} {t el : Nat} {xs : List Int} {v : Value} {ik kk : IntKind} {i : Int} (hr : Ints A v kk xs) (hA : Has A h) (hs : slcB P t = some (el, 1)) (hx : ev e (compX x) = some v) (hy : ev e (compX y) = some (.int ik i)) (hb : 0 ≤ i ∧ i < xs.length)
    (k : ∀ b off ar T fr, At h b (.cells ar T fr) → ar[off]? = some (.int kk (xs.getD i.toNat 0)) → WL P n ops r K ((d, .pointer (some ⟨b, off, none⟩)) :: e) h) : WL P n ops (⟨some d, .indexAddr t x y, ty, pos, af, none⟩ :: r) K e h :=
  o_idxR hr hA hs hx hy hb fun b off ar T fr hm hg => k b off ar T fr hm (by
    have := hg 0 (.int kk (xs.getD i.toNat 0)) (by
      have hl : i.toNat < xs.length := by omega
      simp [hl])
    simpa using this)
theorem o_lenR {x : Operand} {t el sz sz' m : Nat} {A : Hp} {cs : List Value} {v : Value} (hr : Rd A v sz' m cs) (hs : slcB P t = some (el, sz)) (hx : ev e (compX x) = some v) (k : WL P n ops r K ((d, .int .i64 m) :: e) h) : WL P n ops (⟨some d, .call { callee := .builtin .len, args := #[x], argTypes := #[t] }, ty, pos, af, none⟩ :: r) K e h := by
  obtain ⟨p, c, rfl, _⟩ := hr.slice
  exact o_len hs hx k
theorem o_lenI {x : Operand} {t el sz : Nat} {A : Hp} {kk : IntKind} {xs : List Int} {v : Value} (hr : Ints A v kk xs) (hs : slcB P t = some (el, sz)) (hx : ev e (compX x) = some v) (k : WL P n ops r K ((d, .int .i64 xs.length) :: e) h) : WL P n ops (⟨some d, .call { callee := .builtin .len, args := #[x], argTypes := #[t] }, ty, pos, af, none⟩ :: r) K e h :=
  o_lenR hr hs hx k

/-- A number out of, into a block of numbers. -/
theorem o_loadI {x : Operand} {t b off : Nat} {kk : IntKind} {xs : List Int} {T : TypeId} {fr : Nat × Nat} (hl : lodB P t = some none) (hx : ev e (compX x) = some (.pointer (some ⟨b, off, none⟩))) (hm : At h b (.cells (ints kk xs) T fr)) (hi : off < xs.length)
    (k : WL P n ops r K ((d, .int kk (xs.getD off 0)) :: e) h) : WL P n ops (⟨some d, .load t x, ty, pos, af, none⟩ :: r) K e h := o_load hl hx hm (ints_get hi) k
theorem o_storeI {x y : Operand} {t b off : Nat} {kk : IntKind} {xs : List Int} {T : TypeId} {a : Int} {h' : Hs} (hl : sizB P t = some 1) (hx : ev e (compX x) = some (.pointer (some ⟨b, off, none⟩))) (hy : ev e (compX y) = some (.int kk a))
    (hm : Upd h b (.cells (ints kk xs) T (0, 0)) (.cells (ints kk (xs.set off a)) T (0, 0)) h') (hi : off < xs.length) (k : WL P n ops r K e h') : WL P n ops (⟨none, .store t x y, ty, pos, af, none⟩ :: r) K e h :=
  o_store hl hx hy rfl (by rw [ints_set]; exact hm) (ints_get hi) (by simp) k

/-! ### Literals of slices; stores of many cells -/
theorem o_bsl {t el s by' m : Nat} {z : Value} {ps : Array (Nat × Operand)} {vs : List (Nat × Value)} {c : Array Value} (hs : slcB P t = some (el, s)) (hz : zerB P el = some (z, s, by')) (hm : m * s ≤ 16777216) (hv : evp e ps.toList = some vs) (hf : Instr.fill (fun i => some (i * s, s)) (madeCells z.cells (m * s)) vs = some c)
    (k : ∀ b, WL P n ops r K ((d, .slice (some ⟨b, 0, none⟩) m m) :: e) ([(b, .cells c el (0, 0))] :: h)) : WL P n ops (⟨some d, .buildSlice t m ps, ty, pos, af, none⟩ :: r) K e h := by
  obtain ⟨i, hi, hq, rfl, rfl⟩ := zerB_spec hz
  refine o_new (f := fun b => .slice (some ⟨b, 0, none⟩) m m) rfl (fun a ha w => ?_) k
  have e1 : (ps.map fun (i, x) => (i, a.eval x)).toList = vs := by rw [Array.toList_map]; exact evp_sound ha _ hv
  have hc : Instr.fill (fun j => some (j * i.size, i.size)) (madeCells z.cells (m * i.size)) (ps.map fun (i, x) => (i, a.eval x)).toList = some c := by rw [e1]; exact hf
  have hbs : (Instr.buildSlice t m (ps.map fun (i, x) => (i, a.eval x))).run P w = .ok (.slice (some ⟨w.heap.size, 0, none⟩) m m) (w.alloc (.cells c el)) := by
    unfold Instr.buildSlice
    by_cases h0 : m * i.size = 0
    · have hc' : Instr.fill (fun j => some (j * i.size, i.size)) #[] vs = some c := by
        rw [← hf, h0]; simp [madeCells, Array.range_zero']
      rw [e1]
      simp [run_underlying (slcB_spec hs).1, sizeOf, typeInfo, hi, h0, Array.range_zero', hc', newRow]
    · have hc' := hf
      unfold madeCells at hc'
      rw [e1]
      simp [run_underlying (slcB_spec hs).1, sizeOf, typeInfo, hi, h0, show ¬ (16777216 < m * i.size) by omega, zeroValue, hq, hc', newRow]
  show (do pure (Next.value (← Instr.buildSlice t m (ps.map fun (i, x) => (i, a.eval x)))) : Sem Next).run P w = _
  rw [Sem.run_bind, hbs]
  rfl

def setN : Array Value → Nat → List Value → Array Value
  | c, _, [] => c
  | c, o, v :: r => setN (c.setIfInBounds o v) (o + 1) r

theorem storeCells_at {P : Program} {b o : Nat} {T : TypeId} {fr : Nat × Nat} : ∀ (vs : List Value) (i : Nat) (c : Array Value) (w : World) (L : Hp), Holds w ((b, .cells c T fr) :: L) → o + i + vs.length ≤ c.size → (fr.2 ≤ o + i ∨ o + i + vs.length ≤ fr.1) → vs.all Value.oneCell' = true →
    ∃ w', (storeCells ⟨b, o, none⟩ vs i).run P w = .ok () w' ∧ Evo w w' ∧ Holds w' ((b, .cells (setN c (o + i) vs) T fr) :: L)
  | [], i, c, w, L, hh, _, _, _ => ⟨w, rfl, Evo.refl w, hh⟩
  | v :: r, i, c, w, L, hh, hs, hf, h1 => by
    simp only [List.length_cons] at hs hf
    simp only [List.all_cons, Bool.and_eq_true] at h1
    have hc := hh.cell (off := o + i) (List.mem_cons_self ..)
    have hz := hh.frozen (off := o + i) (List.mem_cons_self ..)
    have hv : c[o + i]? = some (c[o + i]'(by omega)) := by simp
    have hz' : w.frozen? ⟨b, o + i, none⟩ = false := by rw [hz]; simp; omega
    have hst : (store ((⟨b, o, none⟩ : Addr).add i) v).run P w = .ok () (w.setCell ⟨b, o + i, none⟩ v) := by
      rw [Addr.add_lit, run_store P w _ v _ h1.1, hc, hv]
      simp [hz']
    obtain ⟨w', h2, h3, h4⟩ := storeCells_at (P := P) (o := o) r (i + 1) (c.setIfInBounds (o + i) v) (w.setCell ⟨b, o + i, none⟩ v) L (hh.setCell v) (by simp; omega) (by omega) h1.2
    exact ⟨w', by simp only [storeCells, Sem.run_bind, hst, Result.andThen_ok, h2], (Evo.setCell ..).trans h3, by simpa [setN, Nat.add_assoc] using h4⟩

theorem Upd.run {α : Type} {b : Nat} {o o' : Obj} {h' : Hs} (u : Upd h b o o' h') {w : World} {L : Hp} (hh : Holds w (h.flatten ++ L)) {s : Sem α} {v : α} (k : ∀ L, Holds w ((b, o) :: L) → ∃ w', s.run P w = .ok v w' ∧ Evo w w' ∧ Holds w' ((b, o') :: L)) : ∃ w', s.run P w = .ok v w' ∧ Evo w w' ∧ Holds w' (h'.flatten ++ L) := by
  obtain ⟨R, h1, h2⟩ := u.perm
  have h3 := hh.perm (List.Perm.append_right L h1.flatten)
  simp only [List.flatten_cons, List.cons_append, List.nil_append] at h3
  obtain ⟨w', k1, k2, k3⟩ := k _ h3
  refine ⟨w', k1, k2, k3.perm ?_⟩
  have := List.Perm.append_right L h2.flatten
  simp only [List.flatten_cons, List.cons_append, List.nil_append] at this
  exact this.symm

theorem o_storeN {x y : Operand} {t m b off : Nat} {c : Array Value} {T : TypeId} {fr : Nat × Nat} {v : Value} {h' : Hs} (hl : sizB P t = some m) (hx : ev e (compX x) = some (.pointer (some ⟨b, off, none⟩))) (hy : ev e (compX y) = some v) (h1 : (v.cells.size == m && v.cells.toList.all Value.oneCell') = true)
    (hm : Upd h b (.cells c T fr) (.cells (setN c off v.cells.toList) T fr) h') (hs : off + m ≤ c.size) (hf : fr.2 ≤ off ∨ off + m ≤ fr.1) (k : WL P n ops r K e h') : WL P n ops (⟨none, .store t x y, ty, pos, af, none⟩ :: r) K e h := by
  refine o_eff rfl (fun a w L ha hh => ?_)
  have hi : (sizeOf t).run P w = .ok m w := by
    unfold sizB at hl
    cases hi : P.info? t with
    | none => simp [hi] at hl
    | some i => simp [hi] at hl; simp [sizeOf, typeInfo, hi, hl]
  simp only [Bool.and_eq_true, beq_iff_eq] at h1
  have hlen : v.cells.toList.length = m := by simpa using h1.1
  obtain ⟨w', h2, h3, h4⟩ := hm.run hh (s := storeCells ⟨b, off, none⟩ v.cells.toList) (v := ()) (fun L' hL => storeCells_at (P := P) v.cells.toList 0 c w L' hL (by rw [hlen]; simpa using hs) (by rw [hlen]; simpa using hf) h1.2)
  have hrun : (execOp a.eval ⟨none, .store t x y, ty, pos, af, none⟩).run P w = .ok .skip w' := by
    simp [execOp, Instr.storeAt, ev_sound ha hx, ev_sound ha hy, Instr.sureAddr, storeVar, hi, h1.1, h2]
  rw [hrun]
  exact ⟨h', k, h3, [], by simpa using h4⟩

/-! ### Slicing -/
/-- Where a slice's slice begins: at the end of what it can hold it stays where it was. -/
def slcAt (p : Option Addr) (sz l c : Nat) : Option Addr := if c = l then p else p.map (·.add (l * sz))
theorem o_slS {x : Operand} {lo hi : Option Operand} {t el sz l c : Nat} {p : Option Addr} {i j : Int} (hs : slcB P t = some (el, sz)) (hx : ev e (compX x) = some (.slice p l c))
    (hlo : (match lo with | some y => ∃ k, ev e (compX y) = some (.int k i) | none => i = 0)) (hhi : (match hi with | some y => ∃ k, ev e (compX y) = some (.int k j) | none => j = l)) (hb : 0 ≤ i ∧ i ≤ j ∧ j ≤ c)
    (k : WL P n ops r K ((d, .slice (slcAt p sz i.toNat c) (j.toNat - i.toNat) (c - i.toNat)) :: e) h) : WL P n ops (⟨some d, .slice t x lo hi none, ty, pos, af, none⟩ :: r) K e h := by
  refine o_pure rfl (fun a ha w => ?_) k
  obtain ⟨hu, it, hit, rfl⟩ := slcB_spec hs
  have hsz : (sizeOf el).run P w = .ok it.size w := by simp [sizeOf, typeInfo, hit]
  have hel : P.elem t = el := by simp [Program.elem, hu]
  have hu' : P.underlying t = some (.slice (P.elem t)) := by rw [hel]; exact hu
  have hB : ∀ (k : IntKind) (q : Int) (y : Nat) (code : BoundsCode) (w : World), 0 ≤ q → q ≤ y → (Instr.sliceBound (.int k q) y code).run P w = .ok q.toNat w := fun k q y code w h0 h1 => run_sliceBound w k q y code h0 h1
  cases lo with
  | none =>
    simp only at hlo; subst hlo
    cases hi with
    | none =>
      simp only at hhi; subst hhi
      simp [execOp, ev_sound ha hx, Instr.sliceAt, run_underlying hu, Instr.slice, Instr.sliceBounds, hsz, slcAt]
    | some y =>
      obtain ⟨kh, hy⟩ := hhi
      have h1 := fun code w => hB kh j c code w (by omega) hb.2.2
      simp [execOp, ev_sound ha hx, ev_sound ha hy, Instr.sliceAt, run_underlying hu, Instr.slice, Instr.sliceBounds, h1, sizeOf, typeInfo, hit, slcAt]
  | some y =>
    obtain ⟨kl, hy⟩ := hlo
    cases hi with
    | none =>
      simp only at hhi; subst hhi
      have h1 := fun code w => hB kl i l code w (by omega) hb.2.1
      simp [execOp, ev_sound ha hx, ev_sound ha hy, Instr.sliceAt, run_underlying hu, Instr.slice, Instr.sliceBounds, h1, sizeOf, typeInfo, hit, slcAt]
    | some y' =>
      obtain ⟨kh, hy'⟩ := hhi
      have h1 := fun code w => hB kh j c code w (by omega) hb.2.2
      have h2 := fun code w => hB kl i j.toNat code w (by omega) (by omega)
      simp [execOp, ev_sound ha hx, ev_sound ha hy, ev_sound ha hy', Instr.sliceAt, run_underlying hu, Instr.slice, Instr.sliceBounds, h1, h2, sizeOf, typeInfo, hit, slcAt]
theorem o_slA {x : Operand} {t m sz b o : Nat} (hs : arrB P t = some (m, sz)) (hx : ev e (compX x) = some (.pointer (some ⟨b, o, none⟩)))
    (k : WL P n ops r K ((d, .slice (some ⟨b, o, none⟩) m m) :: e) h) : WL P n ops (⟨some d, .slice t x none none none, ty, pos, af, none⟩ :: r) K e h := by
  refine o_pure rfl (fun a ha w => ?_) k
  obtain ⟨el, it, hu, hit, rfl⟩ := arrB_spec hs
  have hsz : (sizeOf el).run P w = .ok it.size w := by simp [sizeOf, typeInfo, hit]
  simp [execOp, ev_sound ha hx, Instr.sliceAt, Instr.sureAddr, run_underlying hu, Instr.sliceBounds, hsz, Addr.add_zero']

/-- A part of what is read. -/
theorem Rd.part {A : Hp} {p : Option Addr} {l c sz : Nat} {cs : List Value} (hr : Rd A (.slice p l c) sz l cs) {i j : Nat} (hij : i ≤ j) (hj : j ≤ l) : Rd A (.slice (slcAt p sz i c) (j - i) (c - i)) sz (j - i) ((cs.drop (i * sz)).take ((j - i) * sz)) := by
  obtain ⟨h0, h1, p', c', hv, hlc, hc⟩ := hr
  injection hv with e1 e2 e3
  subst e1 e3
  refine ⟨?_, by omega, _, _, rfl, by omega, fun hm => ?_⟩
  · rw [List.length_take, List.length_drop, h0, ← Nat.sub_mul, Nat.min_eq_left (Nat.mul_le_mul_right _ (by omega))]
  · obtain ⟨b, o, ar, T, fr, rfl, h3, h4⟩ := hc (by omega)
    have hci : ¬ (c = i) := by omega
    refine ⟨b, o + i * sz, ar, T, fr, by simp [slcAt, hci, Addr.add_lit], h3, fun q u hq => ?_⟩
    rw [List.getElem?_take] at hq
    split at hq
    · rw [List.getElem?_drop] at hq
      rw [Nat.add_assoc]
      exact h4 _ u hq
    · cases hq
end
end Go.Eng
