/- The engine, part 14: structs out of rows, structs of numbers compared, bytes as texts. No condition. -/
import Derived.Test.YtmcopafdooejjaaDoorEm
namespace Go.Eng
set_option linter.unusedVariables false
set_option linter.unusedSimpArgs false
/-- The fields are numbers, one behind the other. -/
def fieldsIB (P : Program) : List Field → Nat → Option (List IntKind)
  | [], _ => some []
  | f :: fs, o => match intB P f.type, Nat.beq f.offset o && !(f.name == "_"), fieldsIB P fs (o + 1) with
    | some k, true, some ks => some (k :: ks)
    | _, _, _ => none
theorem run_eqFields_ints {P : Program} (d : Nat) (cx cy : Array Value) (w : World) : ∀ (fs : List Field) (o : Nat) (xs ys : List (IntKind × Int)), fieldsIB P fs o = some (xs.map (·.1)) → ys.map (·.1) = xs.map (·.1) → (∀ j p, xs[j]? = some p → cx[o + j]? = some (.int p.1 p.2)) → (∀ j p, ys[j]? = some p → cy[o + j]? = some (.int p.1 p.2)) →
    (Op.eqFields (d + 1) cx cy fs).run P w = .ok (decide (xs = ys)) w
  | [], o, xs, ys, h, hy, _, _ => by
    simp only [fieldsIB, Option.some.injEq] at h
    have hx0 : xs = [] := by cases xs with
      | nil => rfl
      | cons a l => simp at h
    subst hx0
    have hy0 : ys = [] := by cases ys with
      | nil => rfl
      | cons a l => simp at hy
    subst hy0
    simp [Op.eqFields]
  | f :: fs, o, xs, ys, h, hy, hcx, hcy => by
    unfold fieldsIB at h
    split at h
    · rename_i k ks hk hb hks
      cases xs with
      | nil => simp at h
      | cons x xs =>
        cases ys with
        | nil => simp at hy
        | cons y ys =>
          obtain ⟨kx, a⟩ := x
          obtain ⟨ky, b⟩ := y
          simp only [List.map_cons, Option.some.injEq, List.cons.injEq] at h hy
          obtain ⟨rfl, h2⟩ := h
          obtain ⟨rfl, h3⟩ := hy
          simp only [Bool.and_eq_true] at hb
          have ho := Nat.eq_of_beq_eq_true hb.1
          have hn : f.name ≠ "_" := by simpa using hb.2
          have hu := intB_spec hk
          have hl : lodB P f.type = some none := by simp [lodB, hu]
          have px := fun (w : World) => run_part_one (P := P) hl (hcx 0 _ rfl) w
          have py := fun (w : World) => run_part_one (P := P) hl (hcy 0 _ rfl) w
          rw [Nat.add_zero, ← ho] at px py
          have ih := run_eqFields_ints d cx cy w fs (o + 1) xs ys (by rw [hks, h2]) h3 (fun j p hj => by have := hcx (j + 1) p (by simpa using hj); rwa [show o + (j + 1) = o + 1 + j by omega] at this) (fun j p hj => by have := hcy (j + 1) p (by simpa using hj); rwa [show o + (j + 1) = o + 1 + j by omega] at this)
          have he := run_equalIn_int (P := P) w d f.type ky ky a b hu
          simp only [Op.eqFields, hn, ne_eq, not_false_eq_true, if_true, Sem.run_bind, px, py, Result.andThen_ok]
          rw [he]
          by_cases hab : a = b
          · subst hab
            simp only [beq_self_eq_true, Bool.not_true, Result.andThen_ok, Bool.false_eq_true, if_false]
            rw [ih]
            by_cases hxy : xs = ys <;> simp [hxy]
          · simp [hab]
    · cases h
/-- Numbers as cells. -/
def ivs (xs : List (IntKind × Int)) : List Value := xs.map fun p => .int p.1 p.2
theorem ivs_get {xs : List (IntKind × Int)} {j : Nat} {p : IntKind × Int} (h : xs[j]? = some p) : (ivs xs).toArray[0 + j]? = some (.int p.1 p.2) := by simp [ivs, h]
section
variable {P : Program} {n : Nat} {ops : Array Oper} {r : List Oper} {K : Env → Hs → Prop} {e : Env} {h : Hs} {d : Tmp} {ty : TypeId} {pos : String} {af : Array Edge}
theorem structEq_run {P : Program} {t : Nat} {xs ys : List (IntKind × Int)} (hf : fieldsIB P (P.fieldsOf t).toList 0 = some (xs.map (·.1))) (hu : P.underlying t = some (.struct (P.fieldsOf t))) (hs : P.stoodInHeld t = false) (hk : ys.map (·.1) = xs.map (·.1)) (w : World) : (Op.equalIn (9999 + 1) t (.agg (ivs xs).toArray) (.agg (ivs ys).toArray)).run P w = .ok (decide (xs = ys)) w := by
  rw [run_equalIn_struct w 9999 t _ _ hu hs]
  exact run_eqFields_ints 9998 _ _ w _ 0 xs ys hf hk (fun j p hj => ivs_get hj) (fun j p hj => ivs_get hj)
theorem o_eqS {x y : Operand} {t u : Nat} (xs ys : List (IntKind × Int)) (hf : fieldsIB P (P.fieldsOf t).toList 0 = some (xs.map (·.1))) (hu : P.underlying t = some (.struct (P.fieldsOf t))) (hs : P.stoodInHeld t = false) (hg : P.eqGuardType P.depth t = false) (hk : ys.map (·.1) = xs.map (·.1))
    (hx : ev e (compX x) = some (.agg (ivs xs).toArray)) (hy : ev e (compX y) = some (.agg (ivs ys).toArray)) (k : WL P n ops r K ((d, .bool (decide (xs = ys))) :: e) h) : WL P n ops (⟨some d, .binOp .eql t x y u, ty, pos, af, none⟩ :: r) K e h := by
  refine o_pure rfl (fun a ha w => ?_) k
  have hmain := run_eql_struct (P := P) w t (ivs xs).toArray (ivs ys).toArray
  rw [show (10000 : Nat) = 9999 + 1 from rfl, structEq_run hf hu hs hk w] at hmain
  have hguard := run_eqGuard_agg (P := P) w .eql t x y (ivs xs).toArray (ivs ys).toArray hg
  simp only [execOp, ev_sound ha hx, ev_sound ha hy, Sem.run_bind, hguard, Result.andThen_ok, hmain, Sem.run_pure]
theorem o_neS {x y : Operand} {t u : Nat} (xs ys : List (IntKind × Int)) (hf : fieldsIB P (P.fieldsOf t).toList 0 = some (xs.map (·.1))) (hu : P.underlying t = some (.struct (P.fieldsOf t))) (hs : P.stoodInHeld t = false) (hg : P.eqGuardType P.depth t = false) (hk : ys.map (·.1) = xs.map (·.1))
    (hx : ev e (compX x) = some (.agg (ivs xs).toArray)) (hy : ev e (compX y) = some (.agg (ivs ys).toArray)) (k : WL P n ops r K ((d, .bool (!decide (xs = ys))) :: e) h) : WL P n ops (⟨some d, .binOp .neq t x y u, ty, pos, af, none⟩ :: r) K e h := by
  refine o_pure rfl (fun a ha w => ?_) k
  have hmain := run_neq_struct (P := P) w t (ivs xs).toArray (ivs ys).toArray
  rw [show (10000 : Nat) = 9999 + 1 from rfl, structEq_run hf hu hs hk w] at hmain
  have hguard := run_eqGuard_agg (P := P) w .neq t x y (ivs xs).toArray (ivs ys).toArray hg
  simp only [execOp, ev_sound ha hx, ev_sound ha hy, Sem.run_bind, hguard, Result.andThen_ok, hmain, Sem.run_pure]
theorem o_neS_f {x y : Operand} {t u : Nat} (xs : List (IntKind × Int)) (hf : fieldsIB P (P.fieldsOf t).toList 0 = some (xs.map (·.1))) (hu : P.underlying t = some (.struct (P.fieldsOf t))) (hs : P.stoodInHeld t = false) (hg : P.eqGuardType P.depth t = false)
    (hx : ev e (compX x) = some (.agg (ivs xs).toArray)) (hy : ev e (compX y) = some (.agg (ivs xs).toArray)) (k : WL P n ops r K ((d, .bool false) :: e) h) : WL P n ops (⟨some d, .binOp .neq t x y u, ty, pos, af, none⟩ :: r) K e h :=
  o_neS xs xs hf hu hs hg rfl hx hy (by simpa using k)
/-- A struct out of a block whose cells are known. -/
theorem o_loadC {x : Operand} {t m b off : Nat} {c : Array Value} {T : TypeId} {fr : Nat × Nat} (us : List Value) (hl : lodB P t = some (some m)) (hx : ev e (compX x) = some (.pointer (some ⟨b, off, none⟩))) (hm : At h b (.cells c T fr)) (hlen : us.length = m) (h0 : 0 < m) (hc : ∀ (j : Nat) (u : Value), us[j]? = some u → c[off + j]? = some u)
    (k : WL P n ops r K ((d, .agg us.toArray) :: e) h) : WL P n ops (⟨some d, .load t x, ty, pos, af, none⟩ :: r) K e h := by
  have hs : off + m ≤ c.size := by
    have h1 : us[m - 1]? = some (us[m - 1]'(by omega)) := by simp
    have := (Array.getElem?_eq_some_iff.1 (hc _ _ h1)).1
    omega
  refine o_loadN hl hx hm hs ?_ k
  apply Array.ext_getElem?
  intro j
  rw [Array.getElem?_extract]
  split
  · have hj : j < us.length := by omega
    have h1 : us[j]? = some (us[j]'hj) := by simp [hj]
    rw [hc j _ h1]; simp [hj]
  · rw [Array.getElem?_eq_none (by simp; omega)]
/-- Bytes, as a text. -/
def bstr (xs : List Int) : List UInt8 := xs.map fun n => UInt8.ofNat n.toNat
theorem push_all : ∀ (xs : List Int) (l : List UInt8), xs.foldl (fun (r : ByteArray) n => r.push (UInt8.ofNat n.toNat)) ⟨l.toArray⟩ = ⟨(l ++ bstr xs).toArray⟩
  | [], l => by simp [bstr]
  | x :: xs, l => by
    rw [List.foldl_cons, show (ByteArray.mk l.toArray).push (UInt8.ofNat x.toNat) = ⟨(l ++ [UInt8.ofNat x.toNat]).toArray⟩ by simp [ByteArray.push], push_all xs]
    simp [bstr]
theorem o_bts {x : Operand} {t t2 el : Nat} {A : Hp} {v : Value} {xs : List Int} (hs : slcB P t = some (el, 1)) (he : intB P el = some .u8) (h2 : P.underlying t2 = some .string) (hx : ev e (compX x) = some v) (hi : Ints A v .u8 xs) (hA : Has A h)
    (k : WL P n ops r K ((d, str (bstr xs)) :: e) h) : WL P n ops (⟨some d, .convert t t2 x, ty, pos, af, none⟩ :: r) K e h := by
  refine o_read (by simp [cls, h2]) (fun a w L ha hh => ?_) k
  obtain ⟨_, _, p, c, rfl, _, hc⟩ := hi
  have h1 := run_convert_bytes_string (P := P) w t t2 el p xs.length c (slcB_spec hs).1 (intB_spec he) h2
  have h3 : (Conv.bytesToString (.slice p xs.length c)).run P w = .ok (str (bstr xs)) w := by
    cases p with
    | none =>
      have hx0 : xs = [] := by
        cases xs with
        | nil => rfl
        | cons y l => obtain ⟨b, o, _, _, _, hp, _⟩ := hc (by simp); cases hp
      subst hx0
      rfl
    | some p =>
      have hload : (loadCells p xs.length).run P w = .ok (xs.map (Value.int .u8)).toArray w := by
        cases xs with
        | nil => rfl
        | cons y l =>
          obtain ⟨b, o, ar, T, fr, hp, hm, hg⟩ := hc (by simp)
          cases hp
          have := run_loadCells_list (P := P) w ⟨b, o, none⟩ ((y :: l).map (Value.int .u8)) (fun j u hj => by
            rw [Addr.add_lit, hh.at_ (hA.at_ hm)]
            exact hg j u hj)
          simpa using this
      rw [run_bytesToString w p xs.length c xs hload]
      have := push_all xs []
      simp only [List.nil_append] at this
      rw [show (ByteArray.empty) = ⟨([] : List UInt8).toArray⟩ from rfl, this]
      rfl
  simp only [execOp, ev_sound ha hx, Sem.run_bind]
  rw [h1, h3]
  rfl
theorem o_neT_f {x y : Operand} {t u : Nat} {a b : List UInt8} (hx : ev e (compX x) = some (str a)) (hy : ev e (compX y) = some (str b)) (hp : a = b) (k : WL P n ops r K ((d, .bool false) :: e) h) : WL P n ops (⟨some d, .binOp .neq t x y u, ty, pos, af, none⟩ :: r) K e h :=
  o_neT hx hy (by rw [decide_eq_false (fun h => h hp)]; exact k)
end
end Go.Eng
