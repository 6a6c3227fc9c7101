/- The engine, part 12: strings. No condition. -/
import Derived.Test.YtmcopafdooejjaaDoorEk
import Derived.Lib.IndexLaws
import Derived.Laws.DeepStrings4
import Derived.Laws.BytesString
namespace Go.Eng
set_option linter.unusedVariables false
set_option linter.unusedSimpArgs false

/-- The string of some bytes. -/
def str (l : List UInt8) : Value := .string ⟨l.toArray⟩
theorem str_data (s : ByteArray) : Value.string s = str s.data.toList := by unfold str; congr
theorem str_size (l : List UInt8) : (ByteArray.mk l.toArray).size = l.length := by simp [ByteArray.size]
theorem str_inj {a b : List UInt8} : ((ByteArray.mk a.toArray).toList == (ByteArray.mk b.toArray).toList) = decide (a = b) := by
  have h : ∀ l : List UInt8, (ByteArray.mk l.toArray).toList = l := fun l => by
    rw [ByteArray.toList_mk]
  rw [h, h]
  by_cases e : a = b
  · subst e; simp
  · simp [e]
theorem str_extract (l : List UInt8) (i j : Nat) : (ByteArray.mk l.toArray).extract i j = ⟨((l.take j).drop i).toArray⟩ := by
  apply ByteArray.ext
  rw [ByteArray.data_extract]
  simp [List.extract_eq_take_drop, List.drop_take]
section
variable {P : Program} {n : Nat} {ops : Array Oper} {r : List Oper} {K : Env → Hs → Prop} {e : Env} {h : Hs} {d : Tmp} {ty : TypeId} {pos : String} {af : Array Edge}

theorem o_lenT {x : Operand} {t : Nat} {l : List UInt8} (ht : P.underlying t = some .string) (hx : ev e (compX x) = some (str l)) (k : WL P n ops r K ((d, .int .i64 l.length) :: e) h) : WL P n ops (⟨some d, .call { callee := .builtin .len, args := #[x], argTypes := #[t] }, ty, pos, af, none⟩ :: r) K e h :=
  o_lenS ht hx (by rw [str_size]; exact k)
theorem o_idxT {x y : Operand} {t : Nat} {l : List UInt8} {ik : IntKind} {i : Int} (ht : P.underlying t = some .string) (hx : ev e (compX x) = some (str l)) (hy : ev e (compX y) = some (.int ik i)) (hb : 0 ≤ i ∧ i < l.length)
    (k : WL P n ops r K ((d, .int .u8 (l.getD i.toNat 0).toNat) :: e) h) : WL P n ops (⟨some d, .index t x y, ty, pos, af, none⟩ :: r) K e h :=
  o_idxS (b := l.getD i.toNat 0) ht hx hy hb.1 (by
    have hl : i.toNat < l.length := by omega
    have : (ByteArray.mk l.toArray)[i.toNat]? = l.toArray[i.toNat]? := rfl
    rw [this]
    simp [hl]) k
theorem o_slT {x : Operand} {lo hi : Option Operand} {t : Nat} {l : List UInt8} {i j : Int} (ht : P.underlying t = some .string) (hx : ev e (compX x) = some (str l))
    (hlo : (match lo with | some y => ∃ k, ev e (compX y) = some (.int k i) | none => i = 0)) (hhi : (match hi with | some y => ∃ k, ev e (compX y) = some (.int k j) | none => j = l.length)) (hb : 0 ≤ i ∧ i ≤ j ∧ j ≤ l.length)
    (k : WL P n ops r K ((d, str ((l.take j.toNat).drop i.toNat)) :: e) h) : WL P n ops (⟨some d, .slice t x lo hi none, ty, pos, af, none⟩ :: r) K e h := by
  have hsz := str_size l
  refine o_pure rfl (fun a ha w => ?_) k
  have hx2 : ev e (compX x) = some (.string ⟨l.toArray⟩) := hx
  have hv : str ((l.take j.toNat).drop i.toNat) = .string ((ByteArray.mk l.toArray).extract i.toNat j.toNat) := by rw [str_extract]; rfl
  rw [hv]
  cases lo with
  | none =>
    simp only at hlo; subst hlo
    cases hi with
    | none =>
      simp only at hhi; subst hhi
      simp [execOp, ev_sound ha hx2, run_sliceAt_string _ _ _ _ _ _ ht, run_slice_string_all _ _ _ ht, hsz]
    | some y =>
      obtain ⟨kh, hy⟩ := hhi
      simp [execOp, ev_sound ha hx2, ev_sound ha hy, run_sliceAt_string _ _ _ _ _ _ ht, run_slice_string_to_if _ _ _ _ _ ht, hsz, show 0 ≤ j by omega, hb.2.2]
  | some y =>
    obtain ⟨kl, hy⟩ := hlo
    cases hi with
    | none =>
      simp only at hhi; subst hhi
      simp [execOp, ev_sound ha hx2, ev_sound ha hy, run_sliceAt_string _ _ _ _ _ _ ht, run_slice_string_from_if _ _ _ _ _ ht, hsz, hb.1, hb.2.1]
    | some y' =>
      obtain ⟨kh, hy'⟩ := hhi
      simp [execOp, ev_sound ha hx2, ev_sound ha hy, ev_sound ha hy', run_sliceAt_string _ _ _ _ _ _ ht, run_slice_string_if _ _ _ _ _ _ _ ht, hsz, hb.1, hb.2.1, hb.2.2, show 0 ≤ j by omega]
theorem o_eqT {x y : Operand} {t u : Nat} {a b : List UInt8} (hx : ev e (compX x) = some (str a)) (hy : ev e (compX y) = some (str b)) (k : WL P n ops r K ((d, .bool (decide (a = b))) :: e) h) : WL P n ops (⟨some d, .binOp .eql t x y u, ty, pos, af, none⟩ :: r) K e h :=
  o_pure rfl (fun ac ha w => by
    have h1 : ac.eval x = .string ⟨a.toArray⟩ := ev_sound ha hx
    have h2 : ac.eval y = .string ⟨b.toArray⟩ := ev_sound ha hy
    simp only [execOp, h1, h2, eqGuard_at_string, binOp_string_eql, Sem.run_bind, Sem.run_pure, Result.andThen_ok, str_inj]) k
theorem o_neT {x y : Operand} {t u : Nat} {a b : List UInt8} (hx : ev e (compX x) = some (str a)) (hy : ev e (compX y) = some (str b)) (k : WL P n ops r K ((d, .bool (decide (a ≠ b))) :: e) h) : WL P n ops (⟨some d, .binOp .neq t x y u, ty, pos, af, none⟩ :: r) K e h :=
  o_pure rfl (fun ac ha w => by
    have h1 : ac.eval x = .string ⟨a.toArray⟩ := ev_sound ha hx
    have h2 : ac.eval y = .string ⟨b.toArray⟩ := ev_sound ha hy
    simp only [execOp, h1, h2, eqGuard_at_string, binOp_string_neq, Sem.run_bind, Sem.run_pure, Result.andThen_ok, str_inj]
    by_cases hab : a = b <;> simp [hab]) k
theorem o_eqT_t {x y : Operand} {t u : Nat} {a b : List UInt8} (hx : ev e (compX x) = some (str a)) (hy : ev e (compX y) = some (str b)) (hp : a = b) (k : WL P n ops r K ((d, .bool true) :: e) h) : WL P n ops (⟨some d, .binOp .eql t x y u, ty, pos, af, none⟩ :: r) K e h :=
  o_eqT hx hy (by rw [decide_eq_true hp]; exact k)
theorem o_eqT_f {x y : Operand} {t u : Nat} {a b : List UInt8} (hx : ev e (compX x) = some (str a)) (hy : ev e (compX y) = some (str b)) (hp : ¬ (a = b)) (k : WL P n ops r K ((d, .bool false) :: e) h) : WL P n ops (⟨some d, .binOp .eql t x y u, ty, pos, af, none⟩ :: r) K e h :=
  o_eqT hx hy (by rw [decide_eq_false hp]; exact k)
theorem o_eqT_s {x y : Operand} {t u : Nat} {a b : List UInt8} (hx : ev e (compX x) = some (str a)) (hy : ev e (compX y) = some (str b)) (k1 : a = b → WL P n ops r K ((d, .bool true) :: e) h) (k2 : ¬ (a = b) → WL P n ops r K ((d, .bool false) :: e) h) : WL P n ops (⟨some d, .binOp .eql t x y u, ty, pos, af, none⟩ :: r) K e h :=
  if hp : a = b then o_eqT_t hx hy hp (k1 hp) else o_eqT_f hx hy hp (k2 hp)
theorem o_neT_s {x y : Operand} {t u : Nat} {a b : List UInt8} (hx : ev e (compX x) = some (str a)) (hy : ev e (compX y) = some (str b)) (k1 : a ≠ b → WL P n ops r K ((d, .bool true) :: e) h) (k2 : ¬ (a ≠ b) → WL P n ops r K ((d, .bool false) :: e) h) : WL P n ops (⟨some d, .binOp .neq t x y u, ty, pos, af, none⟩ :: r) K e h :=
  if hp : a ≠ b then o_neT hx hy (by rw [decide_eq_true hp]; exact k1 hp) else o_neT hx hy (by rw [decide_eq_false hp]; exact k2 hp)
section
variable {f : FuncId} {fn : Func} {xs : Array Operand} {ts : Array TypeId} (X : Xf P f fn)
include X
/-- A function without a body that but reckons. -/
theorem o_xp {g : Array Value → Sem Value} (he : Extern.find fn = some g) {vs : List Value} {v : Value} (hv : evs e xs.toList = some vs) (hg : ∀ w, (g vs.toArray).run P w = .ok v w) (k : WL P n ops r K ((d, v) :: e) h) :
    WL P n ops (⟨some d, .call { callee := .value (.func f), args := xs, argTypes := ts }, ty, pos, af, none⟩ :: r) K e h :=
  o_ext_call hv fun w L hh => ⟨v, w, by rw [run_callFunc_extern X.func X.name X.body X.next he, hg]; rfl, h, k, Evo.refl w, [], by simpa using hh⟩
theorem o_ixB (he : Extern.find fn = some Extern.BytealgIndexByte.indexByte) {l : List UInt8} {c : Int} (hv : evs e xs.toList = some [str l, .int .u8 c]) (k : WL P n ops r K ((d, .int .i64 (Lib.indexByte l c.toNat.toUInt8)) :: e) h) :
    WL P n ops (⟨some d, .call { callee := .value (.func f), args := xs, argTypes := ts }, ty, pos, af, none⟩ :: r) K e h :=
  o_xp X he hv (fun w => by
    have := run_indexByte_string (P := P) ⟨l.toArray⟩ c w
    rw [Lib.firstIdx_eq] at this
    exact this) k
theorem o_cnt (he : Extern.find fn = some Extern.BytealgCount.count) {l : List UInt8} {c : Int} (hv : evs e xs.toList = some [str l, .int .u8 c]) (k : WL P n ops r K ((d, .int .i64 (l.count c.toNat.toUInt8 : Nat)) :: e) h) :
    WL P n ops (⟨some d, .call { callee := .value (.func f), args := xs, argTypes := ts }, ty, pos, af, none⟩ :: r) K e h :=
  o_xp X he hv (fun w => Lib.run_countString (P := P) ⟨l.toArray⟩ c w) k
end
end
end Go.Eng
