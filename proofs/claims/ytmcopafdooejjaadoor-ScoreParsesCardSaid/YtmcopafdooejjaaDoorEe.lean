/- The engine, part 5: a rule for each operation. No condition. -/
import Derived.Test.YtmcopafdooejjaaDoorEd
import Derived.WalkKit
namespace Go.Eng

/-! ### Facts on types, by reckoning -/
/-- A field's place in a struct's row of cells. -/
def fldB (P : Program) (s f : Nat) : Option Nat := match P.underlying s with
  | some (.struct fs) => match fs[f]? with
    | some fl => match P.info? fl.type with
      | some i => if i.size = 0 then none else some fl.offset
      | none => none
    | none => none
  | _ => none
/-- An element's cells, of a slice's type. -/
def slcB (P : Program) (t : Nat) : Option (Nat × Nat) := match P.underlying t with
  | some (.slice e) => (P.info? e).map fun i => (e, i.size)
  | _ => none
/-- An array's length, and an element's cells. -/
def arrB (P : Program) (t : Nat) : Option (Nat × Nat) := match P.underlying t with
  | some (.array n e) => (P.info? e).map fun i => (n, i.size)
  | _ => none
/-- How many cells a variable has; of a struct or an array: some. -/
def lodB (P : Program) (t : Nat) : Option (Option Nat) := match P.underlying t with
  | some (.struct _) | some (.array _ _) => (P.info? t).map fun i => some i.size
  | some _ => some none
  | none => none
def sizB (P : Program) (t : Nat) : Option Nat := (P.info? t).map (·.size)
/-- A type's zero, cells and bytes. -/
def zerB (P : Program) (t : Nat) : Option (Value × Nat × Nat) := match P.info? t with
  | some i => i.zero.map fun z => (z, i.size, i.bytes)
  | none => none
def intB (P : Program) (t : Nat) : Option IntKind := match P.underlying t with
  | some (.int k) => some k
  | _ => none

/-! ### Blocks at hand -/
def At (h : Hs) (b : Nat) (o : Obj) : Prop := (b, o) ∈ h.flatten
theorem At.here {h : Hs} {b : Nat} {o : Obj} : At ([(b, o)] :: h) b o := by simp [At]
theorem At.inA {A : Hp} {h : Hs} {b : Nat} {o : Obj} (hm : (b, o) ∈ A) : At (A :: h) b o := by simp [At, hm]
theorem At.next {h : Hs} {c : Hp} {b : Nat} {o : Obj} (hm : At h b o) : At (c :: h) b o := by
  simp only [At, List.flatten_cons, List.mem_append] at hm ⊢; exact .inr hm

/-- One block is another one. -/
inductive Upd : Hs → Nat → Obj → Obj → Hs → Prop where
  | here {h b o o'} : Upd ([(b, o)] :: h) b o o' ([(b, o')] :: h)
  | next {h b o o' h' c} : Upd h b o o' h' → Upd (c :: h) b o o' (c :: h')
theorem Upd.perm {h h' : Hs} {b : Nat} {o o' : Obj} (u : Upd h b o o' h') : ∃ R : Hs, h.Perm ([(b, o)] :: R) ∧ h'.Perm ([(b, o')] :: R) := by
  induction u with
  | here => exact ⟨_, List.Perm.refl _, List.Perm.refl _⟩
  | next _ ih =>
    obtain ⟨R, h1, h2⟩ := ih
    exact ⟨_ :: R, (List.Perm.cons _ h1).trans (List.Perm.swap ..), (List.Perm.cons _ h2).trans (List.Perm.swap ..)⟩
theorem Upd.holds {w w' : World} {h h' : Hs} {b : Nat} {o o' : Obj} {L : Hp} (u : Upd h b o o' h') (hh : Holds w (h.flatten ++ L)) (k : ∀ L, Holds w ((b, o) :: L) → Holds w' ((b, o') :: L)) : Holds w' (h'.flatten ++ L) := by
  obtain ⟨R, h1, h2⟩ := u.perm
  have h3 := hh.perm (List.Perm.append_right L h1.flatten)
  simp only [List.flatten_cons, List.cons_append, List.nil_append] at h3
  refine (k _ h3).perm ?_
  have := List.Perm.append_right L h2.flatten
  simp only [List.flatten_cons, List.cons_append, List.nil_append] at this
  exact this.symm

/-- Chunks taken out, one behind the other. -/
inductive Pick : Hp → Hs → Hs → Prop where
  | here {c h} : Pick c (c :: h) h
  | next {c d h h'} : Pick c h h' → Pick c (d :: h) (d :: h')
inductive Take : Hs → Hs → Hs → Prop where
  | nil {h} : Take [] h h
  | cons {c cs h h' r} : Pick c h h' → Take cs h' r → Take (c :: cs) h r
theorem Pick.perm {c : Hp} {h h' : Hs} (p : Pick c h h') : h.Perm (c :: h') := by
  induction p with
  | here => exact List.Perm.refl _
  | next _ ih => exact (List.Perm.cons _ ih).trans (List.Perm.swap ..)
theorem Take.perm {cs h r : Hs} (t : Take cs h r) : h.Perm (cs ++ r) := by
  induction t with
  | nil => exact List.Perm.refl _
  | cons p _ ih => exact p.perm.trans (List.Perm.cons _ ih)
theorem Take.sub {cs h r : Hs} (t : Take cs h r) : HSub cs h := ⟨r, t.perm⟩

section
variable {P : Program} {n : Nat} {ops : Array Oper} {r : List Oper} {K : Env → Hs → Prop} {e : Env} {h : Hs} {d : Tmp} {ty : TypeId} {pos : String} {af : Array Edge} {g : Option (Nat × Bool)}

/-! ### Guards -/
theorem o_yes {j : Nat} {want : Bool} {t : Tmp} {dst : Option Tmp} {op : Op} (hg : gdst ops j = some t) (hb : get e t = some (.bool want)) (k : WL P n ops (⟨dst, op, ty, pos, af, none⟩ :: r) K e h) : WL P n ops (⟨dst, op, ty, pos, af, some (j, want)⟩ :: r) K e h :=
  ⟨t, .bool want, hg, hb, fun _ => k, fun hn => absurd rfl hn⟩
theorem o_no {j : Nat} {want b : Bool} {t : Tmp} {op : Op} (hg : gdst ops j = some t) (hb : get e t = some (.bool b)) (hn : (b == want) = false) (k : WL P n ops r K ((d, undef) :: e) h) : WL P n ops (⟨some d, op, ty, pos, af, some (j, want)⟩ :: r) K e h :=
  ⟨t, .bool b, hg, hb, fun he => by have := Option.some.inj he; subst this; simp at hn, fun _ => k⟩
theorem o_skip {j : Nat} {want : Bool} {t : Tmp} {op : Op} (hg : gdst ops j = some t) (hb : get e t = some undef) (k : WL P n ops r K ((d, undef) :: e) h) : WL P n ops (⟨some d, op, ty, pos, af, some (j, want)⟩ :: r) K e h :=
  ⟨t, undef, hg, hb, fun he => (by have he2 : (none : Option Bool) = some want := he; cases he2), fun _ => k⟩

/-! ### Pure ones -/
theorem o_pure {op : Op} {v : Value} (hc : cls P op = .pure) (hp : PureAt P n ⟨some d, op, ty, pos, af, none⟩ e v) (k : WL P n ops r K ((d, v) :: e) h) : WL P n ops (⟨some d, op, ty, pos, af, none⟩ :: r) K e h := by
  show WOp P n ops _ _ e h
  unfold WOp WOpV
  simp only []
  unfold WAct
  rw [hc]
  exact ⟨v, hp, k⟩

theorem o_mov {x : Operand} {v : Value} (hx : ev e (compX x) = some v) (k : WL P n ops r K ((d, v) :: e) h) : WL P n ops (⟨some d, .move x, ty, pos, af, none⟩ :: r) K e h :=
  o_pure rfl (fun a ha w => by simp [execOp, ev_sound ha hx]) k
theorem o_asg {x : Operand} {v : Value} (hx : ev e (compX x) = some v) (k : WL P n ops r K ((d, v) :: e) h) : WL P n ops (⟨some d, .assign x, ty, pos, af, none⟩ :: r) K e h :=
  o_pure rfl (fun a ha w => by simp [execOp, ev_sound ha hx]) k
theorem o_pick_t {c x y : Operand} {v : Value} (hc : ev e (compX c) = some (.bool true)) (hx : ev e (compX x) = some v) (k : WL P n ops r K ((d, v) :: e) h) : WL P n ops (⟨some d, .pick c x y, ty, pos, af, none⟩ :: r) K e h :=
  o_pure rfl (fun a ha w => by simp [execOp, ev_sound ha hc, ev_sound ha hx, asBool]) k
theorem o_pick_f {c x y : Operand} {v : Value} (hc : ev e (compX c) = some (.bool false)) (hx : ev e (compX y) = some v) (k : WL P n ops r K ((d, v) :: e) h) : WL P n ops (⟨some d, .pick c x y, ty, pos, af, none⟩ :: r) K e h :=
  o_pure rfl (fun a ha w => by simp [execOp, ev_sound ha hc, ev_sound ha hx, asBool]) k

section
variable {x y : Operand} {t u : TypeId} {ik : IntKind} {p q c : Int} (hx : ev e (compX x) = some (.int ik p)) (hy : ev e (compX y) = some (.int ik q))
include hx hy
theorem o_add (hc : ik.wrap (p + q) = c) (k : WL P n ops r K ((d, .int ik c) :: e) h) : WL P n ops (⟨some d, .binOp .add t x y u, ty, pos, af, none⟩ :: r) K e h :=
  o_pure rfl (fun a ha w => by subst hc; simp [execOp, ev_sound ha hx, ev_sound ha hy, eqGuard_add, binOp_add, Op.intArith]) k
theorem o_sub (hc : ik.wrap (p - q) = c) (k : WL P n ops r K ((d, .int ik c) :: e) h) : WL P n ops (⟨some d, .binOp .sub t x y u, ty, pos, af, none⟩ :: r) K e h :=
  o_pure rfl (fun a ha w => by subst hc; simp [execOp, ev_sound ha hx, ev_sound ha hy, eqGuard_sub, binOp_sub, Op.intArith]) k
theorem o_mul (hc : ik.wrap (p * q) = c) (k : WL P n ops r K ((d, .int ik c) :: e) h) : WL P n ops (⟨some d, .binOp .mul t x y u, ty, pos, af, none⟩ :: r) K e h :=
  o_pure rfl (fun a ha w => by subst hc; simp [execOp, ev_sound ha hx, ev_sound ha hy, eqGuard_mul, binOp_mul, Op.intArith]) k
theorem o_quo (hz : q ≠ 0) (hc : ik.wrap (p.tdiv q) = c) (k : WL P n ops r K ((d, .int ik c) :: e) h) : WL P n ops (⟨some d, .binOp .quo t x y u, ty, pos, af, none⟩ :: r) K e h :=
  o_pure rfl (fun a ha w => by subst hc; simp [execOp, ev_sound ha hx, ev_sound ha hy, eqGuard_quo, binOp_quo, Op.intDiv, hz]) k
theorem o_rem (hz : q ≠ 0) (hc : p.tmod q = c) (k : WL P n ops r K ((d, .int ik c) :: e) h) : WL P n ops (⟨some d, .binOp .rem t x y u, ty, pos, af, none⟩ :: r) K e h :=
  o_pure rfl (fun a ha w => by subst hc; simp [execOp, ev_sound ha hx, ev_sound ha hy, eqGuard_rem, binOp_rem, Op.intDiv, hz]) k
theorem o_and (hc : bits .and ik p q = c) (k : WL P n ops r K ((d, .int ik c) :: e) h) : WL P n ops (⟨some d, .binOp .and t x y u, ty, pos, af, none⟩ :: r) K e h :=
  o_pure rfl (fun a ha w => by subst hc; simp [execOp, ev_sound ha hx, ev_sound ha hy, eqGuard_and, binOp_and, intBits_and]) k
theorem o_or (hc : bits .or ik p q = c) (k : WL P n ops r K ((d, .int ik c) :: e) h) : WL P n ops (⟨some d, .binOp .or t x y u, ty, pos, af, none⟩ :: r) K e h :=
  o_pure rfl (fun a ha w => by subst hc; simp [execOp, ev_sound ha hx, ev_sound ha hy, eqGuard_or, binOp_or, intBits_or]) k
theorem o_xor (hc : bits .xor ik p q = c) (k : WL P n ops r K ((d, .int ik c) :: e) h) : WL P n ops (⟨some d, .binOp .xor t x y u, ty, pos, af, none⟩ :: r) K e h :=
  o_pure rfl (fun a ha w => by subst hc; simp [execOp, ev_sound ha hx, ev_sound ha hy, eqGuard_xor, binOp_xor, intBits_xor]) k
theorem o_eq (k : WL P n ops r K ((d, .bool (decide (p = q))) :: e) h) : WL P n ops (⟨some d, .binOp .eql t x y u, ty, pos, af, none⟩ :: r) K e h :=
  o_pure rfl (fun a ha w => by simp [execOp, ev_sound ha hx, ev_sound ha hy, eqGuard_at_int, binOp_eql]; rfl) k
theorem o_ne (k : WL P n ops r K ((d, .bool (decide (p ≠ q))) :: e) h) : WL P n ops (⟨some d, .binOp .neq t x y u, ty, pos, af, none⟩ :: r) K e h :=
  o_pure rfl (fun a ha w => by simp [execOp, ev_sound ha hx, ev_sound ha hy, eqGuard_at_int, binOp_neq, bne]; rfl) k
theorem o_lt (k : WL P n ops r K ((d, .bool (decide (p < q))) :: e) h) : WL P n ops (⟨some d, .binOp .lss t x y u, ty, pos, af, none⟩ :: r) K e h :=
  o_pure rfl (fun a ha w => by simp [execOp, ev_sound ha hx, ev_sound ha hy, eqGuard_lss, binOp_lss]) k
theorem o_le (k : WL P n ops r K ((d, .bool (decide (p ≤ q))) :: e) h) : WL P n ops (⟨some d, .binOp .leq t x y u, ty, pos, af, none⟩ :: r) K e h :=
  o_pure rfl (fun a ha w => by simp [execOp, ev_sound ha hx, ev_sound ha hy, eqGuard_leq, binOp_leq]) k
theorem o_gt (k : WL P n ops r K ((d, .bool (decide (q < p))) :: e) h) : WL P n ops (⟨some d, .binOp .gtr t x y u, ty, pos, af, none⟩ :: r) K e h :=
  o_pure rfl (fun a ha w => by simp [execOp, ev_sound ha hx, ev_sound ha hy, eqGuard_gtr, binOp_gtr]) k
theorem o_ge (k : WL P n ops r K ((d, .bool (decide (q ≤ p))) :: e) h) : WL P n ops (⟨some d, .binOp .geq t x y u, ty, pos, af, none⟩ :: r) K e h :=
  o_pure rfl (fun a ha w => by simp [execOp, ev_sound ha hx, ev_sound ha hy, eqGuard_geq, binOp_geq]) k
theorem o_eq_t (hp : p = q) (k : WL P n ops r K ((d, .bool true) :: e) h) : WL P n ops (⟨some d, .binOp .eql t x y u, ty, pos, af, none⟩ :: r) K e h :=
  o_eq hx hy (by rw [decide_eq_true hp]; exact k)
theorem o_eq_f (hp : ¬ (p = q)) (k : WL P n ops r K ((d, .bool false) :: e) h) : WL P n ops (⟨some d, .binOp .eql t x y u, ty, pos, af, none⟩ :: r) K e h :=
  o_eq hx hy (by rw [decide_eq_false hp]; exact k)
theorem o_eq_s (k1 : p = q → WL P n ops r K ((d, .bool true) :: e) h) (k2 : ¬ (p = q) → WL P n ops r K ((d, .bool false) :: e) h) : WL P n ops (⟨some d, .binOp .eql t x y u, ty, pos, af, none⟩ :: r) K e h :=
  if hp : p = q then o_eq_t hx hy hp (k1 hp) else o_eq_f hx hy hp (k2 hp)
theorem o_ne_t (hp : p ≠ q) (k : WL P n ops r K ((d, .bool true) :: e) h) : WL P n ops (⟨some d, .binOp .neq t x y u, ty, pos, af, none⟩ :: r) K e h :=
  o_ne hx hy (by rw [decide_eq_true hp]; exact k)
theorem o_ne_f (hp : ¬ (p ≠ q)) (k : WL P n ops r K ((d, .bool false) :: e) h) : WL P n ops (⟨some d, .binOp .neq t x y u, ty, pos, af, none⟩ :: r) K e h :=
  o_ne hx hy (by rw [decide_eq_false hp]; exact k)
theorem o_ne_s (k1 : p ≠ q → WL P n ops r K ((d, .bool true) :: e) h) (k2 : ¬ (p ≠ q) → WL P n ops r K ((d, .bool false) :: e) h) : WL P n ops (⟨some d, .binOp .neq t x y u, ty, pos, af, none⟩ :: r) K e h :=
  if hp : p ≠ q then o_ne_t hx hy hp (k1 hp) else o_ne_f hx hy hp (k2 hp)
theorem o_lt_t (hp : p < q) (k : WL P n ops r K ((d, .bool true) :: e) h) : WL P n ops (⟨some d, .binOp .lss t x y u, ty, pos, af, none⟩ :: r) K e h :=
  o_lt hx hy (by rw [decide_eq_true hp]; exact k)
theorem o_lt_f (hp : ¬ (p < q)) (k : WL P n ops r K ((d, .bool false) :: e) h) : WL P n ops (⟨some d, .binOp .lss t x y u, ty, pos, af, none⟩ :: r) K e h :=
  o_lt hx hy (by rw [decide_eq_false hp]; exact k)
theorem o_lt_s (k1 : p < q → WL P n ops r K ((d, .bool true) :: e) h) (k2 : ¬ (p < q) → WL P n ops r K ((d, .bool false) :: e) h) : WL P n ops (⟨some d, .binOp .lss t x y u, ty, pos, af, none⟩ :: r) K e h :=
  if hp : p < q then o_lt_t hx hy hp (k1 hp) else o_lt_f hx hy hp (k2 hp)
theorem o_le_t (hp : p ≤ q) (k : WL P n ops r K ((d, .bool true) :: e) h) : WL P n ops (⟨some d, .binOp .leq t x y u, ty, pos, af, none⟩ :: r) K e h :=
  o_le hx hy (by rw [decide_eq_true hp]; exact k)
theorem o_le_f (hp : ¬ (p ≤ q)) (k : WL P n ops r K ((d, .bool false) :: e) h) : WL P n ops (⟨some d, .binOp .leq t x y u, ty, pos, af, none⟩ :: r) K e h :=
  o_le hx hy (by rw [decide_eq_false hp]; exact k)
theorem o_le_s (k1 : p ≤ q → WL P n ops r K ((d, .bool true) :: e) h) (k2 : ¬ (p ≤ q) → WL P n ops r K ((d, .bool false) :: e) h) : WL P n ops (⟨some d, .binOp .leq t x y u, ty, pos, af, none⟩ :: r) K e h :=
  if hp : p ≤ q then o_le_t hx hy hp (k1 hp) else o_le_f hx hy hp (k2 hp)
theorem o_gt_t (hp : q < p) (k : WL P n ops r K ((d, .bool true) :: e) h) : WL P n ops (⟨some d, .binOp .gtr t x y u, ty, pos, af, none⟩ :: r) K e h :=
  o_gt hx hy (by rw [decide_eq_true hp]; exact k)
theorem o_gt_f (hp : ¬ (q < p)) (k : WL P n ops r K ((d, .bool false) :: e) h) : WL P n ops (⟨some d, .binOp .gtr t x y u, ty, pos, af, none⟩ :: r) K e h :=
  o_gt hx hy (by rw [decide_eq_false hp]; exact k)
theorem o_gt_s (k1 : q < p → WL P n ops r K ((d, .bool true) :: e) h) (k2 : ¬ (q < p) → WL P n ops r K ((d, .bool false) :: e) h) : WL P n ops (⟨some d, .binOp .gtr t x y u, ty, pos, af, none⟩ :: r) K e h :=
  if hp : q < p then o_gt_t hx hy hp (k1 hp) else o_gt_f hx hy hp (k2 hp)
theorem o_ge_t (hp : q ≤ p) (k : WL P n ops r K ((d, .bool true) :: e) h) : WL P n ops (⟨some d, .binOp .geq t x y u, ty, pos, af, none⟩ :: r) K e h :=
  o_ge hx hy (by rw [decide_eq_true hp]; exact k)
theorem o_ge_f (hp : ¬ (q ≤ p)) (k : WL P n ops r K ((d, .bool false) :: e) h) : WL P n ops (⟨some d, .binOp .geq t x y u, ty, pos, af, none⟩ :: r) K e h :=
  o_ge hx hy (by rw [decide_eq_false hp]; exact k)
theorem o_ge_s (k1 : q ≤ p → WL P n ops r K ((d, .bool true) :: e) h) (k2 : ¬ (q ≤ p) → WL P n ops r K ((d, .bool false) :: e) h) : WL P n ops (⟨some d, .binOp .geq t x y u, ty, pos, af, none⟩ :: r) K e h :=
  if hp : q ≤ p then o_ge_t hx hy hp (k1 hp) else o_ge_f hx hy hp (k2 hp)
end
section
variable {x y : Operand} {t u : TypeId} {ik jk : IntKind} {p q c : Int} (hx : ev e (compX x) = some (.int ik p)) (hy : ev e (compX y) = some (.int jk q))
include hx hy
theorem o_shl (hz : 0 ≤ q) (hc : ik.wrap (p * 2 ^ min q.toNat ik.bits) = c) (k : WL P n ops r K ((d, .int ik c) :: e) h) : WL P n ops (⟨some d, .binOp .shl t x y u, ty, pos, af, none⟩ :: r) K e h :=
  o_pure rfl (fun a ha w => by subst hc; simp [execOp, ev_sound ha hx, ev_sound ha hy, eqGuard_shl, binOp_shl, Op.shift, show ¬ q < 0 by omega]) k
theorem o_shr (hz : 0 ≤ q) (hc : p.fdiv (2 ^ min q.toNat ik.bits) = c) (k : WL P n ops r K ((d, .int ik c) :: e) h) : WL P n ops (⟨some d, .binOp .shr t x y u, ty, pos, af, none⟩ :: r) K e h :=
  o_pure rfl (fun a ha w => by subst hc; simp [execOp, ev_sound ha hx, ev_sound ha hy, eqGuard_shr, binOp_shr, Op.shift, show ¬ q < 0 by omega]) k
end
theorem shr_k (p q : Int) (B : Nat) (m : Int) (hm : (2 : Int) ^ min q.toNat B = m) (h0 : 0 ≤ m) : p.fdiv (2 ^ min q.toNat B) = p / m := by
  rw [hm, Int.fdiv_eq_ediv_of_nonneg _ h0]
theorem o_neg {x : Operand} {t : TypeId} {ik : IntKind} {p c : Int} (hx : ev e (compX x) = some (.int ik p)) (hc : ik.wrap (0 - p) = c) (k : WL P n ops r K ((d, .int ik c) :: e) h) : WL P n ops (⟨some d, .unOp .neg t x, ty, pos, af, none⟩ :: r) K e h :=
  o_pure rfl (fun a ha w => by subst hc; simp [execOp, ev_sound ha hx, Op.unary, Op.intArith]) k
theorem o_not {x : Operand} {t : TypeId} {b : Bool} (hx : ev e (compX x) = some (.bool b)) (k : WL P n ops r K ((d, .bool (!b)) :: e) h) : WL P n ops (⟨some d, .unOp .not t x, ty, pos, af, none⟩ :: r) K e h :=
  o_pure rfl (fun a ha w => by simp [execOp, ev_sound ha hx, Op.unary]) k
theorem eqIn_ptr (w : World) (m : Nat) (t elem : TypeId) (a1 : Option Addr) (ht : P.underlying t = some (.pointer elem)) : (Op.equalIn (m + 1) t (.pointer a1) (.pointer none)).run P w = .ok a1.isNone w := by
  cases a1 <;> simp [Op.equalIn, run_underlying ht]
theorem eqIn_slc (w : World) (m : Nat) (t elem : TypeId) (a1 : Option Addr) (l c l' c' : Nat) (ht : P.underlying t = some (.slice elem)) : (Op.equalIn (m + 1) t (.slice a1 l c) (.slice none l' c')).run P w = .ok a1.isNone w := by
  cases a1 <;> simp [Op.equalIn, run_underlying ht]
theorem eqIn_bool (w : World) (m : Nat) (t : TypeId) (a1 b1 : Bool) (ht : P.underlying t = some .bool) : (Op.equalIn (m + 1) t (.bool a1) (.bool b1)).run P w = .ok (a1 == b1) w := by
  simp [Op.equalIn, run_underlying ht]
theorem run_eq_of {w : World} {t : TypeId} {u v : Value} {b : Bool} (h : binOp .eql t u v = (do pure (.bool (← Op.equal t u v)))) (hr : (Op.equalIn (9999 + 1) t u v).run P w = .ok b w) : (binOp .eql t u v).run P w = .ok (.bool b) w := by
  rw [h, Sem.run_bind]
  unfold Op.equal Op.maxDepth
  rw [hr]
  rfl
theorem run_ne_of {w : World} {t : TypeId} {u v : Value} {b : Bool} (h : binOp .neq t u v = (do pure (.bool (!(← Op.equal t u v))))) (hr : (Op.equalIn (9999 + 1) t u v).run P w = .ok b w) : (binOp .neq t u v).run P w = .ok (.bool (!b)) w := by
  rw [h, Sem.run_bind]
  unfold Op.equal Op.maxDepth
  rw [hr]
  rfl
/-- Pointers held against nil. -/
theorem o_pnil {x y : Operand} {t u elem : TypeId} {a1 : Option Addr} (ht : P.underlying t = some (.pointer elem)) (hx : ev e (compX x) = some (.pointer a1)) (hy : ev e (compX y) = some (.pointer none)) (k : WL P n ops r K ((d, .bool a1.isNone) :: e) h) : WL P n ops (⟨some d, .binOp .eql t x y u, ty, pos, af, none⟩ :: r) K e h :=
  o_pure rfl (fun a ha w => by
    have h1 := run_eq_of rfl (eqIn_ptr w 9999 t elem a1 ht)
    simp only [execOp, ev_sound ha hx, ev_sound ha hy, eqGuard_at_pointer, Sem.run_bind, Sem.run_pure, Result.andThen_ok, h1]) k
theorem o_pnnil {x y : Operand} {t u elem : TypeId} {a1 : Option Addr} (ht : P.underlying t = some (.pointer elem)) (hx : ev e (compX x) = some (.pointer a1)) (hy : ev e (compX y) = some (.pointer none)) (k : WL P n ops r K ((d, .bool a1.isSome) :: e) h) : WL P n ops (⟨some d, .binOp .neq t x y u, ty, pos, af, none⟩ :: r) K e h :=
  o_pure rfl (fun a ha w => by
    have h1 := run_ne_of rfl (eqIn_ptr w 9999 t elem a1 ht)
    simp only [execOp, ev_sound ha hx, ev_sound ha hy, eqGuard_at_pointer, Sem.run_bind, Sem.run_pure, Result.andThen_ok, h1]; cases a1 <;> rfl) k
theorem o_snil {x y : Operand} {t u elem : TypeId} {a1 : Option Addr} {l c l' c' : Nat} (ht : P.underlying t = some (.slice elem)) (hx : ev e (compX x) = some (.slice a1 l c)) (hy : ev e (compX y) = some (.slice none l' c')) (k : WL P n ops r K ((d, .bool a1.isNone) :: e) h) : WL P n ops (⟨some d, .binOp .eql t x y u, ty, pos, af, none⟩ :: r) K e h :=
  o_pure rfl (fun a ha w => by
    have h1 := run_eq_of rfl (eqIn_slc w 9999 t elem a1 l c l' c' ht)
    simp only [execOp, ev_sound ha hx, ev_sound ha hy, eqGuard_at_slice, Sem.run_bind, Sem.run_pure, Result.andThen_ok, h1]) k
theorem o_snnil {x y : Operand} {t u elem : TypeId} {a1 : Option Addr} {l c l' c' : Nat} (ht : P.underlying t = some (.slice elem)) (hx : ev e (compX x) = some (.slice a1 l c)) (hy : ev e (compX y) = some (.slice none l' c')) (k : WL P n ops r K ((d, .bool a1.isSome) :: e) h) : WL P n ops (⟨some d, .binOp .neq t x y u, ty, pos, af, none⟩ :: r) K e h :=
  o_pure rfl (fun a ha w => by
    have h1 := run_ne_of rfl (eqIn_slc w 9999 t elem a1 l c l' c' ht)
    simp only [execOp, ev_sound ha hx, ev_sound ha hy, eqGuard_at_slice, Sem.run_bind, Sem.run_pure, Result.andThen_ok, h1]; cases a1 <;> rfl) k
theorem o_beq {x y : Operand} {t u : TypeId} {b1 b2 : Bool} (ht : P.underlying t = some .bool) (hx : ev e (compX x) = some (.bool b1)) (hy : ev e (compX y) = some (.bool b2)) (k : WL P n ops r K ((d, .bool (b1 == b2)) :: e) h) : WL P n ops (⟨some d, .binOp .eql t x y u, ty, pos, af, none⟩ :: r) K e h :=
  o_pure rfl (fun a ha w => by
    have h1 := run_eq_of rfl (eqIn_bool w 9999 t b1 b2 ht)
    simp only [execOp, ev_sound ha hx, ev_sound ha hy, eqGuard_at_bool, Sem.run_bind, Sem.run_pure, Result.andThen_ok, h1]) k
theorem o_bne {x y : Operand} {t u : TypeId} {b1 b2 : Bool} (ht : P.underlying t = some .bool) (hx : ev e (compX x) = some (.bool b1)) (hy : ev e (compX y) = some (.bool b2)) (k : WL P n ops r K ((d, .bool (!(b1 == b2))) :: e) h) : WL P n ops (⟨some d, .binOp .neq t x y u, ty, pos, af, none⟩ :: r) K e h :=
  o_pure rfl (fun a ha w => by
    have h1 := run_ne_of rfl (eqIn_bool w 9999 t b1 b2 ht)
    simp only [execOp, ev_sound ha hx, ev_sound ha hy, eqGuard_at_bool, Sem.run_bind, Sem.run_pure, Result.andThen_ok, h1]) k

theorem o_conv {x : Operand} {s t : TypeId} {ik jk : IntKind} {p c : Int} (ht : intB P t = some ik) (hs : (P.underlying s).isSome = true) (hx : ev e (compX x) = some (.int jk p)) (hc : ik.wrap p = c) (k : WL P n ops r K ((d, .int ik c) :: e) h) : WL P n ops (⟨some d, .convert s t x, ty, pos, af, none⟩ :: r) K e h := by
  have hu : P.underlying t = some (.int ik) := by
    unfold intB at ht
    split at ht
    · rename_i k' hk; rw [hk, Option.some.inj ht]
    · cases ht
  refine o_pure (by simp [cls, hu]) (fun a ha w => ?_) k
  subst hc
  obtain ⟨ds, hds⟩ := Option.isSome_iff_exists.1 hs
  simp [execOp, ev_sound ha hx, convert, run_underlying hds, run_underlying hu, Conv.intToInt]

theorem o_nilc {x : Operand} {a1 : Addr} (hx : ev e (compX x) = some (.pointer (some a1))) (k : WL P n ops r K ((d, .pointer (some a1)) :: e) h) : WL P n ops (⟨some d, .nilCheck x, ty, pos, af, none⟩ :: r) K e h :=
  o_pure rfl (fun a ha w => by simp [execOp, ev_sound ha hx]) k

theorem o_fld {x : Operand} {s f b o m off : Nat} (hf : fldB P s f = some m) (hx : ev e (compX x) = some (.pointer (some ⟨b, o, none⟩))) (ho : o + m = off) (k : WL P n ops r K ((d, .pointer (some ⟨b, off, none⟩)) :: e) h) : WL P n ops (⟨some d, .fieldAddr s x f, ty, pos, af, none⟩ :: r) K e h := by
  refine o_pure rfl (fun a ha w => ?_) k
  subst ho
  unfold fldB at hf
  split at hf
  · rename_i fs hu
    split at hf
    · rename_i fl hfl
      split at hf
      · rename_i i hi
        split at hf
        · cases hf
        · rename_i hz
          obtain rfl := Option.some.inj hf
          simp [execOp, ev_sound ha hx, Instr.fieldAt, run_underlying hu, hfl, Instr.sureAddr, fieldPlace, sizeOf, typeInfo, hi, hz, Addr.add_lit]
      · cases hf
    · cases hf
  · cases hf

theorem slcB_spec {t el sz : Nat} (hs : slcB P t = some (el, sz)) : P.underlying t = some (.slice el) ∧ ∃ i, P.info? el = some i ∧ i.size = sz := by
  unfold slcB at hs
  split at hs
  · rename_i e' hu
    cases hi : P.info? e' with
    | none => simp [hi] at hs
    | some i => simp [hi] at hs; obtain ⟨rfl, rfl⟩ := hs; exact ⟨hu, i, hi, rfl⟩
  · cases hs
theorem arrB_spec {t m sz : Nat} (hs : arrB P t = some (m, sz)) : ∃ el i, P.underlying t = some (.array m el) ∧ P.info? el = some i ∧ i.size = sz := by
  unfold arrB at hs
  split at hs
  · rename_i m' e' hu
    cases hi : P.info? e' with
    | none => simp [hi] at hs
    | some i => simp [hi] at hs; obtain ⟨rfl, rfl⟩ := hs; exact ⟨e', i, hu, hi, rfl⟩
  · cases hs

/-- The address of a slice's element. -/
theorem o_idx {x y : Operand} {t el sz b o l c off : Nat} {ik : IntKind} {i : Int} (hs : slcB P t = some (el, sz)) (hx : ev e (compX x) = some (.slice (some ⟨b, o, none⟩) l c)) (hy : ev e (compX y) = some (.int ik i)) (hb : 0 ≤ i ∧ i < l) (ho : o + i.toNat * sz = off)
    (k : WL P n ops r K ((d, .pointer (some ⟨b, off, none⟩)) :: e) h) : WL P n ops (⟨some d, .indexAddr t x y, ty, pos, af, none⟩ :: r) K e h := by
  refine o_pure rfl (fun a ha w => ?_) k
  subst ho
  obtain ⟨hu, i', hi, rfl⟩ := slcB_spec hs
  simp [execOp, ev_sound ha hx, ev_sound ha hy, Instr.indexAt, run_underlying hu, asIntOf, hb.1, hb.2, sizeOf, typeInfo, hi, Addr.add_lit]
/-- The address of an array's element. -/
theorem o_idxA {x y : Operand} {t m sz b o off : Nat} {ik : IntKind} {i : Int} (hs : arrB P t = some (m, sz)) (hx : ev e (compX x) = some (.pointer (some ⟨b, o, none⟩))) (hy : ev e (compX y) = some (.int ik i)) (hb : 0 ≤ i ∧ i < m) (ho : o + i.toNat * sz = off)
    (k : WL P n ops r K ((d, .pointer (some ⟨b, off, none⟩)) :: e) h) : WL P n ops (⟨some d, .indexAddr t x y, ty, pos, af, none⟩ :: r) K e h := by
  refine o_pure rfl (fun a ha w => ?_) k
  subst ho
  obtain ⟨el, i', hu, hi, rfl⟩ := arrB_spec hs
  simp [execOp, ev_sound ha hx, ev_sound ha hy, Instr.indexAt, run_underlying hu, asIntOf, hb.1, hb.2, sizeOf, typeInfo, hi, Addr.add_lit, Instr.sureAddr]

theorem o_ext {x : Operand} {i : Nat} {vs : Array Value} {v : Value} (hx : ev e (compX x) = some (.tuple vs)) (hv : vs[i]? = some v) (k : WL P n ops r K ((d, v) :: e) h) : WL P n ops (⟨some d, .extract x i, ty, pos, af, none⟩ :: r) K e h :=
  o_pure rfl (fun a ha w => by simp [execOp, ev_sound ha hx, Instr.extract, hv]) k

def evs (e : Env) : List Operand → Option (List Value)
  | [] => some []
  | x :: r => match ev e (compX x), evs e r with
    | some v, some vs => some (v :: vs)
    | _, _ => none
theorem evs_sound {a : Act} (ha : Knows n e a) : ∀ (xs : List Operand) {vs : List Value}, evs e xs = some vs → xs.map a.eval = vs
  | [], _, hv => by simp [evs] at hv; simp [hv]
  | x :: r, vs, hv => by
    unfold evs at hv
    split at hv
    · rename_i v us hx hr
      obtain rfl := Option.some.inj hv
      simp [ev_sound ha hx, evs_sound ha r hr]
    · cases hv

theorem evs_arr {a : Act} (ha : Knows n e a) (xs : Array Operand) {vs : List Value} (hv : evs e xs.toList = some vs) : xs.map a.eval = vs.toArray := by
  apply Array.ext'
  rw [Array.toList_map, evs_sound ha _ hv]

theorem o_mkf {fn : Fn} {fs cs : Array Operand} {vs us : List Value} (h1 : evs e fs.toList = some vs) (h2 : evs e cs.toList = some us) (k : WL P n ops r K ((d, .func fn vs.toArray us.toArray) :: e) h) : WL P n ops (⟨some d, .makeFunc fn fs cs, ty, pos, af, none⟩ :: r) K e h :=
  o_pure rfl (fun a ha w => by
    have e1 := evs_arr ha fs h1
    have e2 := evs_arr ha cs h2
    simp [execOp, Instr.makeFunc, e1, e2]) k

theorem o_len {x : Operand} {t el sz l c : Nat} {a1 : Option Addr} (hs : slcB P t = some (el, sz)) (hx : ev e (compX x) = some (.slice a1 l c)) (k : WL P n ops r K ((d, .int .i64 l) :: e) h) : WL P n ops (⟨some d, .call { callee := .builtin .len, args := #[x], argTypes := #[t] }, ty, pos, af, none⟩ :: r) K e h :=
  o_pure rfl (fun a ha w => by simp [execOp, resolve, invoke, builtin, ev_sound ha hx, Builtin.len_, run_underlying (slcB_spec hs).1, goInt]) k
theorem o_lenS {x : Operand} {t : Nat} {s : ByteArray} (ht : P.underlying t = some .string) (hx : ev e (compX x) = some (.string s)) (k : WL P n ops r K ((d, .int .i64 s.size) :: e) h) : WL P n ops (⟨some d, .call { callee := .builtin .len, args := #[x], argTypes := #[t] }, ty, pos, af, none⟩ :: r) K e h :=
  o_pure rfl (fun a ha w => by simp [execOp, resolve, invoke, builtin, ev_sound ha hx, Builtin.len_, run_underlying ht, goInt]) k
theorem o_min {x y : Operand} {t : Array TypeId} {ik : IntKind} {p q : Int} (hx : ev e (compX x) = some (.int ik p)) (hy : ev e (compX y) = some (.int ik q)) (k : WL P n ops r K ((d, .int ik (if q < p then q else p)) :: e) h) : WL P n ops (⟨some d, .call { callee := .builtin .min, args := #[x, y], argTypes := t }, ty, pos, af, none⟩ :: r) K e h :=
  o_pure rfl (fun a ha w => by simp [execOp, resolve, invoke, builtin, ev_sound ha hx, ev_sound ha hy, Builtin.min_, Builtin.min2]) k
theorem o_max {x y : Operand} {t : Array TypeId} {ik : IntKind} {p q : Int} (hx : ev e (compX x) = some (.int ik p)) (hy : ev e (compX y) = some (.int ik q)) (k : WL P n ops r K ((d, .int ik (if q > p then q else p)) :: e) h) : WL P n ops (⟨some d, .call { callee := .builtin .max, args := #[x, y], argTypes := t }, ty, pos, af, none⟩ :: r) K e h :=
  o_pure rfl (fun a ha w => by simp [execOp, resolve, invoke, builtin, ev_sound ha hx, ev_sound ha hy, Builtin.max_, Builtin.max2]) k

/-- A struct's or an array's value, of its parts. -/
def evp (e : Env) : List (Nat × Operand) → Option (List (Nat × Value))
  | [] => some []
  | (i, x) :: r => match ev e (compX x), evp e r with
    | some v, some vs => some ((i, v) :: vs)
    | _, _ => none
theorem evp_sound {a : Act} (ha : Knows n e a) : ∀ (xs : List (Nat × Operand)) {vs : List (Nat × Value)}, evp e xs = some vs → xs.map (fun (i, x) => (i, a.eval x)) = vs
  | [], _, hv => by simp [evp] at hv; simp [hv]
  | (i, x) :: r, vs, hv => by
    unfold evp at hv
    split at hv
    · rename_i v us hx hr
      obtain rfl := Option.some.inj hv
      simp [ev_sound ha hx, evp_sound ha r hr]
    · cases hv
/-- What is filled, and where: by reckoning. -/
def bldB (P : Program) (t : TypeId) : Option (Array Value × List (Nat × Nat)) :=
  match P.info? t, P.underlying t with
  | some it, some (.array m el) =>
    match it.zero, P.info? el with
    | some z, some ie => some (z.cells, (List.range m).map fun i => (i * ie.size, ie.size))
    | _, _ => none
  | some it, some (.struct fields) =>
    match it.zero, fields.toList.mapM (fun f => (P.info? f.type).map fun i => (f.offset, i.size)) with
    | some z, some places => some (z.cells, places)
    | _, _ => none
  | _, _ => none
theorem fill_more {place place' : Nat → Option (Nat × Nat)} : ∀ (l : List (Nat × Value)) (cs : Array Value) {c : Array Value}, (∀ i p, place i = some p → place' i = some p) → Instr.fill place cs l = some c → Instr.fill place' cs l = some c
  | [], _, _, _, hf => hf
  | (i, v) :: r, cs, c, hp, hf => by
    unfold Instr.fill at hf ⊢
    cases hq : place i with
    | none => simp [hq] at hf
    | some p =>
      obtain ⟨off, size⟩ := p
      simp only [hq] at hf
      simp only [hp i _ hq]
      split
      · rename_i hc; rw [if_pos hc] at hf; cases hf
      · rename_i hc; rw [if_neg hc] at hf; exact fill_more r _ hp hf
theorem o_bld {t : TypeId} {ps : Array (Nat × Operand)} {vs : List (Nat × Value)} {z c : Array Value} {pl : List (Nat × Nat)} (hb : bldB P t = some (z, pl)) (hv : evp e ps.toList = some vs) (hf : Instr.fill (fun i => pl[i]?) z vs = some c) (k : WL P n ops r K ((d, .agg c) :: e) h) :
    WL P n ops (⟨some d, .build t ps, ty, pos, af, none⟩ :: r) K e h := by
  refine o_pure rfl (fun a ha w => ?_) k
  have e1 : (ps.map fun (i, x) => (i, a.eval x)).toList = vs := by rw [Array.toList_map]; exact evp_sound ha _ hv
  have h2 : P.built t vs = some c := by
    unfold bldB at hb
    unfold Program.built
    cases hit : P.info? t with
    | none => simp [hit] at hb
    | some it =>
      cases hu : P.underlying t with
      | none => simp [hit, hu] at hb
      | some ds =>
        cases hz : it.zero with
        | none => cases ds <;> simp [hit, hu, hz] at hb
        | some zz =>
          cases ds <;> try (simp [hit, hu] at hb; done)
          case array m el =>
            cases hie : P.info? el with
            | none => simp [hit, hu, hz, hie] at hb
            | some ie =>
              simp only [hit, hu, hz, hie, Option.some.injEq, Prod.mk.injEq] at hb
              obtain ⟨rfl, rfl⟩ := hb
              simp only [hz, hie]
              refine fill_more _ _ (fun i p hp => ?_) hf
              simp only [List.getElem?_map, Option.map_eq_some_iff] at hp
              obtain ⟨j, hj, rfl⟩ := hp
              have := List.getElem?_eq_some_iff.1 hj
              obtain ⟨hl, hj'⟩ := this
              simp at hj'
              rw [hj']
          case struct fields =>
            cases hp : fields.toList.mapM (fun f => (P.info? f.type).map fun i => (f.offset, i.size)) with
            | none => simp [hit, hu, hz, hp] at hb
            | some places =>
              simp only [hit, hu, hz, hp, Option.some.injEq, Prod.mk.injEq] at hb
              obtain ⟨rfl, rfl⟩ := hb
              simp only [hz, hp]
              refine fill_more _ _ (fun i p hp => ?_) hf
              simpa using hp
  rw [show execOp a.eval ⟨some d, .build t ps, ty, pos, af, none⟩ = (do pure (.value (← Instr.build t (ps.map fun (i, x) => (i, a.eval x))))) from rfl]
  rw [Sem.run_bind, run_build w t _ c (by rw [e1]; exact h2)]
  exact rfl

/-! ### Reads -/
theorem o_read {op : Op} {v : Value} (hc : cls P op = .read) (hp : ReadAt P n ⟨some d, op, ty, pos, af, none⟩ e h v) (k : WL P n ops r K ((d, v) :: e) h) : WL P n ops (⟨some d, op, ty, pos, af, none⟩ :: r) K e h := by
  show WOp P n ops _ _ e h
  unfold WOp WOpV
  simp only []
  unfold WAct
  rw [hc]
  exact ⟨v, hp, k⟩

theorem Holds.at_ {w : World} {L : Hp} (hh : Holds w (h.flatten ++ L)) {b : Nat} {c : Array Value} {T : TypeId} {fr : Nat × Nat} (hm : At h b (.cells c T fr)) (off : Nat) : w.cell? ⟨b, off, none⟩ = c[off]? :=
  hh.cell (List.mem_append.2 (.inl hm))

theorem lodB_one {t : Nat} (hl : lodB P t = some none) (w : World) : (isAgg t).run P w = .ok false w := by
  unfold lodB at hl
  split at hl <;> try (cases hi : P.info? t <;> simp [hi] at hl; done)
  · rename_i d' h1 h2 hu
    unfold isAgg
    rw [Sem.run_bind, run_underlying hu]
    cases d' <;> simp_all
theorem lodB_many {t m : Nat} (hl : lodB P t = some (some m)) (w : World) : (isAgg t).run P w = .ok true w ∧ (sizeOf t).run P w = .ok m w := by
  unfold lodB at hl
  split at hl
  · rename_i fs hu
    cases hi : P.info? t with
    | none => simp [hi] at hl
    | some i => simp [hi] at hl; subst hl; exact ⟨by simp [isAgg, run_underlying hu], by simp [sizeOf, typeInfo, hi]⟩
  · rename_i a1 a2 hu
    cases hi : P.info? t with
    | none => simp [hi] at hl
    | some i => simp [hi] at hl; subst hl; exact ⟨by simp [isAgg, run_underlying hu], by simp [sizeOf, typeInfo, hi]⟩
  · cases hl
  · cases hl

theorem o_load {x : Operand} {t b off : Nat} {c : Array Value} {T : TypeId} {fr : Nat × Nat} {v : Value} (hl : lodB P t = some none) (hx : ev e (compX x) = some (.pointer (some ⟨b, off, none⟩))) (hm : At h b (.cells c T fr)) (hv : c[off]? = some v)
    (k : WL P n ops r K ((d, v) :: e) h) : WL P n ops (⟨some d, .load t x, ty, pos, af, none⟩ :: r) K e h := by
  refine o_read rfl (fun a w L ha hh => ?_) k
  have hc := (hh.at_ hm off).trans hv
  simp [execOp, Instr.loadAt, ev_sound ha hx, Instr.sureAddr, loadVar, lodB_one hl, hc]

/-- A struct or an array, read whole. -/
theorem o_loadN {x : Operand} {t m b off : Nat} {c vs : Array Value} {T : TypeId} {fr : Nat × Nat} (hl : lodB P t = some (some m)) (hx : ev e (compX x) = some (.pointer (some ⟨b, off, none⟩))) (hm : At h b (.cells c T fr)) (hs : off + m ≤ c.size) (hv : c.extract off (off + m) = vs)
    (k : WL P n ops r K ((d, .agg vs) :: e) h) : WL P n ops (⟨some d, .load t x, ty, pos, af, none⟩ :: r) K e h := by
  refine o_read rfl (fun a w L ha hh => ?_) k
  obtain ⟨h1, h2⟩ := lodB_many hl w
  have hlen : vs.size = m := by rw [← hv]; simp; omega
  have h3 := run_loadCells_list (P := P) w ⟨b, off, none⟩ vs.toList (fun j u hj => by
    rw [Addr.add_lit, hh.at_ hm]
    have hj' : vs[j]? = some u := by simpa using hj
    have hjl : j < m := by rw [← hlen]; exact (Array.getElem?_eq_some_iff.1 hj').1
    rw [← hv, Array.getElem?_extract] at hj'
    rw [if_pos (by omega)] at hj'
    exact hj')
  simp only [Array.length_toList, Array.toArray_toList, hlen] at h3
  simp [execOp, Instr.loadAt, ev_sound ha hx, Instr.sureAddr, loadVar, h1, h2, h3]

/-! ### New blocks -/
theorem o_new {op : Op} {ob : Obj} {f : Nat → Value} (hc : cls P op = .alloc) (hp : AllocAt P n ⟨some d, op, ty, pos, af, none⟩ e ob f) (k : ∀ b, WL P n ops r K ((d, f b) :: e) ([(b, ob)] :: h)) : WL P n ops (⟨some d, op, ty, pos, af, none⟩ :: r) K e h := by
  show WOp P n ops _ _ e h
  unfold WOp WOpV
  simp only []
  unfold WAct
  rw [hc]
  exact ⟨ob, f, hp, k⟩

theorem zerB_spec {t s by' : Nat} {z : Value} (hz : zerB P t = some (z, s, by')) : ∃ i, P.info? t = some i ∧ i.zero = some z ∧ i.size = s ∧ i.bytes = by' := by
  unfold zerB at hz
  split at hz
  · rename_i i hi
    cases hq : i.zero with
    | none => simp [hq] at hz
    | some zz => simp [hq] at hz; obtain ⟨rfl, rfl, rfl⟩ := hz; exact ⟨i, hi, hq, rfl, rfl⟩
  · cases hz

theorem o_alloc {t s by' : Nat} {z : Value} (hz : zerB P t = some (z, s, by')) (k : ∀ b, WL P n ops r K ((d, .pointer (some ⟨b, 0, none⟩)) :: e) ([(b, .cells z.cells t (0, 0))] :: h)) : WL P n ops (⟨some d, .alloc t, ty, pos, af, none⟩ :: r) K e h := by
  obtain ⟨i, hi, hq, _, _⟩ := zerB_spec hz
  exact o_new (f := fun b => .pointer (some ⟨b, 0, none⟩)) rfl (fun a ha w => by simp [execOp, Instr.alloc, zeroValue, typeInfo, hi, hq, newVar, newRow]) k
theorem o_box {x : Operand} {t : Nat} {v : Value} (hx : ev e (compX x) = some v) (k : ∀ b, WL P n ops r K ((d, .pointer (some ⟨b, 0, none⟩)) :: e) ([(b, .cells v.cells t (0, 0))] :: h)) : WL P n ops (⟨some d, .box t x, ty, pos, af, none⟩ :: r) K e h :=
  o_new (f := fun b => .pointer (some ⟨b, 0, none⟩)) rfl (fun a ha w => by simp [execOp, Instr.box, ev_sound ha hx, newVar, newRow]) k
/-- make([]T, l, c). -/
theorem o_mks {x y : Operand} {t el sz s by' : Nat} {z : Value} {k1 k2 : IntKind} {l c : Int} (hs : slcB P t = some (el, sz)) (hz : zerB P el = some (z, s, by')) (hx : ev e (compX x) = some (.int k1 l)) (hy : ev e (compX y) = some (.int k2 c)) (h0 : 0 ≤ l) (h1 : l ≤ c) (hb : (by' : Int) * c ≤ 281474976710656) (hc : c ≤ 9223372036854775807)
    (k : ∀ b, WL P n ops r K ((d, .slice (some ⟨b, 0, none⟩) l.toNat c.toNat) :: e) ([(b, .cells (madeCells z.cells (c.toNat * s)) el (0, 0))] :: h)) : WL P n ops (⟨some d, .makeSlice t x y, ty, pos, af, none⟩ :: r) K e h := by
  obtain ⟨i, hi, hq, rfl, rfl⟩ := zerB_spec hz
  exact o_new (f := fun b => .slice (some ⟨b, 0, none⟩) l.toNat c.toNat) rfl (fun a ha w => by
    simp only [execOp, ev_sound ha hx, ev_sound ha hy, Sem.run_bind, run_make w t el i z (slcB_spec hs).1 hi hq k1 k2 l c h0 h1 hb hc, Result.andThen_ok, Sem.run_pure]) k

/-! ### Effects -/
theorem o_eff {op : Op} {dst : Option Tmp} (hc : cls P op = .eff) (hp : EffAt P n ⟨dst, op, ty, pos, af, none⟩ e h fun v h' => WL P n ops r K (putE dst v e) h') : WL P n ops (⟨dst, op, ty, pos, af, none⟩ :: r) K e h := by
  show WOp P n ops _ _ e h
  unfold WOp WOpV
  simp only []
  unfold WAct
  rw [hc]
  exact hp

theorem one_of_not_agg {v : Value} (hv : v.oneCell' = true) : v.cells = #[v] := by cases v <;> first | rfl | cases hv

theorem o_store {x y : Operand} {t b off : Nat} {c : Array Value} {T : TypeId} {fr : Nat × Nat} {u v : Value} {h' : Hs} (hl : sizB P t = some 1) (hx : ev e (compX x) = some (.pointer (some ⟨b, off, none⟩))) (hy : ev e (compX y) = some v) (h1 : v.oneCell' = true)
    (hm : Upd h b (.cells c T fr) (.cells (c.setIfInBounds off v) T fr) h') (hv : c[off]? = some u) (hf : (decide (fr.1 ≤ off) && decide (off < fr.2)) = false)
    (k : WL P n ops r K e h') : WL P n ops (⟨none, .store t x y, ty, pos, af, none⟩ :: r) K e h := by
  refine o_eff rfl (fun a w L ha hh => ?_)
  have hi : (sizeOf t).run P w = .ok 1 w := by
    unfold sizB at hl
    cases hi : P.info? t with
    | none => simp [hi] at hl
    | some i => simp [hi] at hl; simp [sizeOf, typeInfo, hi, hl]
  obtain ⟨R, hp, _⟩ := hm.perm
  have hh2 := hh.perm (List.Perm.append_right L hp.flatten)
  simp only [List.flatten_cons, List.cons_append, List.nil_append] at hh2
  have hc : w.cell? ⟨b, off, none⟩ = some u := (hh2.cell (List.mem_cons_self ..)).trans hv
  have hfz : w.frozen? ⟨b, off, none⟩ = false := (hh2.frozen (List.mem_cons_self ..)).trans hf
  have hrun : (execOp a.eval ⟨none, .store t x y, ty, pos, af, none⟩).run P w = .ok .skip (w.setCell ⟨b, off, none⟩ v) := by
    have hst := run_store P w ⟨b, off, none⟩ v .plain h1
    simp only [hc, hfz] at hst
    simp [execOp, Instr.storeAt, ev_sound ha hx, ev_sound ha hy, Instr.sureAddr, storeVar, one_of_not_agg h1, hi, storeCells, Addr.add_zero', hst]
  rw [hrun]
  exact ⟨h', k, Evo.setCell .., [], by simpa using hm.holds hh fun L hL => hL.setCell v⟩

/-- A function that may be called: it has a body, and isn't the scheduler's. -/
def fnB (P : Program) (f : FuncId) : Bool := match P.funcs[f]? with
  | some fn => !(fn.name == "runtime.NumGoroutine") && !fn.body.isNone
  | none => false
theorem fnB_run {f : FuncId} (hf : fnB P f = true) (args : Array Value) (w : World) : (callFunc f args).run P w = .ok (.enter f args) w := by
  unfold fnB at hf
  split at hf
  · rename_i fn hfn
    simp only [Bool.and_eq_true, Bool.not_eq_true', beq_eq_false_iff_ne, ne_eq, Option.isNone_eq_false_iff] at hf
    have h2 : ¬ fn.body = none := by intro h; rw [h] at hf; simp at hf
    simp [callFunc, hfn, hf.1, h2]
  · cases hf

theorem spec_upon {f : FuncId} {args : List Value} {hin : Hs} {post : Value → Hs → Prop} (sp : Ctr P f args hin post) {R : Hs} (tk : Take hin h R) {K' : Value → Hs → Prop} (k : ∀ v ho, post v ho → K' v (ho ++ R)) {w : World} {L : Hp} (hh : Holds w (h.flatten ++ L)) :
    uponV P (fun v w' => ∃ h', K' v h' ∧ Evo w w' ∧ ∃ X, Holds w' (h'.flatten ++ (X ++ L))) (.ok (.enter f args.toArray) w) := by
  have h1 := hh.perm (List.Perm.append_right L tk.perm.flatten)
  rw [List.flatten_append, List.append_assoc] at h1
  refine (sp _ w h1).mono ?_
  rintro e w' ⟨v, ho, rfl, hp, he, X, hX⟩
  refine ⟨ho ++ R, k v ho hp, he, X, hX.perm ?_⟩
  rw [List.flatten_append, List.append_assoc]
  refine List.Perm.append_left _ ?_
  exact List.perm_append_comm_assoc ..

/-- A call by a contract. -/
theorem o_call {f : FuncId} {xs : Array Operand} {ts : Array TypeId} {vs : List Value} {hin R : Hs} {post : Value → Hs → Prop} (sp : Ctr P f vs hin post) (hf : fnB P f = true) (hv : evs e xs.toList = some vs) (tk : Take hin h R) (k : ∀ v ho, post v ho → WL P n ops r K ((d, v) :: e) (ho ++ R)) :
    WL P n ops (⟨some d, .call { callee := .value (.func f), args := xs, argTypes := ts }, ty, pos, af, none⟩ :: r) K e h := by
  refine o_eff rfl (fun a w L ha hh => ?_)
  have e1 := evs_arr ha xs hv
  have hrun : (execOp a.eval ⟨some d, .call { callee := .value (.func f), args := xs, argTypes := ts }, ty, pos, af, none⟩).run P w = .ok (.enter f vs.toArray) w := by
    simp [execOp, resolve, e1, Act.eval, Deferred.ofValue, invoke, fnB_run hf]
  rw [hrun]
  exact spec_upon sp tk k hh
/-- A call of a function's value. -/
theorem o_callv {f : FuncId} {x : Operand} {xs : Array Operand} {ts : Array TypeId} {vs : List Value} {cap : Array Value} {us : List Value} {hin R : Hs} {post : Value → Hs → Prop} (sp : Ctr P f us hin post) (hf : fnB P f = true) (hx : ev e (compX x) = some (.func (.func f) #[] cap)) (hv : evs e xs.toList = some vs) (hu : vs ++ cap.toList = us) (tk : Take hin h R) (k : ∀ v ho, post v ho → WL P n ops r K ((d, v) :: e) (ho ++ R)) :
    WL P n ops (⟨some d, .call { callee := .value x, args := xs, argTypes := ts }, ty, pos, af, none⟩ :: r) K e h := by
  refine o_eff rfl (fun a w L ha hh => ?_)
  have e1 := evs_arr ha xs hv
  subst hu
  have hrun : (execOp a.eval ⟨some d, .call { callee := .value x, args := xs, argTypes := ts }, ty, pos, af, none⟩).run P w = .ok (.enter f (vs ++ cap.toList).toArray) w := by
    have e2 : vs.toArray ++ cap = (vs ++ cap.toList).toArray := by apply Array.ext'; simp
    simp [execOp, resolve, e1, ev_sound ha hx, Deferred.ofValue, invoke, fnB_run hf, e2]
  rw [hrun]
  exact spec_upon sp tk k hh

end
end Go.Eng
