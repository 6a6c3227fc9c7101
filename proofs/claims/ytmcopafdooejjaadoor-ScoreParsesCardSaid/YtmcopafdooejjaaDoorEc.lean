/- The engine, part 3: a region whose order is open: a plan (which operation may be taken first) is checked by reckoning; what is shown in the plan's order holds in every order. No condition. -/
import Derived.Test.YtmcopafdooejjaaDoorEb
namespace Go.Eng

inductive Plan where
  | done
  | take (i : Nat) (t : Plan)
  | alt (i : Nat) (t r : Plan)
  | stop

def alts : Plan → List Nat
  | .alt i _ r => i :: alts r
  | _ => []

def okPair (P : Program) (x y : Oper) : Bool :=
  match cls P x.op with
  | .pure => true
  | .read => match cls P y.op with
    | .eff => false
    | _ => true
  | _ => false

/-- It can't be taken as long as i wasn't. -/
def behind (ops : Array Oper) (listed : Array Bool) (i : Nat) : Nat → Nat → Bool
  | 0, _ => false
  | f + 1, j => match ops[j]? with
    | some oj => oj.after.any fun x => Region.binds .any x && (x.on == i || (listed.getD x.on true == false && behind ops listed i f x.on))
    | none => false
theorem behind_more {ops : Array Oper} {listed : Array Bool} {i : Nat} : ∀ (f : Nat) {j : Nat}, behind ops listed i f j = true → behind ops listed i (f + 1) j = true
  | 0, _, h => by simp [behind] at h
  | f + 1, j, h => by
    rw [behind] at h ⊢
    cases hj : ops[j]? with
    | none => simp [hj] at h
    | some oj =>
      simp only [hj] at h ⊢
      obtain ⟨x, hx, hb⟩ := Array.any_eq_true'.1 h
      refine Array.any_eq_true'.2 ⟨x, hx, ?_⟩
      simp only [Bool.and_eq_true, Bool.or_eq_true, beq_iff_eq] at hb ⊢
      exact ⟨hb.1, hb.2.imp id fun h2 => ⟨h2.1, behind_more f h2.2⟩⟩

def freeB (P : Program) (ops : Array Oper) (listed : Array Bool) (i : Nat) : Bool :=
  match ops[i]? with
  | none => false
  | some oi => (match cls P oi.op with | .pure | .read => true | _ => false) && (List.range ops.size).all fun j => j == i || listed.getD j true || match ops[j]? with
      | some oj => behind ops listed i 3 j || (oi.apart ops oj && okPair P oi oj)
      | none => true

/-- The check: the fuel, whether we stand among alternatives, what was done. -/
def planOk (P : Program) (ops : Array Oper) : Plan → Nat → Bool → Array Bool → Bool
  | .done, _, false, listed => (Region.ready .any ops listed).isEmpty
  | .take i t, f + 1, false, listed => (Region.ready .any ops listed).contains i && freeB P ops listed i && planOk P ops t f false (listed.setIfInBounds i true)
  | .alt i t r, f + 1, false, listed => !(Region.ready .any ops listed).isEmpty && (Region.ready .any ops listed).all ((i :: alts r).contains ·) && planOk P ops t f false (listed.setIfInBounds i true) && planOk P ops r (f + 1) true listed
  | .alt i t r, f + 1, true, listed => planOk P ops t f false (listed.setIfInBounds i true) && planOk P ops r (f + 1) true listed
  | .stop, _, true, _ => true
  | _, _, _, _ => false

section
variable (P : Program) (n : Nat)
def WP (ops : Array Oper) (K : Env → Hs → Prop) : Plan → Env → Hs → Prop
  | .done => K
  | .take i t => WOp P n ops (ops.getD i default) (WP ops K t)
  | .alt i t r => fun e h => WOp P n ops (ops.getD i default) (WP ops K t) e h ∧ WP ops K r e h
  | .stop => fun _ _ => True

/-- Every order. -/
def WA (ops : Array Oper) (K : Env → Hs → Prop) : Nat → Array Bool → Env → Hs → Prop
  | 0, listed, e, h => Region.ready .any ops listed = [] ∧ K e h
  | f + 1, listed, e, h => (Region.ready .any ops listed = [] → K e h) ∧ ∀ i ∈ Region.ready .any ops listed, WOp P n ops (ops.getD i default) (WA ops K f (listed.setIfInBounds i true)) e h
end

/-- What a continuation must not look at: how a slot's value was laid. -/
def EnvEq (e e' : Env) : Prop := ∀ t, get e t = get e' t
theorem EnvEq.symm {e e' : Env} (h : EnvEq e e') : EnvEq e' e := fun t => (h t).symm
theorem EnvEq.refl (e : Env) : EnvEq e e := fun _ => rfl
theorem EnvEq.knows {n : Nat} {e e' : Env} (h : EnvEq e e') {a : Act} (k : Knows n e a) : Knows n e' a := ⟨k.size, fun t v ht => k.at_ t v ((h t).trans ht)⟩
def KInv (K : Env → Hs → Prop) : Prop := ∀ e e' h, EnvEq e e' → K e h → K e' h

theorem get_cons_ne {d t : Nat} (h : d ≠ t) (v : Value) (e : Env) : get ((d, v) :: e) t = get e t := by
  have hb : Nat.beq d t = false := by
    cases hc : Nat.beq d t with
    | true => exact absurd (Nat.eq_of_beq_eq_true hc) h
    | false => rfl
  simp [get, hb]
theorem get_cons_same (d : Nat) (v : Value) (e : Env) : get ((d, v) :: e) d = some v := by simp [get]

theorem EnvEq.putE {e e' : Env} (h : EnvEq e e') (d : Option Tmp) (v : Value) : EnvEq (putE d v e) (putE d v e') := by
  cases d with
  | none => exact h
  | some d =>
    intro t
    by_cases hd : d = t
    · subst hd; simp [Eng.putE, get_cons_same]
    · simp [Eng.putE, get_cons_ne hd, h t]

theorem putE_comm {x y : Option Tmp} (h : ∀ d, x = some d → y ≠ some d) (v u : Value) (e : Env) : EnvEq (putE y u (putE x v e)) (putE x v (putE y u e)) := by
  cases x with
  | none => exact EnvEq.refl _
  | some d => cases y with
    | none => exact EnvEq.refl _
    | some k =>
      have hne : d ≠ k := fun hh => h d rfl (by rw [hh])
      intro t
      simp only [Eng.putE]
      by_cases h1 : k = t
      · subst h1; rw [get_cons_same, get_cons_ne hne, get_cons_same]
      · rw [get_cons_ne h1]
        by_cases h2 : d = t
        · subst h2; rw [get_cons_same, get_cons_same]
        · rw [get_cons_ne h2, get_cons_ne h2, get_cons_ne h1]

section
variable {P : Program} {n : Nat}

theorem PureAt.congr {o : Oper} {e e' : Env} (h : EnvEq e e') {v : Value} (hp : PureAt P n o e v) : PureAt P n o e' v := fun a k w => hp a (h.symm.knows k) w
theorem ReadAt.congr {o : Oper} {e e' : Env} (h : EnvEq e e') {hs : Hs} {v : Value} (hp : ReadAt P n o e hs v) : ReadAt P n o e' hs v := fun a w L k => hp a w L (h.symm.knows k)
theorem AllocAt.congr {o : Oper} {e e' : Env} (h : EnvEq e e') {ob : Obj} {f : Nat → Value} (hp : AllocAt P n o e ob f) : AllocAt P n o e' ob f := fun a k w => hp a (h.symm.knows k) w
theorem WAct.congr {o : Oper} {e e' : Env} (h : EnvEq e e') {hs : Hs} {K : Value → Hs → Prop} (hw : WAct P n o e hs K) : WAct P n o e' hs K := by
  unfold WAct at *
  split at hw
  · obtain ⟨v, h1, h2⟩ := hw; exact ⟨v, h1.congr h, h2⟩
  · obtain ⟨v, h1, h2⟩ := hw; exact ⟨v, h1.congr h, h2⟩
  · obtain ⟨ob, f, h1, h2⟩ := hw; exact ⟨ob, f, h1.congr h, h2⟩
  · exact fun a w L k => hw a w L (h.symm.knows k)
theorem WOpV.congr {ops : Array Oper} {o : Oper} {e e' : Env} (h : EnvEq e e') {hs : Hs} {K : Value → Hs → Prop} (hw : WOpV P n ops o e hs K) : WOpV P n ops o e' hs K := by
  unfold WOpV at *
  split at hw
  · exact hw.congr h
  · obtain ⟨d, b, h1, h2, h3, h4⟩ := hw
    exact ⟨d, b, h1, (h d).symm.trans h2, fun hb => (h3 hb).congr h, h4⟩
theorem WOp.inv {ops : Array Oper} {o : Oper} {K : Env → Hs → Prop} (hk : KInv K) : KInv (WOp P n ops o K) := fun _ _ _ he hw =>
  (WOpV.congr he hw).mono fun _ _ h => hk _ _ _ (he.putE _ _) h
theorem WA.inv {ops : Array Oper} {K : Env → Hs → Prop} (hk : KInv K) : ∀ f listed, KInv (WA P n ops K f listed)
  | 0, _ => fun _ _ _ he hw => ⟨hw.1, hk _ _ _ he hw.2⟩
  | f + 1, _ => fun _ _ _ he hw => ⟨fun hr => hk _ _ _ he (hw.1 hr), fun i hi => WOp.inv (WA.inv hk f _) _ _ _ he (hw.2 i hi)⟩

/-! ### Taking one first -/
theorem look_exec {ops : Array Oper} {o : Oper} (hs : ∀ cs b, o.op ≠ .select cs b) {d : Option Tmp} (hd : ∀ t, d = some t → t ∉ o.looksAt ops) (a : Act) (v : Value) : execOp (a.put d v).eval o = execOp a.eval o :=
  execOp_put o hs a d v hd

theorem Knows.putE {e : Env} {a : Act} (k : Knows n e a) {d : Option Tmp} (hd : ∀ t, d = some t → t < n) (v : Value) : Knows n (putE d v e) (a.put d v) := by
  cases d with
  | none => exact k
  | some t => exact k.put (hd t rfl) v

/-- Back: whoever knows the new slot knew, with the old value in it, what was known. -/
theorem Knows.back {e : Env} {d : Option Tmp} {v : Value} {a : Act} (k : Knows n (Eng.putE d v e) a) (hd : ∀ t, d = some t → t < n) : ∃ u, Knows n e (a.put d u) := by
  cases d with
  | none => exact ⟨undef, k⟩
  | some t =>
    have ht := hd t rfl
    cases hg : get e t with
    | none =>
      refine ⟨a.tmps.getD t undef, ?_⟩
      refine ⟨by simp [Act.put, k.size], fun s u hs => ?_⟩
      have hne : t ≠ s := fun h => by rw [h, hs] at hg; cases hg
      obtain ⟨h1, h2⟩ := k.at_ s u (by simp only [Eng.putE]; rw [get_cons_ne hne]; exact hs)
      exact ⟨h1, by rw [← h2]; simp [Act.put, Array.getElem?_setIfInBounds_ne hne]⟩
    | some u0 =>
      refine ⟨u0, ?_⟩
      refine ⟨by simp [Act.put, k.size], fun s u hs => ?_⟩
      by_cases hne : t = s
      · subst hne
        rw [hg] at hs
        obtain rfl := Option.some.inj hs
        exact ⟨ht, by simp [Act.put, k.size, ht]⟩
      · obtain ⟨h1, h2⟩ := k.at_ s u (by simp only [Eng.putE]; rw [get_cons_ne hne]; exact hs)
        exact ⟨h1, by rw [← h2]; simp [Act.put, Array.getElem?_setIfInBounds_ne hne]⟩

section
variable {ops : Array Oper} {o : Oper} {e : Env} {d : Option Tmp}

/-- The slot is not looked at: forget it. -/
theorem WAct.forget (hs : ∀ cs b, o.op ≠ .select cs b) (hl : ∀ t, d = some t → t ∉ o.looksAt ops) (hd : ∀ t, d = some t → t < n) {v : Value} {h : Hs} {K : Value → Hs → Prop}
    (hw : WAct P n o (putE d v e) h K) : WAct P n o e h K := by
  unfold WAct at *
  split at hw
  · obtain ⟨u, h1, h2⟩ := hw
    exact ⟨u, fun a k w => by rw [← look_exec hs hl a v]; exact h1 _ (k.putE hd v) w, h2⟩
  · obtain ⟨u, h1, h2⟩ := hw
    exact ⟨u, fun a w L k hh => by rw [← look_exec hs hl a v]; exact h1 _ w L (k.putE hd v) hh, h2⟩
  · obtain ⟨ob, f, h1, h2⟩ := hw
    exact ⟨ob, f, fun a k w => by rw [← look_exec hs hl a v]; exact h1 _ (k.putE hd v) w, h2⟩
  · exact fun a w L k hh => by rw [← look_exec hs hl a v]; exact hw _ w L (k.putE hd v) hh

theorem PureAt.later (hs : ∀ cs b, o.op ≠ .select cs b) (hl : ∀ t, d = some t → t ∉ o.looksAt ops) (hd : ∀ t, d = some t → t < n) {v u : Value} (hp : PureAt P n o e v) : PureAt P n o (putE d u e) v := by
  intro a k w
  obtain ⟨u', k'⟩ := k.back hd
  rw [← look_exec hs hl a u']
  exact hp _ k' w
theorem ReadAt.later (hs : ∀ cs b, o.op ≠ .select cs b) (hl : ∀ t, d = some t → t ∉ o.looksAt ops) (hd : ∀ t, d = some t → t < n) {v u : Value} {h : Hs} (hp : ReadAt P n o e h v) : ReadAt P n o (putE d u e) h v := by
  intro a w L k hh
  obtain ⟨u', k'⟩ := k.back hd
  rw [← look_exec hs hl a u']
  exact hp _ w L k' hh
theorem ReadAt.grow {h : Hs} {v : Value} (hp : ReadAt P n o e h v) (c : Hp) : ReadAt P n o e (c :: h) v := by
  intro a w L k hh
  refine hp a w (c ++ L) k (hh.perm ?_)
  simp only [List.flatten_cons, List.append_assoc]
  exact (List.perm_append_comm_assoc ..)

theorem guard_look {t j : Nat} {want : Bool} (hg : o.guard = some (j, want)) (hl : ∀ t, d = some t → t ∉ o.looksAt ops) (ht : gdst ops j = some t) : ∀ k, d = some k → k ≠ t := by
  intro k hk he
  subst he
  refine hl k hk ?_
  unfold gdst at ht
  simp [Oper.looksAt, hg, ht]

theorem get_putE_ne {t : Nat} (h : ∀ k, d = some k → k ≠ t) (v : Value) : get (putE d v e) t = get e t := by
  cases d with
  | none => rfl
  | some k => exact get_cons_ne (h k rfl) v e

theorem WOpV.forget (hs : ∀ cs b, o.op ≠ .select cs b) (hl : ∀ t, d = some t → t ∉ o.looksAt ops) (hd : ∀ t, d = some t → t < n) {v : Value} {h : Hs} {K : Value → Hs → Prop}
    (hw : WOpV P n ops o (putE d v e) h K) : WOpV P n ops o e h K := by
  unfold WOpV at *
  split at hw
  · exact hw.forget hs hl hd
  · rename_i j want hg
    obtain ⟨t, b, h1, h2, h3, h4⟩ := hw
    exact ⟨t, b, h1, by rw [get_putE_ne (guard_look hg hl h1)] at h2; exact h2, fun hb => (h3 hb).forget hs hl hd, h4⟩

def HGrow (h h' : Hs) : Prop := h' = h ∨ ∃ c, h' = c :: h
theorem WOpV.grown (hc : (match cls P o.op with | .eff => false | _ => true) = true) {h : Hs} {K : Value → Hs → Prop} (hw : WOpV P n ops o e h K) : WOpV P n ops o e h fun v h' => K v h' ∧ HGrow h h' := by
  have act : WAct P n o e h K → WAct P n o e h fun v h' => K v h' ∧ HGrow h h' := by
    intro hw
    unfold WAct at *
    split at hw
    · obtain ⟨v, h1, h2⟩ := hw; exact ⟨v, h1, h2, .inl rfl⟩
    · obtain ⟨v, h1, h2⟩ := hw; exact ⟨v, h1, h2, .inl rfl⟩
    · obtain ⟨ob, f, h1, h2⟩ := hw; exact ⟨ob, f, h1, fun b => ⟨h2 b, .inr ⟨_, rfl⟩⟩⟩
    · rename_i he; simp [he] at hc
  unfold WOpV at *
  split at hw
  · exact act hw
  · obtain ⟨t, b, h1, h2, h3, h4⟩ := hw
    exact ⟨t, b, h1, h2, fun hb => act (h3 hb), fun hb => ⟨h4 hb, .inl rfl⟩⟩
end

/-- What a quiet operation gives, its guard seen to. -/
def QV (P : Program) (n : Nat) (ops : Array Oper) (o : Oper) (e : Env) (h : Hs) (v : Value) : Prop :=
  match o.guard with
  | none => ReadAt P n o e h v
  | some (j, want) => ∃ d y, gdst ops j = some d ∧ get e d = some y ∧ (boolOf y = some want → ReadAt P n o e h v) ∧ (boolOf y ≠ some want → v = undef)
def QP (P : Program) (n : Nat) (ops : Array Oper) (o : Oper) (e : Env) (v : Value) : Prop :=
  match o.guard with
  | none => PureAt P n o e v
  | some (j, want) => ∃ d y, gdst ops j = some d ∧ get e d = some y ∧ (boolOf y = some want → PureAt P n o e v) ∧ (boolOf y ≠ some want → v = undef)

theorem WOpV.of_qp {ops : Array Oper} {o : Oper} (hc : cls P o.op = .pure) {e : Env} {h : Hs} {K : Value → Hs → Prop} : WOpV P n ops o e h K ↔ ∃ v, QP P n ops o e v ∧ K v h := by
  have act : WAct P n o e h K ↔ ∃ v, PureAt P n o e v ∧ K v h := by unfold WAct; rw [hc]
  unfold WOpV QP
  rcases hg : o.guard with _ | ⟨j, want⟩
  · exact act
  · simp only []
    constructor
    · rintro ⟨t, b, h1, h2, h3, h4⟩
      by_cases hb : boolOf b = some want
      · obtain ⟨v, hv, hk⟩ := act.1 (h3 hb)
        exact ⟨v, ⟨t, b, h1, h2, fun _ => hv, fun hn => absurd hb hn⟩, hk⟩
      · exact ⟨undef, ⟨t, b, h1, h2, fun hn => absurd hn hb, fun _ => rfl⟩, h4 hb⟩
    · rintro ⟨v, ⟨t, b, h1, h2, h3, h4⟩, hk⟩
      exact ⟨t, b, h1, h2, fun hb => act.2 ⟨v, h3 hb, hk⟩, fun hb => by rw [← h4 hb]; exact hk⟩
theorem WOpV.of_qv {ops : Array Oper} {o : Oper} (hc : cls P o.op = .read) {e : Env} {h : Hs} {K : Value → Hs → Prop} : WOpV P n ops o e h K ↔ ∃ v, QV P n ops o e h v ∧ K v h := by
  have act : WAct P n o e h K ↔ ∃ v, ReadAt P n o e h v ∧ K v h := by unfold WAct; rw [hc]
  unfold WOpV QV
  rcases hg : o.guard with _ | ⟨j, want⟩
  · exact act
  · simp only []
    constructor
    · rintro ⟨t, b, h1, h2, h3, h4⟩
      by_cases hb : boolOf b = some want
      · obtain ⟨v, hv, hk⟩ := act.1 (h3 hb)
        exact ⟨v, ⟨t, b, h1, h2, fun _ => hv, fun hn => absurd hb hn⟩, hk⟩
      · exact ⟨undef, ⟨t, b, h1, h2, fun hn => absurd hn hb, fun _ => rfl⟩, h4 hb⟩
    · rintro ⟨v, ⟨t, b, h1, h2, h3, h4⟩, hk⟩
      exact ⟨t, b, h1, h2, fun hb => act.2 ⟨v, h3 hb, hk⟩, fun hb => by rw [← h4 hb]; exact hk⟩

section
variable {ops : Array Oper} {o : Oper} {e : Env} {d : Option Tmp} (hs : ∀ cs b, o.op ≠ .select cs b) (hl : ∀ t, d = some t → t ∉ o.looksAt ops) (hd : ∀ t, d = some t → t < n)
include hs hl hd
theorem QP.later {v u : Value} (hq : QP P n ops o e v) : QP P n ops o (putE d u e) v := by
  unfold QP at *
  split at hq
  · exact hq.later hs hl hd
  · rename_i j want hg
    obtain ⟨t, b, h1, h2, h3, h4⟩ := hq
    exact ⟨t, b, h1, by rw [get_putE_ne (guard_look hg hl h1)]; exact h2, fun hb => (h3 hb).later hs hl hd, h4⟩
theorem QV.later {v u : Value} {h h' : Hs} (hq : QV P n ops o e h v) (hh : HGrow h h') : QV P n ops o (putE d u e) h' v := by
  have act : ReadAt P n o e h v → ReadAt P n o (putE d u e) h' v := fun hr => by
    have h1 := hr.later (u := u) hs hl hd
    rcases hh with rfl | ⟨c, rfl⟩
    · exact h1
    · exact h1.grow c
  unfold QV at *
  split at hq
  · exact act hq
  · rename_i j want hg
    obtain ⟨t, b, h1, h2, h3, h4⟩ := hq
    exact ⟨t, b, h1, by rw [get_putE_ne (guard_look hg hl h1)]; exact h2, fun hb => act (h3 hb), h4⟩
end

theorem swap {ops : Array Oper} {x y : Oper} (hsx : ∀ cs b, x.op ≠ .select cs b) (hsy : ∀ cs b, y.op ≠ .select cs b) (hap : x.apart ops y = true) (hp : okPair P x y = true)
    (hdx : ∀ t, x.dst = some t → t < n) (hdy : ∀ t, y.dst = some t → t < n) {K : Env → Hs → Prop} (hk : KInv K) {e : Env} {h : Hs}
    (H : WOp P n ops x (WOp P n ops y K) e h) : WOp P n ops y (WOp P n ops x K) e h := by
  obtain ⟨h1, h2, h3⟩ := Oper.apart_spec hap
  unfold WOp at H ⊢
  cases hc : cls P x.op with
  | pure =>
    obtain ⟨v, hv, hw⟩ := (WOpV.of_qp hc).1 H
    refine (WOpV.forget hsy h1 hdx hw).mono ?_
    intro u h' hK
    exact (WOpV.of_qp hc).2 ⟨v, hv.later hsx h3 hdy, hk _ _ _ (putE_comm h2 v u e) hK⟩
  | read =>
    obtain ⟨v, hv, hw⟩ := (WOpV.of_qv hc).1 H
    have hcy : (match cls P y.op with | .eff => false | _ => true) = true := by
      simp only [okPair, hc] at hp
      cases hy : cls P y.op <;> simp_all
    refine (WOpV.forget hsy h1 hdx (hw.grown hcy)).mono ?_
    rintro u h' ⟨hK, hg⟩
    exact (WOpV.of_qv hc).2 ⟨v, hv.later hsx h3 hdy hg, hk _ _ _ (putE_comm h2 v u e) hK⟩
  | alloc => simp [okPair, hc] at hp
  | eff => simp [okPair, hc] at hp

/-- A quiet operation comes to an end. -/
theorem WOp.some {ops : Array Oper} {x : Oper} (hc : (match cls P x.op with | .pure | .read => true | _ => false) = true) {K : Env → Hs → Prop} {e : Env} {h : Hs} (H : WOp P n ops x K e h) : ∃ e' h', K e' h' := by
  unfold WOp at H
  cases hx : cls P x.op with
  | pure => obtain ⟨v, _, hw⟩ := (WOpV.of_qp hx).1 H; exact ⟨_, _, hw⟩
  | read => obtain ⟨v, _, hw⟩ := (WOpV.of_qv hx).1 H; exact ⟨_, _, hw⟩
  | alloc => simp [hx] at hc
  | eff => simp [hx] at hc

theorem getD_of {ops : Array Oper} {i : Nat} {o : Oper} (h : ops[i]? = Option.some o) : ops.getD i default = o := by
  obtain ⟨h1, h2⟩ := Array.getElem?_eq_some_iff.1 h
  simp [h1, h2]

theorem WA.take {ops : Array Oper} (hd : dstOk n ops = true) (hs : Region.noSelect ops = true) {K : Env → Hs → Prop} (hk : KInv K) {i : Nat} {oi : Oper} (hi : ops[i]? = some oi)
    (hci : (match cls P oi.op with | .pure | .read => true | _ => false) = true) :
    ∀ (f : Nat) (listed : Array Bool) (e : Env) (h : Hs) (blk : Nat → Bool),
      (∀ j oj, ops[j]? = some oj → blk j = true → listed.getD j true = false → ∃ x ∈ oj.after, Region.binds .any x = true ∧ (x.on = i ∨ (blk x.on = true ∧ listed.getD x.on true = false))) →
      (∀ j oj, ops[j]? = some oj → j ≠ i → listed.getD j true = false → blk j = false → oi.apart ops oj = true ∧ okPair P oi oj = true) →
      i ∈ Region.ready .any ops listed → WOp P n ops oi (WA P n ops K f (listed.setIfInBounds i true)) e h → WA P n ops K (f + 1) listed e h := by
  intro f
  induction f with
  | zero =>
    intro listed e h _ _ _ hr H
    refine ⟨fun h0 => (by rw [h0] at hr; cases hr), fun j hj => ?_⟩
    by_cases hji : j = i
    · subst hji; rw [getD_of hi]; exact H
    · obtain ⟨_, _, h1, _⟩ := H.some hci
      have := ready_mono hj hji
      rw [h1] at this
      cases this
  | succ f ih =>
    intro listed e h blk hblk hfree hr H
    refine ⟨fun h0 => (by rw [h0] at hr; cases hr), fun j hj => ?_⟩
    by_cases hji : j = i
    · subst hji; rw [getD_of hi]; exact H
    · obtain ⟨hjun, oj, hoj, hall⟩ := mem_ready.1 hj
      have hl : ∀ m, listed.getD m true = false → ∀ x ∈ oj.after, Region.binds .any x = true → x.on ≠ m := fun m h0 x hx hb heq => by
        have h1 := hall x hx hb
        rw [heq] at h1
        rcases Nat.lt_or_ge m listed.size with h' | h'
        · simp [h'] at h0 h1; rw [h0] at h1; cases h1
        · simp [Array.getElem?_eq_none h'] at h1
      have hnot : blk j = false := by
        cases hb : blk j with
        | false => rfl
        | true =>
          obtain ⟨x, hx, hbx, h4⟩ := hblk j oj hoj hb hjun
          rcases h4 with h4 | h4
          · exact absurd h4 (hl i (mem_ready.1 hr).1 x hx hbx)
          · exact absurd rfl (hl x.on h4.2 x hx hbx)
      obtain ⟨hap, hp⟩ := hfree j oj hoj hji hjun hnot
      rw [getD_of hoj]
      have h1 : WOp P n ops oi (WOp P n ops oj (WA P n ops K f ((listed.setIfInBounds i true).setIfInBounds j true))) e h :=
        H.mono fun e' h' hw => by have := hw.2 j (ready_mono hj hji); rwa [getD_of hoj] at this
      have h2 := swap (fun cs b => Region.noSelect_spec hs i oi cs b hi) (fun cs b => Region.noSelect_spec hs j oj cs b hoj) hap hp (dstOk.spec hd hi) (dstOk.spec hd hoj) (WA.inv hk f _) h1
      have hfree' : ∀ k ok, ops[k]? = some ok → k ≠ i → (listed.setIfInBounds j true).getD k true = false →
          blk k = false → oi.apart ops ok = true ∧ okPair P oi ok = true := fun k ok hk' hki hun hno => by
        refine hfree k ok hk' hki ?_ hno
        by_cases hjk : j = k
        · subst hjk; exact hjun
        · rw [getD_set_ne true hjk] at hun; exact hun
      have hblk' : ∀ k ok, ops[k]? = some ok → blk k = true → (listed.setIfInBounds j true).getD k true = false → ∃ x ∈ ok.after, Region.binds .any x = true ∧ (x.on = i ∨ (blk x.on = true ∧ (listed.setIfInBounds j true).getD x.on true = false)) := fun k ok hk' hkb hun => by
        have hjk : j ≠ k := fun he => by subst he; rw [hkb] at hnot; cases hnot
        rw [getD_set_ne true hjk] at hun
        obtain ⟨x, hx, hbx, h4⟩ := hblk k ok hk' hkb hun
        refine ⟨x, hx, hbx, h4.imp id fun h5 => ⟨h5.1, ?_⟩⟩
        have hjx : j ≠ x.on := fun he => by rw [← he] at h5; rw [h5.1] at hnot; cases hnot
        rw [getD_set_ne true hjx]
        exact h5.2
      refine h2.mono fun e' h' h3 => ih (listed.setIfInBounds j true) e' h' blk hblk' hfree' (ready_mono hr (Ne.symm hji)) ?_
      rw [Array.setIfInBounds_comm _ _ hji]
      exact h3

theorem freeB.spec {ops : Array Oper} {listed : Array Bool} {i : Nat} (h : freeB P ops listed i = true) : ∃ oi, ops[i]? = some oi ∧ (match cls P oi.op with | .pure | .read => true | _ => false) = true ∧
    ∃ blk : Nat → Bool, (∀ j oj, ops[j]? = some oj → blk j = true → listed.getD j true = false → ∃ x ∈ oj.after, Region.binds .any x = true ∧ (x.on = i ∨ (blk x.on = true ∧ listed.getD x.on true = false))) ∧
    ∀ j oj, ops[j]? = some oj → j ≠ i → listed.getD j true = false → blk j = false → oi.apart ops oj = true ∧ okPair P oi oj = true := by
  unfold freeB at h
  split at h
  · cases h
  · rename_i oi hoi
    rw [Bool.and_eq_true] at h
    refine ⟨oi, hoi, h.1, behind ops listed i 3, fun j oj hj hb hun => ?_, fun j oj hj hne hun hno => ?_⟩
    · rw [behind] at hb
      simp only [hj] at hb
      obtain ⟨x, hx, hb⟩ := Array.any_eq_true'.1 hb
      simp only [Bool.and_eq_true, Bool.or_eq_true, beq_iff_eq] at hb
      exact ⟨x, hx, hb.1, hb.2.imp id fun h2 => ⟨behind_more 2 h2.2, h2.1⟩⟩
    have h1 := List.all_eq_true.1 h.2 j (List.mem_range.2 (Array.getElem?_eq_some_iff.1 hj).1)
    simp only [hj, Bool.or_eq_true, beq_iff_eq, hne, false_or, hun, Bool.false_eq_true] at h1
    rcases h1 with h1 | h1
    · rw [hno] at h1; cases h1
    · simpa using h1

theorem plan_sound {ops : Array Oper} (hd : dstOk n ops = true) (hs : Region.noSelect ops = true) {K : Env → Hs → Prop} (hk : KInv K) :
    ∀ (p : Plan) (f : Nat) (listed : Array Bool) (e : Env) (h : Hs), WP P n ops K p e h →
      (planOk P ops p f false listed = true → WA P n ops K f listed e h) ∧
      (planOk P ops p f true listed = true → ∀ i ∈ alts p, ∃ g, f = g + 1 ∧ WOp P n ops (ops.getD i default) (WA P n ops K g (listed.setIfInBounds i true)) e h)
  | .done, f, listed, e, h, hw => by
    refine ⟨fun hp => ?_, fun hp => by cases f <;> simp [planOk] at hp⟩
    cases f with
    | zero => simp only [planOk, List.isEmpty_iff] at hp; exact ⟨hp, hw⟩
    | succ f => simp only [planOk, List.isEmpty_iff] at hp; exact ⟨fun _ => hw, by rw [hp]; simp⟩
  | .take i t, f, listed, e, h, hw => by
    refine ⟨fun hp => ?_, fun hp => by cases f <;> simp [planOk] at hp⟩
    cases f with
    | zero => simp [planOk] at hp
    | succ f =>
      simp only [planOk, Bool.and_eq_true] at hp
      obtain ⟨⟨h1, h2⟩, h3⟩ := hp
      obtain ⟨oi, hoi, hc, blk, hblk, hfree⟩ := freeB.spec h2
      refine WA.take hd hs hk hoi hc f listed e h blk hblk hfree (by simpa using h1) ?_
      have hw' : WOp P n ops (ops.getD i default) (WP P n ops K t) e h := hw
      rw [getD_of hoi] at hw'
      exact hw'.mono fun e' h' ht => (plan_sound hd hs hk t f _ e' h' ht).1 h3
  | .alt i t r, f, listed, e, h, hw => by
    cases f with
    | zero => exact ⟨fun hp => by simp [planOk] at hp, fun hp => by simp [planOk] at hp⟩
    | succ f =>
      have one : planOk P ops t f false (listed.setIfInBounds i true) = true → WOp P n ops (ops.getD i default) (WA P n ops K f (listed.setIfInBounds i true)) e h := fun h3 =>
        hw.1.mono fun e' h' ht => (plan_sound hd hs hk t f _ e' h' ht).1 h3
      have more : planOk P ops r (f + 1) true listed = true → ∀ j ∈ alts r, WOp P n ops (ops.getD j default) (WA P n ops K f (listed.setIfInBounds j true)) e h := fun h3 j hj => by
        obtain ⟨g, hg, hh⟩ := (plan_sound hd hs hk r (f + 1) listed e h hw.2).2 h3 j hj
        obtain rfl : f = g := by omega
        exact hh
      refine ⟨fun hp => ?_, fun hp => ?_⟩
      · simp only [planOk, Bool.and_eq_true] at hp
        obtain ⟨⟨⟨h0, h1⟩, h2⟩, h3⟩ := hp
        have hall := List.all_eq_true.1 h1
        refine ⟨fun hn => by simp [hn] at h0, fun j hj => ?_⟩
        · have := hall j hj
          simp only [List.contains_cons, Bool.or_eq_true, beq_iff_eq] at this
          rcases this with rfl | hj'
          · exact one h2
          · exact more h3 j (by simpa using hj')
      · simp only [planOk, Bool.and_eq_true] at hp
        intro j hj
        simp only [alts, List.mem_cons] at hj
        rcases hj with rfl | hj
        · exact ⟨f, rfl, one hp.1⟩
        · exact ⟨f, rfl, more hp.2 j hj⟩
  | .stop, f, listed, e, h, hw => by
    refine ⟨fun hp => by cases f <;> simp [planOk] at hp, fun _ j hj => by simp [alts] at hj⟩
end
end Go.Eng
