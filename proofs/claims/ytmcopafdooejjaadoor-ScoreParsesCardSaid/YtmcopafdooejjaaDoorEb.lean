/- The engine, part 2: what an operation does, said of what slots are known to hold and of the blocks at hand; regions in the text's order and in any order. No condition. -/
import Derived.Test.YtmcopafdooejjaaDoorEa
namespace Go.Eng

inductive Cls where
  | pure | read | alloc | eff

def cls (P : Program) : Op → Cls
  | .move _ | .assign _ | .pick .. | .build .. | .nilCheck _ | .binOp .. | .unOp .. | .makeInterface .. | .makeFunc .. | .slice .. | .fieldAddr .. | .field .. | .indexAddr .. | .index .. | .extract .. => .pure
  | .convert _ dst _ => match P.underlying dst with
    | some (.int _) => .pure
    | some .string => .read
    | _ => .eff
  | .load .. | .lookup .. => .read
  | .alloc _ | .box .. | .buildSlice .. | .makeMap .. | .makeSlice .. => .alloc
  | .call { callee := .builtin .len, .. } | .call { callee := .builtin .cap, .. } | .call { callee := .builtin .min, .. } | .call { callee := .builtin .max, .. } => .pure
  | _ => .eff

/-- What an operation comes to: the value that its slot gets, and the world. -/
def uponV (P : Program) (G : Value → World → Prop) : Result Next → Prop
  | .ok (.value v) w => G v w
  | .ok .skip w => G undef w
  | .ok (.enter f args) w => Calls P f args w fun
    | .returned v, w' => G v w'
    | _, _ => False
  | .ok (.row row args) w => Rows P row args w G
  | _ => False

theorem uponV.mono {P : Program} {G G' : Value → World → Prop} {r : Result Next} (h : uponV P G r) (hg : ∀ v w, G v w → G' v w) : uponV P G' r := by
  cases r with
  | ok n w =>
    cases n <;> simp only [uponV] at h ⊢
    case value v => exact hg _ _ h
    case skip => exact hg _ _ h
    case enter f args => exact h.mono fun e w' he => by cases e <;> first | exact hg _ _ he | exact he
    case row row args => exact Rows.mono h hg
  | halt x w => exact h.elim

theorem uponV.upon {P : Program} {G : Value → World → Prop} {r : Result Next} {o : Oper} {a : Act} {next : Act → World → Prop} {Q : Exit → Act → World → Prop}
    (h : uponV P G r) (hg : ∀ v w, G v w → next (a.put o.dst v) w) : o.upon P a next Q r := by
  cases r with
  | ok n w =>
    cases n <;> simp only [uponV, Oper.upon] at h ⊢
    case value v => exact hg _ _ h
    case skip => exact hg _ _ h
    case enter f args => exact h.mono fun e w' he => by cases e <;> first | exact hg _ _ he | exact he.elim
    case row row args => exact Rows.mono h hg
  | halt x w => exact h.elim

section
variable (P : Program) (n : Nat)

def PureAt (o : Oper) (e : Env) (v : Value) : Prop := ∀ a, Knows n e a → ∀ w, (execOp a.eval o).run P w = .ok (.value v) w
def ReadAt (o : Oper) (e : Env) (h : Hs) (v : Value) : Prop := ∀ a w L, Knows n e a → Holds w (h.flatten ++ L) → (execOp a.eval o).run P w = .ok (.value v) w
def AllocAt (o : Oper) (e : Env) (ob : Obj) (f : Nat → Value) : Prop := ∀ a, Knows n e a → ∀ w, (execOp a.eval o).run P w = .ok (.value (f w.heap.size)) (w.alloc ob)
def EffAt (o : Oper) (e : Env) (h : Hs) (K : Value → Hs → Prop) : Prop := ∀ a w L, Knows n e a → Holds w (h.flatten ++ L) →
  uponV P (fun v w' => ∃ h', K v h' ∧ Evo w w' ∧ ∃ X, Holds w' (h'.flatten ++ (X ++ L))) ((execOp a.eval o).run P w)

def WAct (o : Oper) (e : Env) (h : Hs) (K : Value → Hs → Prop) : Prop :=
  match cls P o.op with
  | .pure => ∃ v, PureAt P n o e v ∧ K v h
  | .read => ∃ v, ReadAt P n o e h v ∧ K v h
  | .alloc => ∃ ob f, AllocAt P n o e ob f ∧ ∀ b, K (f b) ([(b, ob)] :: h)
  | .eff => EffAt P n o e h K

def boolOf : Value → Option Bool
  | .bool b => some b
  | _ => none
def gdst (ops : Array Oper) (j : Nat) : Option Tmp := (ops[j]?).bind (·.dst)
def putE (d : Option Tmp) (v : Value) (e : Env) : Env := match d with
  | some d => (d, v) :: e
  | none => e

def WOpV (ops : Array Oper) (o : Oper) (e : Env) (h : Hs) (K : Value → Hs → Prop) : Prop :=
  match o.guard with
  | none => WAct P n o e h K
  | some (j, want) => ∃ d y, gdst ops j = some d ∧ get e d = some y ∧ (boolOf y = some want → WAct P n o e h K) ∧ (boolOf y ≠ some want → K undef h)

def WOp (ops : Array Oper) (o : Oper) (K : Env → Hs → Prop) (e : Env) (h : Hs) : Prop := WOpV P n ops o e h fun v h' => K (putE o.dst v e) h'

/-- A list of operations, one behind the other. -/
def WL (ops : Array Oper) : List Oper → (Env → Hs → Prop) → Env → Hs → Prop
  | [], K => K
  | o :: r, K => WOp P n ops o (WL ops r K)

end

section
variable {P : Program} {n : Nat}

theorem WAct.mono {o : Oper} {e : Env} {h : Hs} {K K' : Value → Hs → Prop} (hw : WAct P n o e h K) (hk : ∀ v h, K v h → K' v h) : WAct P n o e h K' := by
  unfold WAct at *
  split at hw
  · obtain ⟨v, h1, h2⟩ := hw; exact ⟨v, h1, hk _ _ h2⟩
  · obtain ⟨v, h1, h2⟩ := hw; exact ⟨v, h1, hk _ _ h2⟩
  · obtain ⟨ob, f, h1, h2⟩ := hw; exact ⟨ob, f, h1, fun b => hk _ _ (h2 b)⟩
  · exact fun a w L hk' hh => (hw a w L hk' hh).mono fun v w' ⟨h', h1, h2⟩ => ⟨h', hk _ _ h1, h2⟩

theorem WOpV.mono {ops : Array Oper} {o : Oper} {e : Env} {h : Hs} {K K' : Value → Hs → Prop} (hw : WOpV P n ops o e h K) (hk : ∀ v h, K v h → K' v h) : WOpV P n ops o e h K' := by
  unfold WOpV at *
  split at hw
  · exact hw.mono hk
  · obtain ⟨d, b, h1, h2, h3, h4⟩ := hw
    exact ⟨d, b, h1, h2, fun hb => (h3 hb).mono hk, fun hb => hk _ _ (h4 hb)⟩

theorem WOp.mono {ops : Array Oper} {o : Oper} {e : Env} {h : Hs} {K K' : Env → Hs → Prop} (hw : WOp P n ops o K e h) (hk : ∀ e h, K e h → K' e h) : WOp P n ops o K' e h :=
  WOpV.mono hw fun _ _ => hk _ _

theorem WL.mono {ops : Array Oper} {K K' : Env → Hs → Prop} (hk : ∀ e h, K e h → K' e h) : ∀ (l : List Oper) {e : Env} {h : Hs}, WL P n ops l K e h → WL P n ops l K' e h
  | [], _, _, hw => hk _ _ hw
  | _ :: r, _, _, hw => WOp.mono (K := WL P n ops r K) hw fun _ _ => WL.mono hk r

theorem WAct.sound {o : Oper} {e : Env} {h : Hs} {K : Value → Hs → Prop} (hw : WAct P n o e h K) {D : List Deferred} {w0 : World} {F : Hp} {a : Act} {w : World} (st : St n D w0 F e h a w) :
    uponV P (fun v w' => ∃ h', K v h' ∧ St n D w0 F e h' a w') ((execOp a.eval o).run P w) := by
  obtain ⟨X, hX⟩ := st.holds
  unfold WAct at hw
  split at hw
  · obtain ⟨v, h1, h2⟩ := hw
    rw [h1 a st.knows w]
    exact ⟨h, h2, st⟩
  · obtain ⟨v, h1, h2⟩ := hw
    rw [h1 a w _ st.knows hX]
    exact ⟨h, h2, st⟩
  · obtain ⟨ob, f, h1, h2⟩ := hw
    rw [h1 a st.knows w]
    exact ⟨_, h2 _, st.world (Evo.alloc w ob) fun Y hY => ⟨Y, by simpa using hY.alloc ob⟩⟩
  · refine (hw a w _ st.knows hX).mono ?_
    rintro v w' ⟨h', h1, h2, Y, h3⟩
    exact ⟨h', h1, ⟨st.knows, st.defers, st.evo.trans h2, Y ++ X, by simpa [List.append_assoc] using h3⟩⟩

theorem St.putE {D : List Deferred} {w0 : World} {F : Hp} {e : Env} {h : Hs} {a : Act} {w : World} (st : St n D w0 F e h a w) {d : Option Tmp} (hd : ∀ t, d = some t → t < n) (v : Value) : St n D w0 F (putE d v e) h (a.put d v) w := by
  cases d with
  | none => exact st
  | some d => exact st.put (hd d rfl) v

theorem yielded_of_get {ops : Array Oper} {e : Env} {a : Act} (hk : Knows n e a) {j d : Nat} {y : Value} (hd : gdst ops j = some d) (hb : get e d = some y) : yielded ops a.tmps j = boolOf y := by
  unfold gdst at hd
  obtain ⟨h1, h2⟩ := hk.at_ d _ hb
  have h3 : a.tmps[d]? = some y := by
    have hlt : d < a.tmps.size := by rw [hk.size]; exact h1
    simp [hlt] at h2 ⊢
    exact h2
  unfold yielded
  rw [hd]
  simp only [Option.bind_some, h3]
  cases y <;> rfl

theorem WOp.sound {ops : Array Oper} {o : Oper} {e : Env} {h : Hs} {K : Env → Hs → Prop} (hw : WOp P n ops o K e h) {D : List Deferred} {w0 : World} {F : Hp} {a : Act} {w : World} (st : St n D w0 F e h a w)
    (hd : ∀ t, o.dst = some t → t < n) {i : Nat} (hi : ops[i]? = some o) {Q : Exit → Act → World → Prop} {next : Act → World → Prop}
    (hn : ∀ e' h' a' w', K e' h' → St n D w0 F e' h' a' w' → next a' w') : wpOp P ops Q i next a w := by
  unfold wpOp
  simp only [hi]
  have act : WAct P n o e h (fun v h' => K (putE o.dst v e) h') → o.wp P a w next Q := fun hw =>
    (hw.sound st).upon fun v w' ⟨h', h1, h2⟩ => hn _ _ _ _ h1 (h2.putE hd v)
  unfold WOp WOpV at hw
  split at hw
  · rename_i hg
    simp only [Region.wanted, hg, if_true]
    exact .inl (act hw)
  · rename_i j want hg
    obtain ⟨d, b, h1, h2, h3, h4⟩ := hw
    have hy := yielded_of_get st.knows h1 h2
    simp only [Region.wanted, hg, hy]
    by_cases hb : boolOf b = some want
    · simp only [hb, beq_self_eq_true, if_true]
      exact .inl (act (h3 hb))
    · have : (boolOf b == some want) = false := by simpa using hb
      simp only [this, Bool.false_eq_true, if_false]
      exact hn _ _ _ _ (h4 hb) (st.putE hd undef)

def dstL (n : Nat) : List Oper → Bool
  | [] => true
  | o :: r => (match o.dst with
    | some d => Nat.blt d n
    | none => true) && dstL n r
def dstOk (n : Nat) (ops : Array Oper) : Bool := dstL n ops.toList
theorem dstL.spec {n : Nat} (l : List Oper) : dstL n l = true → ∀ o ∈ l, ∀ t, o.dst = some t → t < n := by
  induction l with
  | nil => intro _ o ho; cases ho
  | cons x r ih =>
    intro h o ho t ht
    unfold dstL at h
    rw [Bool.and_eq_true] at h
    rcases List.mem_cons.1 ho with rfl | ho
    · rw [ht] at h; exact (by simpa using h.1)
    · exact ih h.2 o ho t ht

theorem dstOk.spec {ops : Array Oper} (h : dstOk n ops = true) {i : Nat} {o : Oper} (hi : ops[i]? = some o) : ∀ t, o.dst = some t → t < n := by
  exact dstL.spec _ h o (Array.mem_toList_iff.2 (Array.mem_of_getElem? hi))

theorem WL.sound {ops : Array Oper} (hd : dstOk n ops = true) {K : Env → Hs → Prop} {D : List Deferred} {w0 : World} {F : Hp} {Q : Exit → Act → World → Prop}
    (hn : ∀ e' h' a' w', K e' h' → St n D w0 F e' h' a' w' → Q .normal a' w') : ∀ (l : List Nat) (f : Nat → Oper), (∀ i ∈ l, ops[i]? = some (f i)) → ∀ {e : Env} {h : Hs} {a : Act} {w : World},
    WL P n ops (l.map f) K e h → St n D w0 F e h a w → wpOps P ops Q l a w
  | [], _, _, _, _, _, _, hw, st => hn _ _ _ _ hw st
  | i :: r, f, hf, _, _, _, _, hw, st => by
    rw [wpOps_cons]
    refine WOp.sound (K := WL P n ops (r.map f) K) hw st (dstOk.spec hd (hf i (List.mem_cons_self ..))) (hf i (List.mem_cons_self ..)) ?_
    exact fun e' h' a' w' hk st' => WL.sound hd hn r f (fun j hj => hf j (List.mem_cons_of_mem _ hj)) hk st'

theorem region_sound {ops : Array Oper} (hd : dstOk n ops = true) {K : Env → Hs → Prop} {D : List Deferred} {w0 : World} {F : Hp} {Q : Exit → Act → World → Prop} {id : Nat}
    (hn : ∀ e' h' a' w', K e' h' → St n D w0 F e' h' a' w' → Q .normal a' w') {e : Env} {h : Hs} {a : Act} {w : World}
    (hw : WL P n ops ops.toList K e h) (st : St n D w0 F e h a w) : (Code.region id ops false).wp P Q a w := by
  refine wp_region ?_
  refine WL.sound hd hn (List.range ops.size) (fun i => ops.getD i default) (fun i hi => ?_) ?_ st
  · rw [List.mem_range] at hi
    simp [hi]
  · have : (List.range ops.size).map (fun i => ops.getD i default) = ops.toList := by
      apply List.ext_getElem?
      intro i
      simp only [List.getElem?_map]
      by_cases hi : i < ops.size
      · simp [hi]
      · simp [List.getElem?_eq_none (show (List.range ops.size).length ≤ i by simp; omega), List.getElem?_eq_none (show ops.toList.length ≤ i by simp; omega)]
    rw [this]
    exact hw
end
end Go.Eng
