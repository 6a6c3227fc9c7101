/- The engine, part 4: code: sequences, tests, loops, exits, returns; functions' contracts. No condition. -/
import Derived.Test.YtmcopafdooejjaaDoorEc
import Derived.Tactics
import Derived.OwnWalk
namespace Go.Eng

structure Cx where
  P : Program
  n : Nat
  D : List Deferred
  w0 : World
  F : Hp
  R : Exit → Act → World → Prop

/-- What is still to do. -/
inductive It where
  | code (c : Code)
  | inB (id : Nat)
  | again (J : Env → Hs → Prop)

def KP (cx : Cx) : List It → Exit → Act → World → Prop
  | [], e, a, w => cx.R e a w
  | .code c :: k, .normal, a, w => c.wp cx.P (KP cx k) a w
  | .code _ :: k, e, a, w => KP cx k e a w
  | .inB _ :: k, .normal, a, w => KP cx k .normal a w
  | .inB i :: k, .exit j, a, w => if j = i then KP cx k .normal a w else KP cx k (.exit j) a w
  | .inB _ :: k, e, a, w => KP cx k e a w
  | .again J :: _, .normal, a, w => ∃ e h, J e h ∧ St cx.n cx.D cx.w0 cx.F e h a w
  | .again _ :: k, e, a, w => KP cx k e a w

def WT (cx : Cx) (k : List It) (e : Env) (h : Hs) : Prop := ∀ a w, St cx.n cx.D cx.w0 cx.F e h a w → KP cx k .normal a w

section
variable {cx : Cx} {k : List It} {e : Env} {h : Hs}

theorem WT.inv : KInv (WT cx k) := fun _ _ _ he hw a w st => hw a w ⟨he.symm.knows st.knows, st.defers, st.evo, st.holds⟩

theorem WT.sub {e' : Env} {h' : Hs} (hw : WT cx k e' h') (he : Sub e' e) (hh : HSub h' h) : WT cx k e h := fun a w st => hw a w (st.sub he hh)

theorem w_seq {x y : Code} (hw : WT cx (.code x :: .code y :: k) e h) : WT cx (.code (.seq x y) :: k) e h := by
  intro a w st
  refine wp_seq (wp_mono (hw a w st) ?_)
  intro ex a' w' hq
  cases ex <;> exact hq

theorem w_skip (hw : WT cx k e h) : WT cx (.code .skip :: k) e h := fun a w st => wp_skip (hw a w st)
theorem w_inB {i : Nat} (hw : WT cx k e h) : WT cx (.inB i :: k) e h := fun a w st => hw a w st
theorem w_again {J : Env → Hs → Prop} (hw : J e h) : WT cx (.again J :: k) e h := fun _ _ st => ⟨e, h, hw, st⟩

theorem w_block {i : Nat} {c : Code} (hw : WT cx (.code c :: .inB i :: k) e h) : WT cx (.code (.block i c) :: k) e h := by
  intro a w st
  refine wp_block (wp_mono (hw a w st) ?_)
  intro ex a' w' hq
  cases ex <;> exact hq

def popTo (i : Nat) : List It → Option (List It)
  | [] => none
  | .inB j :: k => match Nat.beq i j with
    | true => some k
    | false => popTo i k
  | _ :: k => popTo i k

theorem KP_exit {i : Nat} : ∀ {k k' : List It} {a : Act} {w : World}, popTo i k = some k' → KP cx k' .normal a w → KP cx k (.exit i) a w
  | [], _, _, _, hp, _ => by simp [popTo] at hp
  | .code c :: k, _, _, _, hp, hk => KP_exit (k := k) (by simpa [popTo] using hp) hk
  | .again J :: k, _, _, _, hp, hk => KP_exit (k := k) (by simpa [popTo] using hp) hk
  | .inB j :: k, k', a, w, hp, hk => by
    simp only [KP]
    by_cases hij : i = j
    · subst hij
      simp only [popTo, Nat.beq_refl, Option.some.injEq] at hp
      subst hp
      simp only [if_true]
      exact hk
    · have hb : Nat.beq i j = false := by
        cases hc : Nat.beq i j with
        | true => exact absurd (Nat.eq_of_beq_eq_true hc) hij
        | false => rfl
      simp only [popTo, hb] at hp
      rw [if_neg hij]
      exact KP_exit hp hk

theorem w_exit {i : Nat} {k' : List It} (hp : popTo i k = some k') (hw : WT cx k' e h) : WT cx (.code (.exit i) :: k) e h := fun a w st => wp_exit (KP_exit hp (hw a w st))

theorem w_if {c : Operand} {x y : Code} {b : Bool} (hc : ev e (compX c) = some (.bool b)) (ht : b = true → WT cx (.code x :: k) e h) (hf : b = false → WT cx (.code y :: k) e h) : WT cx (.code (.cond c x y) :: k) e h :=
  fun a w st => wp_cond_split (ev_sound st.knows hc) (fun hb => ht hb a w st) (fun hb => hf hb a w st)
theorem w_if_t {c : Operand} {x y : Code} (hc : ev e (compX c) = some (.bool true)) (ht : WT cx (.code x :: k) e h) : WT cx (.code (.cond c x y) :: k) e h := w_if hc (fun _ => ht) (fun hb => by cases hb)
theorem w_if_f {c : Operand} {x y : Code} (hc : ev e (compX c) = some (.bool false)) (hf : WT cx (.code y :: k) e h) : WT cx (.code (.cond c x y) :: k) e h := w_if hc (fun hb => by cases hb) (fun _ => hf)
theorem w_if_d {c : Operand} {x y : Code} {p : Prop} [hd : Decidable p] (hc : ev e (compX c) = some (.bool (decide p))) (ht : p → WT cx (.code x :: k) e h) (hf : ¬ p → WT cx (.code y :: k) e h) : WT cx (.code (.cond c x y) :: k) e h :=
  w_if hc (fun hb => ht (of_decide_eq_true hb)) (fun hb => hf (of_decide_eq_false hb))

/-- The ways meet again at J. -/
theorem w_cut {c : Code} (J : Env → Hs → Prop) (h1 : WT cx (.code c :: .again J :: k) e h) (h2 : ∀ e h, J e h → WT cx k e h) : WT cx (.code c :: k) e h := by
  intro a w st
  refine wp_mono (h1 a w st) ?_
  intro ex a' w' hq
  cases ex with
  | normal => obtain ⟨e', h', hJ, st'⟩ := hq; exact h2 e' h' hJ a' w' st'
  | exit i => exact hq
  | goto l => exact hq
  | ret => exact hq
  | panic c => exact hq
  | outgrown => exact hq

theorem w_cut_x {c : Code} {X : Type} (E : X → Env) (H : X → Hs) (p : X → Prop) (h1 : WT cx (.code c :: .again (fun e' h' => ∃ y, p y ∧ Sub (E y) e' ∧ HSub (H y) h') :: k) e h) (h2 : ∀ x, p x → WT cx k (E x) (H x)) : WT cx (.code c :: k) e h :=
  w_cut _ h1 fun _ _ ⟨x, hp, hE, hH⟩ => (h2 x hp).sub hE hH

theorem wp_loop_n {P : Program} {Q : Exit → Act → World → Prop} {c : Code} (I : Nat → Act → World → Prop) {a : Act} {w : World} (n : Nat) (h0 : I n a w)
    (round : ∀ n a w, I n a w → c.wp P (Exit.then (fun a' w' => ∃ m, m < n ∧ I m a' w') Q) a w) : (Code.loop c).wp P Q a w := by
  intro b k cs
  have key : ∀ n a w, I n a w → ∃ e a' w', Q e a' w' ∧ Arrives P (lone (b.at a (.code c :: .inLoop c :: k)) cs w) b k cs e a' w' := by
    intro n
    induction n using Nat.strongRecOn with
    | _ n ih =>
      intro a w hI
      obtain ⟨e, a₁, w₁, hq, harr⟩ := round n a w hI b (.inLoop c :: k) cs
      cases e with
      | normal =>
        obtain ⟨m, hlt, hI₁⟩ := hq
        obtain ⟨e₂, a₂, w₂, hq₂, harr₂⟩ := ih m hlt a₁ w₁ hI₁
        exact ⟨e₂, a₂, w₂, hq₂, .of_steps (Steps.trans harr (.one step_inLoop)) harr₂⟩
      | exit id => exact ⟨_, a₁, w₁, hq, .pass (x := .inLoop c) rfl (fun _ _ => .inl (by simp)) harr⟩
      | goto l => exact ⟨_, a₁, w₁, hq, .pass (x := .inLoop c) rfl (fun _ _ => .inl (by simp)) harr⟩
      | ret => exact ⟨_, a₁, w₁, hq, .pass (x := .inLoop c) rfl (fun _ _ => .inl (by simp)) harr⟩
      | panic ch => exact ⟨_, a₁, w₁, hq, .pass (x := .inLoop c) rfl (fun _ _ => .inl (by simp)) harr⟩
      | outgrown => exact ⟨_, a₁, w₁, hq, .pass (x := .inLoop c) rfl (fun _ _ => .inl (by simp)) harr⟩
  obtain ⟨e, a', w', hq, harr⟩ := key n a w h0
  exact ⟨e, a', w', hq, .of_steps (.one step_loop) harr⟩

/-- A loop: X: what a round's head is told by; E, H: the slots and the blocks there; p: what holds; μ: what each round lowers. -/
theorem w_loop {c : Code} {X : Type} (E : X → Env) (H : X → Hs) (p : X → Prop) (μ : X → Nat) (x0 : X) (hp : p x0) (hE : Sub (E x0) e) (hH : HSub (H x0) h)
    (round : ∀ x, p x → WT cx (.code c :: .again (fun e' h' => ∃ y, p y ∧ μ y < μ x ∧ Sub (E y) e' ∧ HSub (H y) h') :: k) (E x) (H x)) : WT cx (.code (.loop c) :: k) e h := by
  intro a w st
  refine wp_loop_n (fun n a w => ∃ x, p x ∧ μ x = n ∧ St cx.n cx.D cx.w0 cx.F (E x) (H x) a w) (μ x0) ⟨x0, hp, rfl, st.sub hE hH⟩ ?_
  rintro n a w ⟨x, hx, rfl, st⟩
  refine wp_mono (round x hx a w st) ?_
  intro ex a' w' hq
  cases ex with
  | normal => obtain ⟨e', h', ⟨y, hy, hlt, h1, h2⟩, st'⟩ := hq; exact ⟨μ y, hlt, y, hy, rfl, st'.sub h1 h2⟩
  | exit i => exact hq
  | goto l => exact hq
  | ret => exact hq
  | panic c => exact hq
  | outgrown => exact hq

/-! ### Regions -/
theorem w_region {id : Nat} {ops : Array Oper} (hd : dstOk cx.n ops = true) (hw : WL cx.P cx.n ops ops.toList (WT cx k) e h) : WT cx (.code (.region id ops false) :: k) e h := by
  intro a w st
  exact region_sound hd (fun e' h' a' w' hk st' => hk a' w' st') hw st

theorem WA.sound {P : Program} {n : Nat} {ops : Array Oper} (hd : dstOk n ops = true) {K : Env → Hs → Prop} {D : List Deferred} {w0 : World} {F : Hp} {Q : Exit → Act → World → Prop}
    (hn : ∀ e' h' a' w', K e' h' → St n D w0 F e' h' a' w' → Q .normal a' w') : ∀ (f : Nat) (listed : Array Bool) {e : Env} {h : Hs} {a : Act} {w : World},
    WA P n ops K f listed e h → St n D w0 F e h a w → wpAny P .any ops Q f listed a w
  | 0, _, _, _, _, _, hw, st => ⟨hw.1, hn _ _ _ _ hw.2 st⟩
  | f + 1, listed, _, _, _, _, hw, st => by
    refine ⟨fun h0 => hn _ _ _ _ (hw.1 h0) st, fun i hi => ?_⟩
    obtain ⟨_, o, ho, _⟩ := mem_ready.1 hi
    have h1 := hw.2 i hi
    rw [getD_of ho] at h1
    exact h1.sound st (dstOk.spec hd ho) ho fun e' h' a' w' hk st' => WA.sound hd hn f _ hk st'

theorem w_plan (p : Plan) {id : Nat} {ops : Array Oper} (hm : cx.P.follows .mixedOrders = true) (hok : (dstOk cx.n ops && Region.noSelect ops && planOk cx.P ops p ops.size false (Array.replicate ops.size false)) = true)
    (hw : WP cx.P cx.n ops (WT cx k) p e h) : WT cx (.code (.region id ops true) :: k) e h := by
  rw [Bool.and_eq_true, Bool.and_eq_true] at hok
  obtain ⟨⟨h1, h2⟩, h3⟩ := hok
  intro a w st
  refine wp_region_any hm ?_
  refine WA.sound h1 (fun e' h' a' w' hk st' => hk a' w' st') _ _ ((plan_sound h1 h2 WT.inv p _ _ _ _ hw).1 h3) ?_
  exact ⟨st.knows, st.defers, ⟨st.evo.os, st.evo.tape, st.evo.output, st.evo.size⟩, by obtain ⟨X, hX⟩ := st.holds; exact ⟨X, hX.of_heap rfl⟩⟩

def takes : List Nat → Plan → Plan
  | [], p => p
  | i :: l, p => .take i (takes l p)

theorem WP_takes {P : Program} {n : Nat} {ops : Array Oper} {K : Env → Hs → Prop} (p : Plan) : ∀ (l : List Nat) {e : Env} {h : Hs}, WL P n ops (l.map fun i => ops.getD i default) (WP P n ops K p) e h → WP P n ops K (takes l p) e h
  | [], _, _, hw => hw
  | _ :: l, _, _, hw => WOp.mono hw fun _ _ hw' => WP_takes p l hw'

/-- One order that serves for all. -/
theorem w_any (l : List Nat) {id : Nat} {ops : Array Oper} (hm : cx.P.follows .mixedOrders = true) (hok : (dstOk cx.n ops && Region.noSelect ops && planOk cx.P ops (takes l .done) ops.size false (Array.replicate ops.size false)) = true)
    (hw : WL cx.P cx.n ops (l.map fun i => ops.getD i default) (WT cx k) e h) : WT cx (.code (.region id ops true) :: k) e h :=
  w_plan (takes l .done) hm hok (WP_takes .done l hw)

theorem w_nil {P : Program} {n : Nat} {ops : Array Oper} (hw : WT cx k e h) : WL P n ops [] (WT cx k) e h := hw

/-! ### 'defer': the last operation of its region -/
def noAg : List It → Bool
  | [] => true
  | .again _ :: _ => false
  | _ :: k => noAg k
theorem KP_noAg (D : List Deferred) : ∀ (k : List It), noAg k = true → ∀ ex a w, KP { cx with D := D } k ex a w → KP cx k ex a w
  | [], _, _, _, _, h => h
  | .code c :: k, hk, ex, a, w, h => by
    cases ex with
    | normal => exact wp_mono (P := cx.P) (c := c) h (fun ex a w h => KP_noAg D k hk ex a w h)
    | _ => exact KP_noAg D k hk _ a w h
  | .inB i :: k, hk, ex, a, w, h => by
    cases ex with
    | exit j =>
      simp only [KP] at h ⊢
      split
      · rename_i hj; rw [if_pos hj] at h; exact KP_noAg D k hk _ a w h
      · rename_i hj; rw [if_neg hj] at h; exact KP_noAg D k hk _ a w h
    | _ => exact KP_noAg D k hk _ a w h
  | .again _ :: _, hk, _, _, _, _ => by cases hk

theorem w_defer {id : Nat} {ops : Array Oper} {pre : List Oper} {c : Call} {ty : TypeId} {pos : String} {af : Array Edge} (hd : dstOk cx.n ops = true) (hk : noAg k = true) (hops : ops.toList = pre ++ [⟨none, .defer c, ty, pos, af, none⟩])
    (hw : WL cx.P cx.n ops pre (fun e h => ∃ d, (∀ a w, Knows cx.n e a → (resolve a.eval c ty).run cx.P w = .ok d w) ∧ WT { cx with D := d :: cx.D } k e h) e h) : WT cx (.code (.region id ops false) :: k) e h := by
  intro a w st
  refine wp_region ?_
  have hsz : ops.size = pre.length + 1 := by have := congrArg List.length hops; simpa using this
  have hr : List.range ops.size = List.range pre.length ++ [pre.length] := by rw [hsz, List.range_succ]
  have hlast : ops[pre.length]? = some ⟨none, .defer c, ty, pos, af, none⟩ := by rw [← Array.getElem?_toList, hops]; simp
  have hpre : ∀ i ∈ List.range pre.length, ops[i]? = some (pre.getD i default) := fun i hi => by
    rw [List.mem_range] at hi
    rw [← Array.getElem?_toList, hops, List.getElem?_append_left hi]
    simp [hi]
  have hmap : (List.range pre.length).map (fun i => pre.getD i default) = pre := by
    apply List.ext_getElem?
    intro i
    simp only [List.getElem?_map]
    by_cases hi : i < pre.length
    · simp [hi]
    · simp [List.getElem?_eq_none (show (List.range pre.length).length ≤ i by simp; omega), List.getElem?_eq_none (show pre.length ≤ i by omega)]
  rw [hr]
  have app : ∀ (l : List Nat) (a : Act) (w : World), wpOps cx.P ops (fun ex a w => match ex with | .normal => wpOps cx.P ops (KP cx k) [pre.length] a w | ex => KP cx k ex a w) l a w → wpOps cx.P ops (KP cx k) (l ++ [pre.length]) a w := by
    intro l
    induction l with
    | nil => exact fun a w h => h
    | cons i l ih =>
      intro a w h
      rw [List.cons_append, wpOps_cons]
      rw [wpOps_cons] at h
      unfold wpOp at h ⊢
      cases hi : ops[i]? with
      | none => simp only [hi] at h ⊢; exact ih _ _ h
      | some o =>
        simp only [hi] at h ⊢
        split
        · rename_i hwt
          simp only [hwt, if_true] at h
          rcases h with h | ⟨h1, a0, w1, h2⟩
          · refine .inl ?_
            have h' := Oper.wp_mono (K' := wpOps cx.P ops (KP cx k) (l ++ [pre.length])) (fun a w => ih a w) h
            unfold Oper.wp at h' ⊢
            generalize (execOp a.eval o).run cx.P w = r at h'
            cases r with
            | ok x w' =>
              cases x <;> simp only [Oper.upon] at h' ⊢ <;> first | exact h' | exact h'.mono (fun e w'' he => by cases e <;> first | exact he | (obtain ⟨a1, w3, h3⟩ := he; exact ⟨a1, w3, h3⟩))
            | halt x w' => cases x <;> simp only [Oper.upon] at h' ⊢; exact h'
          · exact .inr ⟨h1, a0, w1, h2⟩
        · rename_i hwt
          simp only [hwt] at h
          exact ih _ _ h
  refine app _ a w ?_
  refine WL.sound (K := _) hd ?_ (List.range pre.length) (fun i => pre.getD i default) hpre (by rw [hmap]; exact hw) st
  rintro e' h' a' w' ⟨d, h1, h2⟩ st'
  rw [wpOps_cons]
  unfold wpOp
  simp only [hlast, Region.wanted, if_true]
  refine .inl ?_
  unfold Oper.wp
  have hrun : (execOp a'.eval ⟨none, .defer c, ty, pos, af, none⟩).run cx.P w' = .ok (.defer d) w' := by
    have := h1 a' w' st'.knows
    simp [execOp, this]
  rw [hrun]
  refine KP_noAg (d :: cx.D) k hk _ _ _ (h2 _ w' ?_)
  exact ⟨⟨st'.knows.size, st'.knows.at_⟩, by simp [Act.put, st'.defers], st'.evo, st'.holds⟩

end

/-! ### Contracts -/
/-- Called with these arguments, where these blocks are, it returns; what is not named stays as it is. -/
def Ctr (P : Program) (f : FuncId) (args : List Value) (hin : Hs) (post : Value → Hs → Prop) : Prop :=
  ∀ L w, Holds w (hin.flatten ++ L) → Calls P f args.toArray w fun e w' => ∃ v hout, e = .returned v ∧ post v hout ∧ Evo w w' ∧ ∃ X, Holds w' (hout.flatten ++ (X ++ L))

theorem Ctr.mono {P : Program} {f : FuncId} {args : List Value} {hin : Hs} {post post' : Value → Hs → Prop} (h : Ctr P f args hin post) (hp : ∀ v ho, post v ho → post' v ho) : Ctr P f args hin post' :=
  fun L w hh => (h L w hh).mono fun _ _ ⟨v, ho, h1, h2, h3⟩ => ⟨v, ho, h1, hp _ _ h2, h3⟩

/-- Blocks that it does not look at. -/
theorem Ctr.frame {P : Program} {f : FuncId} {args : List Value} {hin : Hs} {post : Value → Hs → Prop} (h : Ctr P f args hin post) (hr : Hs) : Ctr P f args (hin ++ hr) fun v ho => ∃ ho', ho = ho' ++ hr ∧ post v ho' := by
  intro L w hh
  rw [List.flatten_append, List.append_assoc] at hh
  refine (h _ w hh).mono ?_
  rintro e w' ⟨v, ho, h1, h2, h3, X, h4⟩
  refine ⟨v, ho ++ hr, h1, ⟨ho, rfl, h2⟩, h3, X, ?_⟩
  rw [List.flatten_append, List.append_assoc]
  refine h4.perm (List.Perm.append_left _ ?_)
  exact List.perm_append_comm_assoc ..

theorem Ctr.perm {P : Program} {f : FuncId} {args : List Value} {hin hin' : Hs} {post : Value → Hs → Prop} (h : Ctr P f args hin post) (p : hin'.Perm hin) : Ctr P f args hin' post :=
  fun L w hh => h L w (hh.perm (List.Perm.append_right _ p.flatten))

/-- What a function's end hands back, out of the slots that are known. -/
inductive RetOk (P : Program) (fn : Func) (e : Env) (h : Hs) (v : Value) : Prop where
  | mk (hr : ∀ a w L, Knows fn.ntmps e a → Holds w (h.flatten ++ L) → (results fn a.tmps).run P w = .ok v w)

theorem getD_of_get {n : Nat} {e : Env} {a : Act} (hk : Knows n e a) {t : Nat} {v : Value} (h : get e t = some v) : a.tmps.getD t undef = v := (hk.at_ t v h).2

theorem ret0 {P : Program} {fn : Func} {e : Env} {h : Hs} (hr : fn.results = #[]) : RetOk P fn e h (.tuple #[]) := ⟨fun _ _ _ _ _ => results_none hr _ _ _⟩
theorem ret1 {P : Program} {fn : Func} {e : Env} {h : Hs} {t : Tmp} (hr : fn.results = #[.tmp t]) {v : Value} (hv : get e t = some v) : RetOk P fn e h v :=
  ⟨fun a w L hk _ => by rw [results_tmp hr, getD_of_get hk hv]⟩
theorem ret2 {P : Program} {fn : Func} {e : Env} {h : Hs} {t u : Tmp} (hr : fn.results = #[.tmp t, .tmp u]) {v x : Value} (hv : get e t = some v) (hx : get e u = some x) : RetOk P fn e h (.tuple #[v, x]) :=
  ⟨fun a w L hk _ => by rw [results_tmp2 hr, getD_of_get hk hv, getD_of_get hk hx]⟩
theorem ret3 {P : Program} {fn : Func} {e : Env} {h : Hs} {t u s : Tmp} (hr : fn.results = #[.tmp t, .tmp u, .tmp s]) {v x y : Value} (hv : get e t = some v) (hx : get e u = some x) (hy : get e s = some y) : RetOk P fn e h (.tuple #[v, x, y]) :=
  ⟨fun a w L hk _ => by rw [results_tmp3 hr, getD_of_get hk hv, getD_of_get hk hx, getD_of_get hk hy]⟩

def specR (P : Program) (fn : Func) (L : Hp) (w0 : World) (post : Value → Hs → Prop) : Exit → Act → World → Prop :=
  bodyPost P fn fun e w' => ∃ v hout, e = .returned v ∧ post v hout ∧ Evo w0 w' ∧ ∃ X, Holds w' (hout.flatten ++ (X ++ L))

theorem KP_ret {cx : Cx} {a : Act} {w : World} : ∀ {k : List It}, cx.R .ret a w → KP cx k .ret a w
  | [], h => h
  | .code _ :: k, h => KP_ret (k := k) h
  | .inB _ :: k, h => KP_ret (k := k) h
  | .again _ :: k, h => KP_ret (k := k) h

section
variable {P : Program} {fn : Func} {L : Hp} {w0 : World} {post : Value → Hs → Prop} {k : List It} {e : Env} {h : Hs}

theorem end_sound {v : Value} (hr : RetOk P fn e h v) {hout : Hs} (hp : post v hout) (hh : HSub hout h) {a : Act} {w : World} (st : St fn.ntmps [] w0 L e h a w) : ∃ v, (results fn a.tmps).run P w = .ok v w ∧ (∃ v' hout, Ending.returned v = .returned v' ∧ post v' hout ∧ Evo w0 w ∧ ∃ X, Holds w (hout.flatten ++ (X ++ L))) := by
  obtain ⟨X, hX⟩ := st.holds
  obtain ⟨Y, hY⟩ := (st.sub (Sub.refl _) hh).holds
  exact ⟨v, hr.1 a w _ st.knows hX, v, hout, rfl, hp, st.evo, Y, hY⟩

/-- 'return': the results are read. -/
theorem w_ret {v : Value} (hr : RetOk P fn e h v) {hout : Hs} (hp : post v hout) (hh : HSub hout h) : WT ⟨P, fn.ntmps, [], w0, L, specR P fn L w0 post⟩ (.code .ret :: k) e h :=
  fun _ _ st => wp_ret (KP_ret ⟨st.defers, end_sound hr hp hh st⟩)
/-- The body's end. -/
theorem w_end {v : Value} (hr : RetOk P fn e h v) {hout : Hs} (hp : post v hout) (hh : HSub hout h) : WT ⟨P, fn.ntmps, [], w0, L, specR P fn L w0 post⟩ [] e h :=
  fun _ _ st => ⟨st.defers, end_sound hr hp hh st⟩
end

def env0 : Nat → List Value → Env
  | _, [] => []
  | i, v :: r => (i, v) :: env0 (i + 1) r

theorem get_env0 : ∀ (l : List Value) (i t : Nat) (v : Value), get (env0 i l) t = some v → i ≤ t ∧ l[t - i]? = some v
  | [], _, _, _, h => by simp [env0, get] at h
  | u :: r, i, t, v, h => by
    by_cases he : i = t
    · subst he
      simp only [env0, get_cons_same, Option.some.injEq] at h
      subst h
      exact ⟨Nat.le_refl _, by simp⟩
    · rw [env0, get_cons_ne he] at h
      obtain ⟨h1, h2⟩ := get_env0 r (i + 1) t v h
      refine ⟨by omega, ?_⟩
      obtain ⟨m, hm⟩ : ∃ m, t - i = m + 1 := ⟨t - i - 1, by omega⟩
      rw [hm, List.getElem?_cons_succ, ← h2, show t - (i + 1) = m by omega]

/-- A contract by walking through the body. -/
theorem spec_of {P : Program} {f : FuncId} {fn : Func} {c : Code} {args : List Value} {hin : Hs} {post : Value → Hs → Prop} (hf : P.funcs[f]? = some fn) (hb : fn.body = some c) (hn : Nat.ble args.length fn.ntmps = true)
    (hw : ∀ w0 L, WT ⟨P, fn.ntmps, [], w0, L, specR P fn L w0 post⟩ [.code c] (env0 0 args) hin) : Ctr P f args hin post := by
  have hn := Nat.le_of_ble_eq_true hn
  intro L w hh
  refine calls_of_wp hf hb ?_
  refine hw w L _ w ⟨⟨by simp; omega, ?_⟩, rfl, Evo.refl w, [], by simpa using hh⟩
  intro t v ht
  obtain ⟨_, h2⟩ := get_env0 args 0 t v ht
  obtain ⟨h3, h4⟩ := List.getElem?_eq_some_iff.1 h2
  simp only [Nat.sub_zero] at h3 h4
  refine ⟨show t < fn.ntmps by omega, ?_⟩
  have : t < (args.toArray ++ Array.replicate (fn.ntmps - args.toArray.size) undef).size := by simp; omega
  simp only [Array.getD_eq_getD_getElem?]
  rw [Array.getElem?_append_left (by simpa using h3)]
  simp [h3, h4]

end Go.Eng
