/- The engine, part 1: heaps as lists of blocks, what a world holds, what a frame's slots are known to hold. No condition. -/
import Derived.Below
import Derived.Orders
import Derived.Laws.World
import Derived.Laws.Rows
namespace Go.Eng

/-! ### Heaps -/
abbrev Hp := List (Nat × Obj)

/-- The world holds these blocks, each block named once. -/
structure Holds (w : World) (L : Hp) : Prop where
  nd : (L.map Prod.fst).Nodup
  rd : ∀ b o, (b, o) ∈ L → w.heap[b]? = some o

theorem Holds.perm {w : World} {L L' : Hp} (h : Holds w L) (p : L.Perm L') : Holds w L' :=
  ⟨(p.map Prod.fst).nodup_iff.1 h.nd, fun b o hm => h.rd b o (p.mem_iff.2 hm)⟩

theorem Holds.nil (w : World) : Holds w [] := ⟨by simp, fun _ _ h => by simp at h⟩

theorem Holds.right {w : World} {A B : Hp} (h : Holds w (A ++ B)) : Holds w B :=
  ⟨by have := h.nd; rw [List.map_append] at this; exact (List.nodup_append.1 this).2.1, fun b o hm => h.rd b o (List.mem_append.2 (.inr hm))⟩

theorem Holds.left {w : World} {A B : Hp} (h : Holds w (A ++ B)) : Holds w A :=
  ⟨by have := h.nd; rw [List.map_append] at this; exact (List.nodup_append.1 this).1, fun b o hm => h.rd b o (List.mem_append.2 (.inl hm))⟩

theorem Holds.lt {w : World} {L : Hp} (h : Holds w L) {b : Nat} {o : Obj} (hm : (b, o) ∈ L) : b < w.heap.size :=
  (Array.getElem?_eq_some_iff.1 (h.rd b o hm)).1

/-- What a world may become: only the heap, the count of draws. -/
structure Evo (w w' : World) : Prop where
  os : w'.os = w.os
  tape : w'.tape = w.tape
  output : w'.output = w.output
  size : w.heap.size ≤ w'.heap.size

theorem Evo.refl (w : World) : Evo w w := ⟨rfl, rfl, rfl, Nat.le_refl _⟩
theorem Evo.trans {a b c : World} (h : Evo a b) (k : Evo b c) : Evo a c :=
  ⟨k.os.trans h.os, k.tape.trans h.tape, k.output.trans h.output, Nat.le_trans h.size k.size⟩
theorem Evo.alloc (w : World) (o : Obj) : Evo w (w.alloc o) := ⟨rfl, rfl, rfl, by simp⟩
theorem Evo.setCell (w : World) (a : Addr) (v : Value) : Evo w (w.setCell a v) := ⟨rfl, rfl, rfl, by simp [World.setCell]⟩
theorem Evo.drew (w : World) : Evo w w.drew := ⟨rfl, rfl, rfl, Nat.le_refl _⟩

theorem Holds.of_heap {w w' : World} {L : Hp} (h : Holds w L) (e : w'.heap = w.heap) : Holds w' L := ⟨h.nd, fun b o hm => by rw [e]; exact h.rd b o hm⟩
theorem Holds.drew {w : World} {L : Hp} (h : Holds w L) : Holds w.drew L := h.of_heap rfl

theorem Holds.alloc {w : World} {L : Hp} (h : Holds w L) (o : Obj) : Holds (w.alloc o) ((w.heap.size, o) :: L) := by
  refine ⟨?_, ?_⟩
  · rw [List.map_cons, List.nodup_cons]
    refine ⟨fun hm => ?_, h.nd⟩
    obtain ⟨⟨b, o'⟩, hm, hb⟩ := List.mem_map.1 hm
    have := h.lt hm
    simp only at hb
    omega
  · intro b o' hm
    rcases List.mem_cons.1 hm with he | hm
    · obtain ⟨rfl, rfl⟩ := Prod.mk.inj he
      exact heap_alloc_new w _
    · rw [heap_alloc_old w o b (h.lt hm)]
      exact h.rd b o' hm

/-- One block is another one now: the others are as they were. -/
theorem Holds.set {w w' : World} {L : Hp} {b : Nat} {o o' : Obj} (h : Holds w ((b, o) :: L)) (hb : w'.heap[b]? = some o') (hk : ∀ k, k ≠ b → w'.heap[k]? = w.heap[k]?) : Holds w' ((b, o') :: L) := by
  have hn := h.nd
  rw [List.map_cons, List.nodup_cons] at hn
  refine ⟨by rw [List.map_cons, List.nodup_cons]; exact hn, ?_⟩
  intro c p hm
  rcases List.mem_cons.1 hm with he | hm
  · obtain ⟨rfl, rfl⟩ := Prod.mk.inj he
    exact hb
  · rw [hk c (fun e => hn.1 (e ▸ List.mem_map.2 ⟨_, hm, rfl⟩))]
    exact h.rd c p (List.mem_cons_of_mem _ hm)

theorem heap_setCell_same {w : World} {b off : Nat} {c : Array Value} {T : TypeId} {fr : Nat × Nat} (h : w.heap[b]? = some (.cells c T fr)) (v : Value) :
    (w.setCell ⟨b, off, none⟩ v).heap[b]? = some (.cells (c.setIfInBounds off v) T fr) := by
  have hlt := (Array.getElem?_eq_some_iff.1 h).1
  simp [World.setCell, Array.getElem?_modify, h]

theorem Holds.setCell {w : World} {L : Hp} {b off : Nat} {c : Array Value} {T : TypeId} {fr : Nat × Nat} (h : Holds w ((b, .cells c T fr) :: L)) (v : Value) :
    Holds (w.setCell ⟨b, off, none⟩ v) ((b, .cells (c.setIfInBounds off v) T fr) :: L) :=
  h.set (heap_setCell_same (h.rd b _ (List.mem_cons_self ..)) v) (fun k hk => Go.RowKit.Below.heap_setCell w ⟨b, off, none⟩ v k hk)

theorem Holds.cell {w : World} {L : Hp} (h : Holds w L) {b off : Nat} {c : Array Value} {T : TypeId} {fr : Nat × Nat} (hm : (b, .cells c T fr) ∈ L) : w.cell? ⟨b, off, none⟩ = c[off]? := by
  simp [World.cell?, h.rd b _ hm]

theorem Holds.frozen {w : World} {L : Hp} (h : Holds w L) {b off : Nat} {c : Array Value} {T : TypeId} {fr : Nat × Nat} (hm : (b, .cells c T fr) ∈ L) : w.frozen? ⟨b, off, none⟩ = (decide (fr.1 ≤ off) && decide (off < fr.2)) := by
  simp [World.frozen?, h.rd b _ hm]

/-! ### What slots are known to hold -/
abbrev Env := List (Nat × Value)
def get : Env → Nat → Option Value
  | [], _ => none
  | (k, v) :: r, t => match Nat.beq k t with
    | true => some v
    | false => get r t

structure Knows (n : Nat) (e : Env) (a : Act) : Prop where
  size : a.tmps.size = n
  at_ : ∀ t v, get e t = some v → t < n ∧ a.tmps.getD t undef = v

theorem Knows.put {n : Nat} {e : Env} {a : Act} (h : Knows n e a) {d : Nat} (hd : d < n) (v : Value) : Knows n ((d, v) :: e) (a.put (some d) v) := by
  refine ⟨by simp [Act.put, h.size], ?_⟩
  intro t u hu
  simp only [get] at hu
  by_cases he : d = t
  · subst he
    simp only [Nat.beq_refl] at hu
    obtain rfl := Option.some.inj hu
    refine ⟨hd, ?_⟩
    simp [Act.put, h.size, hd]
  · have hb : Nat.beq d t = false := by
      cases hc : Nat.beq d t with
      | true => exact absurd (Nat.eq_of_beq_eq_true hc) he
      | false => rfl
    rw [hb] at hu
    obtain ⟨h1, h2⟩ := h.at_ t u hu
    refine ⟨h1, ?_⟩
    simp only [Act.put]
    rw [← h2]
    simp [Array.getElem?_setIfInBounds_ne he]

/-- Less is known. -/
def Sub (e' e : Env) : Prop := ∀ t v, get e' t = some v → get e t = some v
theorem Knows.sub {n : Nat} {e e' : Env} {a : Act} (h : Knows n e a) (hs : Sub e' e) : Knows n e' a := ⟨h.size, fun t v ht => h.at_ t v (hs t v ht)⟩
theorem Sub.refl (e : Env) : Sub e e := fun _ _ h => h
theorem Sub.trans {a b c : Env} (h : Sub a b) (k : Sub b c) : Sub a c := fun t v ht => k t v (h t v ht)
theorem Sub.nil (e : Env) : Sub [] e := fun _ _ h => by simp [get] at h
theorem Sub.cons {e' e : Env} {t : Nat} {v : Value} (h : get e t = some v) (k : Sub e' e) : Sub ((t, v) :: e') e := by
  intro s u hu
  simp only [get] at hu
  cases hb : Nat.beq t s with
  | true =>
    rw [hb] at hu
    obtain rfl := Option.some.inj hu
    rw [← Nat.eq_of_beq_eq_true hb]
    exact h
  | false => rw [hb] at hu; exact k s u hu

/-! ### Operands -/
inductive X where
  | t (n : Nat)
  | c (v : Value)

def ev (e : Env) : X → Option Value
  | .t n => get e n
  | .c v => some v

def compX : Operand → X
  | .tmp t => .t t
  | .const v => .c v
  | .global g => .c (.pointer (some ⟨g, 0, none⟩))
  | .func f => .c (.func (.func f) #[] #[])

theorem ev_sound {n : Nat} {e : Env} {a : Act} (h : Knows n e a) {x : Operand} {v : Value} (hx : ev e (compX x) = some v) : a.eval x = v := by
  cases x with
  | tmp t => exact (h.at_ t v hx).2
  | const u => exact Option.some.inj hx
  | global g => exact Option.some.inj hx
  | func f => exact Option.some.inj hx

/-! ### The state of a walk -/
abbrev Hs := List Hp

structure St (n : Nat) (D : List Deferred) (w0 : World) (F : Hp) (e : Env) (hs : Hs) (a : Act) (w : World) : Prop where
  knows : Knows n e a
  defers : a.defers = D
  evo : Evo w0 w
  holds : ∃ X, Holds w (hs.flatten ++ (X ++ F))

/-- A chunk more or less. -/
def HSub (hs' hs : Hs) : Prop := ∃ X : Hs, hs.Perm (hs' ++ X)
theorem HSub.refl (hs : Hs) : HSub hs hs := ⟨[], by simp⟩

theorem St.sub {n : Nat} {D : List Deferred} {w0 : World} {F : Hp} {e e' : Env} {hs hs' : Hs} {a : Act} {w : World} (h : St n D w0 F e hs a w) (he : Sub e' e) (hh : HSub hs' hs) : St n D w0 F e' hs' a w := by
  obtain ⟨X, hX⟩ := h.holds
  obtain ⟨Y, hY⟩ := hh
  refine ⟨h.knows.sub he, h.defers, h.evo, Y.flatten ++ X, ?_⟩
  refine hX.perm ?_
  have := hY.flatten
  rw [List.flatten_append] at this
  simpa [List.append_assoc] using List.Perm.append_right (X ++ F) this

theorem St.put {n : Nat} {D : List Deferred} {w0 : World} {F : Hp} {e : Env} {hs : Hs} {a : Act} {w : World} (h : St n D w0 F e hs a w) {d : Nat} (hd : d < n) (v : Value) : St n D w0 F ((d, v) :: e) hs (a.put (some d) v) w :=
  ⟨h.knows.put hd v, by simpa [Act.put] using h.defers, h.evo, h.holds⟩

theorem St.perm {n : Nat} {D : List Deferred} {w0 : World} {F : Hp} {e : Env} {hs hs' : Hs} {a : Act} {w : World} (h : St n D w0 F e hs a w) (p : hs.Perm hs') : St n D w0 F e hs' a w :=
  h.sub (Sub.refl _) ⟨[], by simpa using p⟩

/-- The same slots, another world. -/
theorem St.world {n : Nat} {D : List Deferred} {w0 : World} {F : Hp} {e : Env} {hs hs' : Hs} {a : Act} {w w' : World} (h : St n D w0 F e hs a w) (he : Evo w w') (hh : ∀ X, Holds w (hs.flatten ++ (X ++ F)) → ∃ Y, Holds w' (hs'.flatten ++ (Y ++ F))) : St n D w0 F e hs' a w' := by
  obtain ⟨X, hX⟩ := h.holds
  exact ⟨h.knows, h.defers, h.evo.trans he, hh X hX⟩

end Go.Eng
