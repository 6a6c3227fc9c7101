/- The engine, part 7: append; calls of functions without a body (atomic cells, marks of the race detector); deferred calls. No condition. -/
import Derived.Test.YtmcopafdooejjaaDoorEf
import Derived.Defers
namespace Go.Eng
set_option linter.unusedSimpArgs false
set_option linter.unusedVariables false

theorem Own.row {H : Hp} {v : Value} {el : TypeId} {sz n : Nat} {cs : List Value} (h : Own H v el sz n cs) {w : World} {L : Hp} (hh : Holds w (H ++ L)) : w.ownsRow 0 el sz v n cs := by
  obtain ⟨h0, h⟩ := h
  refine ⟨h0, ?_⟩
  rcases h with ⟨rfl, rfl, rfl⟩ | ⟨b, cap, cur, rfl, rfl, h1, h2, h3, h4⟩
  · exact .inl ⟨rfl, rfl⟩
  · exact .inr ⟨b, cap, cur, rfl, Nat.zero_le _, hh.rd b _ (by simp), h1, h2, h3, h4⟩

/-- What was owned and has grown is owned. -/
theorem own_grown {H L : Hp} {w w' : World} {v v' : Value} {el : TypeId} {sz n n' : Nat} {cs cs' : List Value} (h : Own H v el sz n cs) (hh : Holds w (H ++ L)) (h' : w'.ownsRow 0 el sz v' n' cs') (hg : w.grownBy w' v.ownBlock)
    (hn : v' = .slice none 0 0 → v = .slice none 0 0) (hat : v'.ownBlock = v.ownBlock ∨ v'.ownBlock = some w.heap.size) : ∃ H', Own H' v' el sz n' cs' ∧ Evo w w' ∧ ∃ X, Holds w' (H' ++ (X ++ L)) := by
  have hev : Evo w w' := ⟨hg.os, hg.tape, hg.output, hg.size⟩
  have hL : ∀ b o, (b, o) ∈ L → w'.heap[b]? = some o := by
    intro b o hm
    rw [hg.block b (hh.lt (List.mem_append.2 (.inr hm))) ?_]
    · exact hh.rd b o (List.mem_append.2 (.inr hm))
    · intro hb
      rcases h.2 with ⟨rfl, _, _⟩ | ⟨b', cap, cur, rfl, rfl, _⟩
      · cases hb
      · injection hb with hb
        have := hh.nd
        simp only [List.cons_append, List.nil_append, List.map_cons, List.nodup_cons] at this
        simp only at hb
        subst hb
        exact this.1 (List.mem_map.2 ⟨(b, o), hm, rfl⟩)
  have hnd : (L.map Prod.fst).Nodup := hh.right.nd
  obtain ⟨h0, h'⟩ := h'
  rcases h' with ⟨rfl, rfl⟩ | ⟨g, cap, cur, rfl, _, k1, k2, k3, k4, k5⟩
  · exact ⟨[], ⟨h0, .inl ⟨rfl, rfl, rfl⟩⟩, hev, [], ⟨hnd, hL⟩⟩
  · refine ⟨[(g, .cells cur el (0, 0))], ⟨h0, .inr ⟨g, cap, cur, rfl, rfl, k2, k3, k4, k5⟩⟩, hev, [], ?_, ?_⟩
    · simp only [List.nil_append, List.cons_append, List.map_cons, List.nodup_cons]
      refine ⟨fun hm => ?_, hnd⟩
      obtain ⟨⟨b, o⟩, hmL, hb⟩ := List.mem_map.1 hm
      simp only at hb
      subst hb
      rcases hat with hat | hat
      · rcases h.2 with ⟨rfl, _, _⟩ | ⟨b', cap', cur', rfl, rfl, _⟩
        · cases hat
        · injection hat with hat
          simp only at hat
          have := hh.nd
          simp only [List.cons_append, List.nil_append, List.map_cons, List.nodup_cons] at this
          subst hat
          exact this.1 (List.mem_map.2 ⟨(b, o), hmL, rfl⟩)
      · injection hat with hat
        simp only at hat
        have := hh.lt (List.mem_append.2 (.inr hmL))
        omega
    · intro b o hm
      simp only [List.nil_append, List.cons_append, List.mem_cons] at hm
      rcases hm with he | hm
      · obtain ⟨rfl, rfl⟩ := Prod.mk.inj he
        exact k1
      · exact hL b o hm

section
variable {P : Program} {n : Nat} {ops : Array Oper} {r : List Oper} {K : Env → Hs → Prop} {e : Env} {h : Hs} {d : Tmp} {ty : TypeId} {pos : String} {af : Array Edge}

/-- append(a, b...): onto what is owned. -/
theorem o_app {x y : Operand} {t el sz by' m0 m : Nat} {z v v2 : Value} {cs news : List Value} {A H : Hp} {R : Hs} (hs : slcB P t = some (el, sz)) (hz : zerB P el = some (z, sz, by')) (hzs : (z.cells.size == sz && Nat.blt 0 sz) = true) (hx : ev e (compX x) = some v) (hy : ev e (compX y) = some v2)
    (ho : Own H v el sz m0 cs) (tk : Pick H h R) (hr : Rd A v2 sz m news) (hA : Has A R) (h1 : ∀ u ∈ news, u.oneCell' = true) (h63 : m0 + m ≤ maxLen) (hb : (m0 + m) * by' ≤ 140737488355328)
    (k : ∀ v' H', Own H' v' el sz (m0 + m) (cs ++ news) → (v' = .slice none 0 0 ↔ v = .slice none 0 0 ∧ m = 0) → WL P n ops r K ((d, v') :: e) (H' :: R)) : WL P n ops (⟨some d, .call { callee := .builtin .append, args := #[x, y], argTypes := #[t, t] }, ty, pos, af, none⟩ :: r) K e h := by
  refine o_eff rfl (fun a w L ha hh => ?_)
  obtain ⟨i, hi, hq, rfl, rfl⟩ := zerB_spec hz
  obtain ⟨hu, _, _, _⟩ := slcB_spec hs
  simp only [Bool.and_eq_true, beq_iff_eq] at hzs
  have hpos : 0 < i.size := by have := hzs.2; simpa [Nat.blt_eq] using this
  have hhH : Holds w (H ++ (R.flatten ++ L)) := by
    have := hh.perm (List.Perm.append_right L tk.perm.flatten)
    simpa using this
  have hrow := ho.row hhH
  have hcall : ∀ {v' : Value} {w' : World}, (Builtin.append_ #[t, t] ty #[v, v2]).run P w = .ok v' w' → (execOp a.eval ⟨some d, .call { callee := .builtin .append, args := #[x, y], argTypes := #[t, t] }, ty, pos, af, none⟩).run P w = .ok (.value v') w' := by
    intro v' w' hb
    simp [execOp, resolve, invoke, builtin, ev_sound ha hx, ev_sound ha hy, hb]
  have fin : ∀ {v' : Value} {w' : World}, (Builtin.append_ #[t, t] ty #[v, v2]).run P w = .ok v' w' → w'.ownsRow 0 el i.size v' (m0 + m) (cs ++ news) → w.grownBy w' v.ownBlock → (v' = .slice none 0 0 ↔ v = .slice none 0 0 ∧ m = 0) → (v'.ownBlock = v.ownBlock ∨ v'.ownBlock = some w.heap.size) →
      uponV P (fun v w' => ∃ h', WL P n ops r K (putE (some d) v e) h' ∧ Evo w w' ∧ ∃ X, Holds w' (h'.flatten ++ (X ++ L))) ((execOp a.eval ⟨some d, .call { callee := .builtin .append, args := #[x, y], argTypes := #[t, t] }, ty, pos, af, none⟩).run P w) := by
    intro v' w' c1 c2 c3 c4 c5
    rw [hcall c1]
    obtain ⟨H', o1, o2, X, o3⟩ := own_grown ho hhH c2 c3 (fun hv => (c4.1 hv).1) c5
    refine ⟨H' :: R, k v' H' o1 c4, o2, X, o3.perm ?_⟩
    simp only [List.flatten_cons, List.append_assoc]
    exact List.Perm.append_left _ (List.perm_append_comm_assoc ..)
  obtain ⟨hl, hmm, p, c, rfl, hmc, hcell⟩ := hr
  cases p with
  | none =>
    have hm0 : m = 0 := by
      rcases Nat.eq_zero_or_pos m with h | h
      · exact h
      · obtain ⟨_, _, _, _, _, hn, _⟩ := hcell h; cases hn
    subst hm0
    have hnil : news = [] := List.eq_nil_of_length_eq_zero (by simpa using hl)
    subst hnil
    rcases ho.2 with ⟨rfl, rfl, rfl⟩ | ⟨b, cap, cur, rfl, rfl, k1, k2, k3, k4⟩
    · refine fin (v' := .slice none 0 0) (w' := w) ?_ (by simpa using hrow) ⟨rfl, rfl, rfl, Nat.le_refl _, fun _ _ _ => rfl⟩ (by simp) (.inl rfl)
      simp [Builtin.append_, run_underlying hu, sizeOf, typeInfo, hi, Builtin.lenOf, Builtin.firstCells]
    · refine fin (v' := .slice (some ⟨b, 0, none⟩) m0 cap) (w' := w) ?_ (by simpa using hrow) ⟨rfl, rfl, rfl, Nat.le_refl _, fun _ _ _ => rfl⟩ (by simp) (.inl rfl)
      simp [Builtin.append_, run_underlying hu, sizeOf, typeInfo, hi, Builtin.lenOf, Builtin.firstCells, k1, storeCells]
  | some ad =>
    have hnews : ∀ j u, news[j]? = some u → w.cell? (ad.add j) = some u := by
      intro j u hj
      rcases Nat.eq_zero_or_pos m with h0 | h0
      · subst h0
        have hnil : news = [] := List.eq_nil_of_length_eq_zero (by simpa using hl)
        subst hnil
        cases hj
      · obtain ⟨b, o, ar, T, fr, he, hmA, hg⟩ := hcell h0
        injection he with he
        subst he
        rw [Addr.add_lit, (hhH.right).at_ (hA.at_ hmA)]
        exact hg j u hj
    obtain ⟨v', w', c1, c2, c3, c4, c5⟩ := run_append_own_at (P := P) w 0 t ty el i z i.size i.bytes hu hi hq rfl rfl hzs.1 hpos v m0 cs hrow ad m c news hl hnews h1 h63 hb (Nat.zero_le _)
    exact fin c1 c2 c3 c4 c5

/-- append(a, x) of one number: behind the block that the call lays it in. -/
theorem o_app1 {x y : Operand} {t el by' cp : Nat} {z v : Value} {kk : IntKind} {xs : List Int} {a : Int} {H : Hp} {b2 : Nat} {R : Hs} {T2 : TypeId} {fr2 : Nat × Nat} (hs : slcB P t = some (el, 1)) (hz : zerB P el = some (z, 1, by')) (hzs : (z.cells.size == 1 && Nat.blt 0 1) = true) (hx : ev e (compX x) = some v) (hy : ev e (compX y) = some (.slice (some ⟨b2, 0, none⟩) 1 cp))
    (ho : OwnI H v el kk xs) (tk : Pick H h R) (hA : Has [(b2, .cells #[.int kk a] T2 fr2)] R) (hcp : 1 ≤ cp) (h63 : xs.length + 1 ≤ maxLen) (hb : (xs.length + 1) * by' ≤ 140737488355328)
    (k : ∀ v' H', OwnI H' v' el kk (xs ++ [a]) → WL P n ops r K ((d, v') :: e) (H' :: R)) : WL P n ops (⟨some d, .call { callee := .builtin .append, args := #[x, y], argTypes := #[t, t] }, ty, pos, af, none⟩ :: r) K e h := by
  refine o_app (m := 1) (news := [.int kk a]) hs hz hzs hx hy ho tk ⟨by simp, by omega, _, cp, rfl, hcp, fun _ => ⟨b2, 0, #[.int kk a], T2, fr2, rfl, List.mem_cons_self .., fun j u hj => ?_⟩⟩ hA (by simp; rfl) h63 hb (fun v' H' hO _ => k v' H' ?_)
  · simpa using hj
  · have : xs.map (Value.int kk) ++ [.int kk a] = (xs ++ [a]).map (Value.int kk) := by simp
    unfold OwnI
    rw [this] at hO
    simpa using hO

/-! ### Functions without a body -/
theorem o_ext_call {f : FuncId} {dst : Option Tmp} {xs : Array Operand} {ts : Array TypeId} {vs : List Value} (hv : evs e xs.toList = some vs)
    (hc : ∀ w L, Holds w (h.flatten ++ L) → ∃ v w', (callFunc f vs.toArray).run P w = .ok (.value v) w' ∧ ∃ h', WL P n ops r K (putE dst v e) h' ∧ Evo w w' ∧ ∃ X, Holds w' (h'.flatten ++ (X ++ L))) :
    WL P n ops (⟨dst, .call { callee := .value (.func f), args := xs, argTypes := ts }, ty, pos, af, none⟩ :: r) K e h := by
  refine o_eff rfl (fun a w L ha hh => ?_)
  have e1 := evs_arr ha xs hv
  obtain ⟨v, w', h1, h2⟩ := hc w L hh
  have hrun : (execOp a.eval ⟨dst, .call { callee := .value (.func f), args := xs, argTypes := ts }, ty, pos, af, none⟩).run P w = .ok (.value v) w' := by
    simp [execOp, resolve, e1, Act.eval, Deferred.ofValue, invoke, h1]
  rw [hrun]
  exact h2

/-- Which function without a body it is. -/
structure Xf (P : Program) (f : FuncId) (fn : Func) : Prop where
  func : P.funcs[f]? = some fn
  name : (fn.name == "runtime.NumGoroutine") = false
  body : fn.body.isNone = true
  next : Extern.findNext fn = none

section
variable {f : FuncId} {fn : Func} {xs : Array Operand} {ts : Array TypeId} (X : Xf P f fn)
include X
theorem o_mark0 (m : Mark) (he : Extern.find fn = some (fun _ => do mark m; pure Extern.Race.none_)) (hv : evs e xs.toList = some []) (k : WL P n ops r K ((d, .tuple #[]) :: e) h) :
    WL P n ops (⟨some d, .call { callee := .value (.func f), args := xs, argTypes := ts }, ty, pos, af, none⟩ :: r) K e h :=
  o_ext_call hv fun w L hh => ⟨_, w, run_call_mark0 X.func X.name X.body X.next m he w, h, k, Evo.refl w, [], by simpa using hh⟩
theorem o_marked (m : Addr → Mark) (he : Extern.find fn = some (Extern.Race.marked m)) {ad : Addr} (hv : evs e xs.toList = some [.pointer (some ad)]) (k : WL P n ops r K ((d, .tuple #[]) :: e) h) :
    WL P n ops (⟨some d, .call { callee := .value (.func f), args := xs, argTypes := ts }, ty, pos, af, none⟩ :: r) K e h :=
  o_ext_call hv fun w L hh => ⟨_, w, run_call_marked X.func X.name X.body X.next m he ad w, h, k, Evo.refl w, [], by simpa using hh⟩
theorem o_aload (kk : IntKind) (he : Extern.find fn = some (Extern.Atomic.loadT (.int kk))) {b off : Nat} {c : Array Value} {T : TypeId} {fr : Nat × Nat} {i : Int} (hv : evs e xs.toList = some [.pointer (some ⟨b, off, none⟩)]) (hm : At h b (.cells c T fr)) (hc : c[off]? = some (.int kk i)) (k : WL P n ops r K ((d, .int kk i) :: e) h) :
    WL P n ops (⟨some d, .call { callee := .value (.func f), args := xs, argTypes := ts }, ty, pos, af, none⟩ :: r) K e h :=
  o_ext_call hv fun w L hh => ⟨_, w, run_call_load X.func X.name X.body X.next kk he ((hh.at_ hm off).trans hc), h, k, Evo.refl w, [], by simpa using hh⟩

omit X in
theorem atom_set {b off : Nat} {c : Array Value} {T : TypeId} {u v : Value} {h' : Hs} (hm : Upd h b (.cells c T (0, 0)) (.cells (c.setIfInBounds off v) T (0, 0)) h') (hc : c[off]? = some u) {w : World} {L : Hp} (hh : Holds w (h.flatten ++ L)) : w.cell? ⟨b, off, none⟩ = some u ∧ w.frozen? ⟨b, off, none⟩ = false ∧ Holds (w.setCell ⟨b, off, none⟩ v) (h'.flatten ++ L) := by
  obtain ⟨R, hp, _⟩ := hm.perm
  have hh2 := hh.perm (List.Perm.append_right L hp.flatten)
  simp only [List.flatten_cons, List.cons_append, List.nil_append] at hh2
  exact ⟨(hh2.cell (List.mem_cons_self ..)).trans hc, (hh2.frozen (List.mem_cons_self ..)).trans (by simp), hm.holds hh fun L hL => hL.setCell v⟩

theorem o_astore (kk : IntKind) (he : Extern.find fn = some Extern.Atomic.storeT) {b off : Nat} {c : Array Value} {T : TypeId} {u : Value} {i : Int} {h' : Hs} (hv : evs e xs.toList = some [.pointer (some ⟨b, off, none⟩), .int kk i])
    (hm : Upd h b (.cells c T (0, 0)) (.cells (c.setIfInBounds off (.int kk i)) T (0, 0)) h') (hc : c[off]? = some u) (k : WL P n ops r K ((d, .tuple #[]) :: e) h') :
    WL P n ops (⟨some d, .call { callee := .value (.func f), args := xs, argTypes := ts }, ty, pos, af, none⟩ :: r) K e h :=
  o_ext_call hv fun w L hh => by
    obtain ⟨h1, h2, h3⟩ := atom_set hm hc hh
    exact ⟨_, _, run_call_store X.func X.name X.body X.next he h1 h2, h', k, Evo.setCell .., [], by simpa using h3⟩
theorem o_aadd (kk : IntKind) (he : Extern.find fn = some (Extern.Atomic.update (Op.intArith .add) kk true)) {b off : Nat} {c : Array Value} {T : TypeId} {i j s : Int} {h' : Hs} (hv : evs e xs.toList = some [.pointer (some ⟨b, off, none⟩), .int kk j]) (hsum : kk.wrap (i + j) = s)
    (hm : Upd h b (.cells c T (0, 0)) (.cells (c.setIfInBounds off (.int kk s)) T (0, 0)) h') (hc : c[off]? = some (.int kk i)) (k : WL P n ops r K ((d, .int kk s) :: e) h') :
    WL P n ops (⟨some d, .call { callee := .value (.func f), args := xs, argTypes := ts }, ty, pos, af, none⟩ :: r) K e h :=
  o_ext_call hv fun w L hh => by
    obtain ⟨h1, h2, h3⟩ := atom_set hm hc hh
    exact ⟨_, _, run_call_add X.func X.name X.body X.next kk he h1 h2 (by simp [Op.intArith, hsum]), h', k, Evo.setCell .., [], by simpa using h3⟩
theorem o_acas (kk : IntKind) (he : Extern.find fn = some (Extern.Atomic.casT (.int kk))) {b off : Nat} {c : Array Value} {T : TypeId} {i j : Int} {h' : Hs} (hv : evs e xs.toList = some [.pointer (some ⟨b, off, none⟩), .int kk i, .int kk j])
    (hm : Upd h b (.cells c T (0, 0)) (.cells (c.setIfInBounds off (.int kk j)) T (0, 0)) h') (hc : c[off]? = some (.int kk i)) (k : WL P n ops r K ((d, .bool true) :: e) h') :
    WL P n ops (⟨some d, .call { callee := .value (.func f), args := xs, argTypes := ts }, ty, pos, af, none⟩ :: r) K e h :=
  o_ext_call hv fun w L hh => by
    obtain ⟨h1, h2, h3⟩ := atom_set hm hc hh
    exact ⟨_, _, run_call_cas_hit X.func X.name X.body X.next kk he h1 h2, h', k, Evo.setCell .., [], by simpa using h3⟩
end

/-- A pointer, as an unsafe one: where a cell stands. -/
theorem o_unsafe {x : Operand} {s t el : TypeId} {b off : Nat} {c : Array Value} {T : TypeId} {fr : Nat × Nat} {u : Value} (hs : P.underlying s = some (.pointer el)) (ht : P.underlying t = some .unsafePointer) (hz : (P.info? el).map (fun i => decide (i.size = 0)) = some false) (hx : ev e (compX x) = some (.pointer (some ⟨b, off, none⟩))) (hm : At h b (.cells c T fr)) (hc : c[off]? = some u)
    (k : WL P n ops r K ((d, .pointer (some ⟨b, off, none⟩)) :: e) h) : WL P n ops (⟨some d, .convert s t x, ty, pos, af, none⟩ :: r) K e h := by
  refine o_eff (by simp [cls, ht]) (fun a w L ha hh => ?_)
  have hrun : (execOp a.eval ⟨some d, .convert s t x, ty, pos, af, none⟩).run P w = .ok (.value (.pointer (some ⟨b, off, none⟩))) w := by
    simp [execOp, ev_sound ha hx, run_convert_to_unsafe hs ht hz ((hh.at_ hm off).trans hc)]
  rw [hrun]
  exact ⟨h, k, Evo.refl w, [], by simpa using hh⟩
end

/-! ### Deferred calls -/
/-- A contract of a function that is called at the end. -/
def CtrD (P : Program) (f : FuncId) (args : List Value) (hin : Hs) (post : Value → Hs → Prop) : Prop :=
  ∀ L w, Holds w (hin.flatten ++ L) → CallsD P f args.toArray .returning w fun e u' w' => u' = .returning ∧ ∃ v hout, e = .returned v ∧ post v hout ∧ Evo w w' ∧ ∃ X, Holds w' (hout.flatten ++ (X ++ L))

theorem specD_of {P : Program} {f : FuncId} {fn : Func} {c : Code} {args : List Value} {hin : Hs} {post : Value → Hs → Prop} (hf : P.funcs[f]? = some fn) (hb : fn.body = some c) (hn : Nat.ble args.length fn.ntmps = true)
    (hw : ∀ w0 L, WT ⟨P, fn.ntmps, [], w0, L, specR P fn L w0 post⟩ [.code c] (env0 0 args) hin) : CtrD P f args hin post := by
  have hn := Nat.le_of_ble_eq_true hn
  intro L w hh
  refine callsD_of_wp hf hb ?_
  refine hw w L _ w ⟨⟨by simp; omega, ?_⟩, rfl, Evo.refl w, [], by simpa using hh⟩
  intro t v ht
  obtain ⟨_, h2⟩ := get_env0 args 0 t v ht
  obtain ⟨h3, h4⟩ := List.getElem?_eq_some_iff.1 h2
  simp only [Nat.sub_zero] at h3 h4
  refine ⟨show t < fn.ntmps by omega, ?_⟩
  have : t < (args.toArray ++ Array.replicate (fn.ntmps - args.toArray.size) undef).size := by simp; omega
  simp only [Array.getD_eq_getD_getElem?]
  rw [Array.getElem?_append_left (by simpa using h3)]
  simp [h3, h4]

def specRD (P : Program) (fn : Func) (L : Hp) (w0 : World) (post : Value → Hs → Prop) : Exit → Act → World → Prop :=
  bodyPostD P fn fun e w' => ∃ v hout, e = .returned v ∧ post v hout ∧ Evo w0 w' ∧ ∃ X, Holds w' (hout.flatten ++ (X ++ L))

/-- A contract of a function that has deferred calls. -/
theorem spec_ofD {P : Program} {f : FuncId} {fn : Func} {c : Code} {args : List Value} {hin : Hs} {post : Value → Hs → Prop} (hf : P.funcs[f]? = some fn) (hb : fn.body = some c) (hn : Nat.ble args.length fn.ntmps = true)
    (hw : ∀ w0 L, WT ⟨P, fn.ntmps, [], w0, L, specRD P fn L w0 post⟩ [.code c] (env0 0 args) hin) : Ctr P f args hin post := by
  have hn := Nat.le_of_ble_eq_true hn
  intro L w hh
  refine calls_of_wp_defers hf hb ?_
  refine hw w L _ w ⟨⟨by simp; omega, ?_⟩, rfl, Evo.refl w, [], by simpa using hh⟩
  intro t v ht
  obtain ⟨_, h2⟩ := get_env0 args 0 t v ht
  obtain ⟨h3, h4⟩ := List.getElem?_eq_some_iff.1 h2
  simp only [Nat.sub_zero] at h3 h4
  refine ⟨show t < fn.ntmps by omega, ?_⟩
  have : t < (args.toArray ++ Array.replicate (fn.ntmps - args.toArray.size) undef).size := by simp; omega
  simp only [Array.getD_eq_getD_getElem?]
  rw [Array.getElem?_append_left (by simpa using h3)]
  simp [h3, h4]

/-- What the deferred calls do, one behind the other, then what is handed back. -/
def LV (P : Program) (fn : Func) (post : Value → Hs → Prop) (e : Env) : List Deferred → Hs → Prop
  | [], h => ∃ v hout, RetOk P fn e h v ∧ post v hout ∧ HSub hout h
  | d :: ds, h => ∃ fv cap f args hin R postd, d.target = .fn fv cap ∧ (∀ w, (invoke d.target d.args).run P w = .ok (.enter f args) w) ∧ (∃ l : List Value, args = l.toArray ∧ CtrD P f l hin postd) ∧ Take hin h R ∧ ∀ v ho, postd v ho → LV P fn post e ds (ho ++ R)

theorem LV.leaves {P : Program} {fn : Func} {post : Value → Hs → Prop} {e : Env} {L : Hp} {w0 : World} {a : Act} (hk : Knows fn.ntmps e a) : ∀ (ds : List Deferred) {h : Hs} {w : World} {X : Hp}, LV P fn post e ds h → Evo w0 w → Holds w (h.flatten ++ (X ++ L)) →
    Leaves P fn a.tmps (fun e w' => ∃ v hout, e = .returned v ∧ post v hout ∧ Evo w0 w' ∧ ∃ X, Holds w' (hout.flatten ++ (X ++ L))) ds .returning w
  | [], h, w, X, hl, he, hh => by
    obtain ⟨v, hout, hr, hp, Y, hY⟩ := hl
    refine ⟨v, hr.1 a w _ hk hh, v, hout, rfl, hp, he, Y.flatten ++ X, hh.perm ?_⟩
    have := hY.flatten
    rw [List.flatten_append] at this
    simpa [List.append_assoc] using List.Perm.append_right (X ++ L) this
  | d :: ds, h, w, X, hl, he, hh => by
    obtain ⟨fv, cap, f, args, hin, R, postd, h1, h2, ⟨l, rfl, h3⟩, h4, h5⟩ := hl
    refine ⟨by simp, fv, cap, f, _, h1, h2 w, ?_⟩
    have hh1 := hh.perm (List.Perm.append_right (X ++ L) h4.perm.flatten)
    rw [List.flatten_append, List.append_assoc] at hh1
    refine (h3 _ w hh1).mono ?_
    rintro e' u' w' ⟨rfl, v, ho, rfl, hp, hev, Y, hY⟩
    refine LV.leaves hk ds (X := Y ++ X) (h5 v ho hp) (he.trans hev) (hY.perm ?_)
    simp only [List.flatten_append, List.append_assoc]
    refine List.Perm.append_left _ ?_
    exact (List.perm_append_comm_assoc ..)

section
variable {P : Program} {fn : Func} {L : Hp} {w0 : World} {post : Value → Hs → Prop} {k : List It} {e : Env} {h : Hs} {D : List Deferred}
theorem w_endD (hl : LV P fn post e D h) : WT ⟨P, fn.ntmps, D, w0, L, specRD P fn L w0 post⟩ [] e h := by
  intro a w st
  obtain ⟨X, hX⟩ := st.holds
  show Leaves P fn a.tmps _ a.defers .returning w
  rw [st.defers]
  exact LV.leaves st.knows D hl st.evo hX
end
end Go.Eng
