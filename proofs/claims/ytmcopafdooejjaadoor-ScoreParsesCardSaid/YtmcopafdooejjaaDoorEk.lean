/- The engine, part 11: capacities, a slice grown from nothing, a result's own block. No condition. -/
import Derived.Test.YtmcopafdooejjaaDoorEj
import Derived.Lib.AppendZeros
namespace Go.Eng
set_option linter.unusedVariables false
set_option linter.unusedSimpArgs false
section
variable {P : Program} {n : Nat} {ops : Array Oper} {r : List Oper} {K : Env → Hs → Prop} {e : Env} {h : Hs} {d : Tmp} {ty : TypeId} {pos : String} {af : Array Edge}

theorem o_cap {x : Operand} {t el sz l c : Nat} {a1 : Option Addr} (hs : slcB P t = some (el, sz)) (hx : ev e (compX x) = some (.slice a1 l c)) (k : WL P n ops r K ((d, .int .i64 c) :: e) h) : WL P n ops (⟨some d, .call { callee := .builtin .cap, args := #[x], argTypes := #[t] }, ty, pos, af, none⟩ :: r) K e h :=
  o_pure rfl (fun a ha w => by simp [execOp, resolve, invoke, builtin, ev_sound ha hx, Builtin.cap_, run_underlying (slcB_spec hs).1, goInt]) k
/-- append(nil, make(.., m)...): a new block. -/
theorem o_appZ {x y : Operand} {t tn el sz by' m : Nat} {z : Value} {kq kn : IntKind} (hs : slcB P t = some (el, sz)) (htn : intB P tn = some kn) (hz : zerB P el = some (z, sz, by')) (hzs : (z.cells.size == sz && Nat.blt 0 sz) = true) (hx : ev e (compX x) = some (.slice none 0 0)) (hy : ev e (compX y) = some (.int kq m)) (h0 : 0 < m) (h63 : m ≤ maxLen) (hb : m * by' ≤ 281474976710656)
    (k : ∀ b c cur, m ≤ c → c ≤ maxLen → cur.size = c * sz → WL P n ops r K ((d, .slice (some ⟨b, 0, none⟩) m c) :: e) ([(b, .cells cur el (0, 0))] :: h)) : WL P n ops (⟨some d, .call { callee := .builtin .append, args := #[x, y], argTypes := #[t, tn] }, ty, pos, af, none⟩ :: r) K e h := by
  refine o_eff rfl (fun a w L ha hh => ?_)
  obtain ⟨i, hi, hq, rfl, rfl⟩ := zerB_spec hz
  obtain ⟨hu, _, _, _⟩ := slcB_spec hs
  simp only [Bool.and_eq_true, beq_iff_eq] at hzs
  have hpos : 0 < i.size := by have := hzs.2; simpa [Nat.blt_eq] using this
  have hrun := Lib.run_append_nil_zeros (P := P) w t tn ty el i z kq kn hu (intB_spec htn) hi hq m h0 hpos (by simp only [maxLen] at h63; omega) hb
  have hcall : (execOp a.eval ⟨some d, .call { callee := .builtin .append, args := #[x, y], argTypes := #[t, tn] }, ty, pos, af, none⟩).run P w = .ok (.value (.slice (some ⟨w.heap.size, 0, none⟩) m (grownCap w m 0 el))) (w.drew.alloc (.cells (Builtin.zeroCells z.cells m ++ Builtin.zeroCells z.cells (grownCap w m 0 el - m)) el)) := by
    simp [execOp, resolve, invoke, builtin, ev_sound ha hx, ev_sound ha hy, hrun]
  rw [hcall]
  have hge := grownCap_ge w m 0 el
  have hzc : ∀ q, (Builtin.zeroCells z.cells q).size = q * i.size := fun q => by simp [Builtin.zeroCells, hzs.1]
  refine ⟨_, k w.heap.size (grownCap w m 0 el) (Builtin.zeroCells z.cells m ++ Builtin.zeroCells z.cells (grownCap w m 0 el - m)) hge (grownCap_le_maxLen w m 0 el h63) ?_, Evo.trans (b := w.drew) ⟨rfl, rfl, rfl, Nat.le_refl _⟩ (Evo.alloc _ _), [], ?_⟩
  · rw [Array.size_append, hzc, hzc, ← Nat.add_mul]; congr 1; omega
  · have := hh.drew.alloc (.cells (Builtin.zeroCells z.cells m ++ Builtin.zeroCells z.cells (grownCap w m 0 el - m)) el)
    exact this
end
/-- A struct or an array out of a result's own block. -/
theorem ret1c {P : Program} {fn : Func} {e : Env} {h : Hs} {t : Tmp} {tt : TypeId} {m b off : Nat} {c vs : Array Value} {T : TypeId} {fr : Nat × Nat} (hr : fn.results = #[.cell t tt]) (hl : lodB P tt = some (some m)) (ht : get e t = some (.pointer (some ⟨b, off, none⟩))) (hm : At h b (.cells c T fr)) (hs : off + m ≤ c.size) (hv : c.extract off (off + m) = vs) : RetOk P fn e h (.agg vs) := by
  refine ⟨fun a w L hk hh => ?_⟩
  obtain ⟨h1, h2⟩ := lodB_many hl w
  have hlen : vs.size = m := by rw [← hv]; simp; omega
  have h3 := run_loadCells_list (P := P) w ⟨b, off, none⟩ vs.toList (fun j u hj => by
    rw [Addr.add_lit, hh.at_ hm]
    have hj' : vs[j]? = some u := by simpa using hj
    have hjl : j < m := by rw [← hlen]; exact (Array.getElem?_eq_some_iff.1 hj').1
    rw [← hv, Array.getElem?_extract] at hj'
    rw [if_pos (by omega)] at hj'
    exact hj')
  simp only [Array.length_toList, Array.toArray_toList, hlen] at h3
  have e1 := getD_of_get hk ht
  simp only [Array.getD_eq_getD_getElem?] at e1
  unfold results
  rw [hr]
  simp [e1, asAddr, loadVar, h1, h2, h3]
end Go.Eng
