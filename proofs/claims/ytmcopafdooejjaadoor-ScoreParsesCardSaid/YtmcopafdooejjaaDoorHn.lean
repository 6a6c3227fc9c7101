/- Contracts: the document's Same, of the same steps. No condition but on the length. -/
import Derived.Test.YtmcopafdooejjaaDoorTy
import Derived.Test.YtmcopafdooejjaaDoorHm
namespace Go.Proofs.YtmcopafdooejjaaDoor
open Go.Eng
set_option linter.unusedVariables false
set_option linter.unusedSimpArgs false
set_option maxRecDepth 20000
attribute [local irreducible] WL WT
theorem slot_fields : fieldsIB Tryd.prog (Tryd.prog.fieldsOf 55).toList 0 = some [.i64, .i64, .i64, .u32] := by kernel_rfl
theorem slot_und : Tryd.prog.underlying 55 = some (.struct (Tryd.prog.fieldsOf 55)) := by kernel_rfl
theorem slot_in : Tryd.prog.stoodInHeld 55 = false := by kernel_rfl
theorem slot_guard : Tryd.prog.eqGuardType Tryd.prog.depth 55 = false := by kernel_rfl

theorem ref_SameS {v1 v2 : Value} {Z : List StepP} {A1 D1 A2 D2 : Hp} (h1 : SRows A1 D1 v1 53 Z) (h2 : SRows A2 D2 v2 53 Z) (hZl : Z.length ≤ 100000) : Ctr Tryd.prog 7 [v1, v2] ([A1, D1, A2, D2]) (fun v ho => v = .bool true ∧ ho = [A1, D1, A2, D2]) := by
  refine spec_of Tryd.func7 rfl rfl fun w0 L => ?_
  obtain ⟨e1, hO1, hall1, hst1⟩ := h1
  obtain ⟨e2, hO2, hall2, hst2⟩ := h2
  have hR1 := hO1.rd
  have hR2 := hO2.rd
  refine w_seq ?_
  refine w_region rfl ?_
  refine o_asg rfl ?_
  refine w_nil ?_
  refine w_seq ?_
  refine w_seq ?_
  refine w_region rfl ?_
  refine o_mov rfl ?_
  refine o_lenR hR1 slc_27 rfl ?_
  refine o_mov rfl ?_
  refine o_lenR hR2 slc_27 rfl ?_
  refine o_ne_f rfl rfl (by omega) ?_
  refine w_nil ?_
  refine w_if_f rfl ?_
  refine w_skip ?_
  refine w_seq ?_
  refine w_seq ?_
  refine w_region rfl ?_
  refine o_asg rfl ?_
  refine w_nil ?_
  refine w_block ?_
  refine w_loop (X := Nat) (fun i => [(0, v1), (1, v2), (5, .int .i64 i)]) (fun _ => [A1, D1, A2, D2]) (fun i => i ≤ Z.length) (fun i => Z.length - i) 0 (by omega) (by repeat (first | exact Sub.nil _ | refine Sub.cons rfl ?_)) (Take.sub (by repeat (first | exact Take.nil | exact Take.all _ | (apply Take.cons; focus (repeat (first | exact Pick.here | apply Pick.next)))))) ?_
  intro i hi
  refine w_seq ?_
  refine w_seq ?_
  refine w_region rfl ?_
  refine o_mov rfl ?_
  refine o_mov rfl ?_
  refine o_lenR hR1 slc_27 rfl ?_
  refine o_lt rfl rfl ?_
  refine w_nil ?_
  refine w_if_d rfl (fun hlt => ?_) (fun hlt => ?_)
  · have hi2 : i < Z.length := by omega
    obtain ⟨s, hs, -⟩ := get_some hi2
    obtain ⟨vsx, vax, vbx, vlx, cx, k1x, k2x, k3x, k4x⟩ := hst1 i s hs
    obtain ⟨psx, csx, rfl, -⟩ := Rd.slice k1x
    obtain ⟨pax, cax, rfl, -⟩ := Rd.slice k2x
    obtain ⟨pbx, cbx, rfl, -⟩ := Rd.slice k3x
    obtain ⟨plx, clx, rfl, -⟩ := Rd.slice k4x
    obtain ⟨vsy, vay, vby, vly, cy, k1y, k2y, k3y, k4y⟩ := hst2 i s hs
    obtain ⟨psy, csy, rfl, -⟩ := Rd.slice k1y
    obtain ⟨pay, cay, rfl, -⟩ := Rd.slice k2y
    obtain ⟨pby, cby, rfl, -⟩ := Rd.slice k3y
    obtain ⟨ply, cly, rfl, -⟩ := Rd.slice k4y
    have hm1 : s.samples.length ≤ 9223372036854775807 := k1x.2.1
    have hm2 : s.slots.length ≤ 9223372036854775807 := k4x.2.1
    refine w_skip ?_
    refine w_seq ?_
    refine w_block ?_
    refine w_seq ?_
    refine w_cut_x (X := Nat × Nat) (fun x => [(0, v1), (1, v2), (5, .int .i64 i), (6, .pointer (some ⟨x.1, 0, none⟩)), (7, .pointer (some ⟨x.2, 0, none⟩))]) (fun x => [[(x.1, .cells (stepC s (.slice psx s.samples.length csx) (.slice pax s.a.length cax) (.slice pbx s.b.length cbx) (.slice plx s.slots.length clx)).toArray 53 (0, 0))], [(x.2, .cells (stepC s (.slice psy s.samples.length csy) (.slice pay s.a.length cay) (.slice pby s.b.length cby) (.slice ply s.slots.length cly)).toArray 53 (0, 0))], A1, D1, A2, D2]) (fun _ => True) ?_ ?_
    · refine w_plan (takes [0, 1, 2, 3, 4, 5, 6] (.alt 7 (.alt 8 (.alt 9 (.alt 10 (.alt 11 .done .stop) .stop) .stop) (.alt 9 (.alt 8 (.alt 10 (.alt 11 .done .stop) .stop) .stop) .stop)) (.alt 8 (.alt 7 (.alt 9 (.alt 10 (.alt 11 .done .stop) .stop) .stop) (.alt 9 (.alt 7 (.alt 10 (.alt 11 .done .stop) .stop) (.alt 10 (takes [7] (.alt 11 .done .stop)) .stop)) .stop)) (.alt 9 (.alt 7 (.alt 8 (.alt 10 (.alt 11 .done .stop) .stop) .stop) (.alt 8 (.alt 7 (.alt 10 (.alt 11 .done .stop) .stop) (.alt 10 (takes [7] (.alt 11 .done .stop)) .stop)) .stop)) .stop)))) mixed (by kernel_rfl) ?_
      refine wp_take _ _ ?_
      refine o_mov rfl ?_
      refine o_mov rfl ?_
      refine o_idxR hR1 (by repeat (first | exact Has.here | apply Has.next)) slc_27 rfl rfl ⟨by omega, by omega⟩ (fun bb1 ff1 ar1 TT1 fr1 hm1 hg1 => ?_)
      refine o_loadC (stepC s (.slice psx s.samples.length csx) (.slice pax s.a.length cax) (.slice pbx s.b.length cbx) (.slice plx s.slots.length clx)) lod_53 rfl (by repeat (first | exact hm1 | apply At.next)) rfl (by decide) (fun j w hj => hg1 j w (by rw [show (i : Int).toNat * 6 + j = i * 6 + j by omega]; exact stepC_at cx j w hj)) ?_
      refine o_mov rfl ?_
      refine o_mov rfl ?_
      refine o_idxR hR2 (by repeat (first | exact Has.here | apply Has.next)) slc_27 rfl rfl ⟨by omega, by omega⟩ (fun bb2 ff2 ar2 TT2 fr2 hm2 hg2 => ?_)
      refine wl_nil ?_
      refine wp_alt ?_ ?_
      · refine o_loadC (stepC s (.slice psy s.samples.length csy) (.slice pay s.a.length cay) (.slice pby s.b.length cby) (.slice ply s.slots.length cly)) lod_53 rfl (by repeat (first | exact hm2 | apply At.next)) rfl (by decide) (fun j w hj => hg2 j w (by rw [show (i : Int).toNat * 6 + j = i * 6 + j by omega]; exact stepC_at cy j w hj)) ?_
        refine wl_nil ?_
        refine wp_alt ?_ ?_
        · refine o_alloc zer_53 (fun b1 => ?_)
          refine wl_nil ?_
          refine wp_alt ?_ ?_
          · refine o_alloc zer_53 (fun b2 => ?_)
            refine wl_nil ?_
            refine wp_alt ?_ ?_
            · refine o_storeW siz_53 rfl rfl rfl (by repeat (first | exact Upd.here | apply Upd.next)) rfl rfl ?_
              refine wl_nil ?_
              refine wp_alt ?_ ?_
              · refine o_storeW siz_53 rfl rfl rfl (by repeat (first | exact Upd.here | apply Upd.next)) rfl rfl ?_
                refine wl_nil ?_
                refine wp_done ?_
                exact w_again ⟨(_, _), trivial, (by repeat (first | exact Sub.nil _ | refine Sub.cons rfl ?_)), (Take.sub (by repeat (first | exact Take.nil | exact Take.all _ | (apply Take.cons; focus (repeat (first | exact Pick.here | apply Pick.next))))))⟩
              exact wp_stop
            exact wp_stop
          exact wp_stop
        refine wp_alt ?_ ?_
        · refine o_alloc zer_53 (fun b3 => ?_)
          refine wl_nil ?_
          refine wp_alt ?_ ?_
          · refine o_alloc zer_53 (fun b4 => ?_)
            refine wl_nil ?_
            refine wp_alt ?_ ?_
            · refine o_storeW siz_53 rfl rfl rfl (by repeat (first | exact Upd.here | apply Upd.next)) rfl rfl ?_
              refine wl_nil ?_
              refine wp_alt ?_ ?_
              · refine o_storeW siz_53 rfl rfl rfl (by repeat (first | exact Upd.here | apply Upd.next)) rfl rfl ?_
                refine wl_nil ?_
                refine wp_done ?_
                exact w_again ⟨(_, _), trivial, (by repeat (first | exact Sub.nil _ | refine Sub.cons rfl ?_)), (Take.sub (by repeat (first | exact Take.nil | exact Take.all _ | (apply Take.cons; focus (repeat (first | exact Pick.here | apply Pick.next))))))⟩
              exact wp_stop
            exact wp_stop
          exact wp_stop
        exact wp_stop
      refine wp_alt ?_ ?_
      · refine o_alloc zer_53 (fun b5 => ?_)
        refine wl_nil ?_
        refine wp_alt ?_ ?_
        · refine o_loadC (stepC s (.slice psy s.samples.length csy) (.slice pay s.a.length cay) (.slice pby s.b.length cby) (.slice ply s.slots.length cly)) lod_53 rfl (by repeat (first | exact hm2 | apply At.next)) rfl (by decide) (fun j w hj => hg2 j w (by rw [show (i : Int).toNat * 6 + j = i * 6 + j by omega]; exact stepC_at cy j w hj)) ?_
          refine wl_nil ?_
          refine wp_alt ?_ ?_
          · refine o_alloc zer_53 (fun b6 => ?_)
            refine wl_nil ?_
            refine wp_alt ?_ ?_
            · refine o_storeW siz_53 rfl rfl rfl (by repeat (first | exact Upd.here | apply Upd.next)) rfl rfl ?_
              refine wl_nil ?_
              refine wp_alt ?_ ?_
              · refine o_storeW siz_53 rfl rfl rfl (by repeat (first | exact Upd.here | apply Upd.next)) rfl rfl ?_
                refine wl_nil ?_
                refine wp_done ?_
                exact w_again ⟨(_, _), trivial, (by repeat (first | exact Sub.nil _ | refine Sub.cons rfl ?_)), (Take.sub (by repeat (first | exact Take.nil | exact Take.all _ | (apply Take.cons; focus (repeat (first | exact Pick.here | apply Pick.next))))))⟩
              exact wp_stop
            exact wp_stop
          exact wp_stop
        refine wp_alt ?_ ?_
        · refine o_alloc zer_53 (fun b7 => ?_)
          refine wl_nil ?_
          refine wp_alt ?_ ?_
          · refine o_loadC (stepC s (.slice psy s.samples.length csy) (.slice pay s.a.length cay) (.slice pby s.b.length cby) (.slice ply s.slots.length cly)) lod_53 rfl (by repeat (first | exact hm2 | apply At.next)) rfl (by decide) (fun j w hj => hg2 j w (by rw [show (i : Int).toNat * 6 + j = i * 6 + j by omega]; exact stepC_at cy j w hj)) ?_
            refine wl_nil ?_
            refine wp_alt ?_ ?_
            · refine o_storeW siz_53 rfl rfl rfl (by repeat (first | exact Upd.here | apply Upd.next)) rfl rfl ?_
              refine wl_nil ?_
              refine wp_alt ?_ ?_
              · refine o_storeW siz_53 rfl rfl rfl (by repeat (first | exact Upd.here | apply Upd.next)) rfl rfl ?_
                refine wl_nil ?_
                refine wp_done ?_
                exact w_again ⟨(_, _), trivial, (by repeat (first | exact Sub.nil _ | refine Sub.cons rfl ?_)), (Take.sub (by repeat (first | exact Take.nil | exact Take.all _ | (apply Take.cons; focus (repeat (first | exact Pick.here | apply Pick.next))))))⟩
              exact wp_stop
            exact wp_stop
          refine wp_alt ?_ ?_
          · refine o_storeW siz_53 rfl rfl rfl (by repeat (first | exact Upd.here | apply Upd.next)) rfl rfl ?_
            refine wl_nil ?_
            refine wp_take _ _ ?_
            refine o_loadC (stepC s (.slice psy s.samples.length csy) (.slice pay s.a.length cay) (.slice pby s.b.length cby) (.slice ply s.slots.length cly)) lod_53 rfl (by repeat (first | exact hm2 | apply At.next)) rfl (by decide) (fun j w hj => hg2 j w (by rw [show (i : Int).toNat * 6 + j = i * 6 + j by omega]; exact stepC_at cy j w hj)) ?_
            refine wl_nil ?_
            refine wp_alt ?_ ?_
            · refine o_storeW siz_53 rfl rfl rfl (by repeat (first | exact Upd.here | apply Upd.next)) rfl rfl ?_
              refine wl_nil ?_
              refine wp_done ?_
              exact w_again ⟨(_, _), trivial, (by repeat (first | exact Sub.nil _ | refine Sub.cons rfl ?_)), (Take.sub (by repeat (first | exact Take.nil | exact Take.all _ | (apply Take.cons; focus (repeat (first | exact Pick.here | apply Pick.next))))))⟩
            exact wp_stop
          exact wp_stop
        exact wp_stop
      refine wp_alt ?_ ?_
      · refine o_alloc zer_53 (fun b8 => ?_)
        refine wl_nil ?_
        refine wp_alt ?_ ?_
        · refine o_loadC (stepC s (.slice psy s.samples.length csy) (.slice pay s.a.length cay) (.slice pby s.b.length cby) (.slice ply s.slots.length cly)) lod_53 rfl (by repeat (first | exact hm2 | apply At.next)) rfl (by decide) (fun j w hj => hg2 j w (by rw [show (i : Int).toNat * 6 + j = i * 6 + j by omega]; exact stepC_at cy j w hj)) ?_
          refine wl_nil ?_
          refine wp_alt ?_ ?_
          · refine o_alloc zer_53 (fun b9 => ?_)
            refine wl_nil ?_
            refine wp_alt ?_ ?_
            · refine o_storeW siz_53 rfl rfl rfl (by repeat (first | exact Upd.here | apply Upd.next)) rfl rfl ?_
              refine wl_nil ?_
              refine wp_alt ?_ ?_
              · refine o_storeW siz_53 rfl rfl rfl (by repeat (first | exact Upd.here | apply Upd.next)) rfl rfl ?_
                refine wl_nil ?_
                refine wp_done ?_
                exact w_again ⟨(_, _), trivial, (by repeat (first | exact Sub.nil _ | refine Sub.cons rfl ?_)), (Take.sub (by repeat (first | exact Take.nil | exact Take.all _ | (apply Take.cons; focus (repeat (first | exact Pick.here | apply Pick.next))))))⟩
              exact wp_stop
            exact wp_stop
          exact wp_stop
        refine wp_alt ?_ ?_
        · refine o_alloc zer_53 (fun b10 => ?_)
          refine wl_nil ?_
          refine wp_alt ?_ ?_
          · refine o_loadC (stepC s (.slice psy s.samples.length csy) (.slice pay s.a.length cay) (.slice pby s.b.length cby) (.slice ply s.slots.length cly)) lod_53 rfl (by repeat (first | exact hm2 | apply At.next)) rfl (by decide) (fun j w hj => hg2 j w (by rw [show (i : Int).toNat * 6 + j = i * 6 + j by omega]; exact stepC_at cy j w hj)) ?_
            refine wl_nil ?_
            refine wp_alt ?_ ?_
            · refine o_storeW siz_53 rfl rfl rfl (by repeat (first | exact Upd.here | apply Upd.next)) rfl rfl ?_
              refine wl_nil ?_
              refine wp_alt ?_ ?_
              · refine o_storeW siz_53 rfl rfl rfl (by repeat (first | exact Upd.here | apply Upd.next)) rfl rfl ?_
                refine wl_nil ?_
                refine wp_done ?_
                exact w_again ⟨(_, _), trivial, (by repeat (first | exact Sub.nil _ | refine Sub.cons rfl ?_)), (Take.sub (by repeat (first | exact Take.nil | exact Take.all _ | (apply Take.cons; focus (repeat (first | exact Pick.here | apply Pick.next))))))⟩
              exact wp_stop
            exact wp_stop
          refine wp_alt ?_ ?_
          · refine o_storeW siz_53 rfl rfl rfl (by repeat (first | exact Upd.here | apply Upd.next)) rfl rfl ?_
            refine wl_nil ?_
            refine wp_take _ _ ?_
            refine o_loadC (stepC s (.slice psy s.samples.length csy) (.slice pay s.a.length cay) (.slice pby s.b.length cby) (.slice ply s.slots.length cly)) lod_53 rfl (by repeat (first | exact hm2 | apply At.next)) rfl (by decide) (fun j w hj => hg2 j w (by rw [show (i : Int).toNat * 6 + j = i * 6 + j by omega]; exact stepC_at cy j w hj)) ?_
            refine wl_nil ?_
            refine wp_alt ?_ ?_
            · refine o_storeW siz_53 rfl rfl rfl (by repeat (first | exact Upd.here | apply Upd.next)) rfl rfl ?_
              refine wl_nil ?_
              refine wp_done ?_
              exact w_again ⟨(_, _), trivial, (by repeat (first | exact Sub.nil _ | refine Sub.cons rfl ?_)), (Take.sub (by repeat (first | exact Take.nil | exact Take.all _ | (apply Take.cons; focus (repeat (first | exact Pick.here | apply Pick.next))))))⟩
            exact wp_stop
          exact wp_stop
        exact wp_stop
      exact wp_stop
    rintro ⟨n1, n2⟩ -
    refine w_seq ?_
    refine w_seq ?_
    refine w_region rfl ?_
    refine o_fld fld_53_0 rfl rfl ?_
    refine o_load lod_3 rfl (by repeat (first | exact At.here | (refine At.inA ?_; assumption) | apply At.next)) rfl ?_
    refine o_fld fld_53_0 rfl rfl ?_
    refine o_load lod_3 rfl (by repeat (first | exact At.here | (refine At.inA ?_; assumption) | apply At.next)) rfl ?_
    refine o_ne_f rfl rfl (by omega) ?_
    refine o_mov rfl ?_
    refine o_yes rfl rfl ?_
    refine o_fld fld_53_1 rfl rfl ?_
    refine o_yes rfl rfl ?_
    refine o_load lod_3 rfl (by repeat (first | exact At.here | (refine At.inA ?_; assumption) | apply At.next)) rfl ?_
    refine o_yes rfl rfl ?_
    refine o_fld fld_53_1 rfl rfl ?_
    refine o_yes rfl rfl ?_
    refine o_load lod_3 rfl (by repeat (first | exact At.here | (refine At.inA ?_; assumption) | apply At.next)) rfl ?_
    refine o_yes rfl rfl ?_
    refine o_ne_f rfl rfl (by omega) ?_
    refine o_pick_f rfl rfl ?_
    refine o_mov rfl ?_
    refine o_yes rfl rfl ?_
    refine o_fld fld_53_3 rfl rfl ?_
    refine o_yes rfl rfl ?_
    refine o_load lod_34 rfl (by repeat (first | exact At.here | (refine At.inA ?_; assumption) | apply At.next)) rfl ?_
    refine o_yes rfl rfl ?_
    refine o_bts slc_34 (by kernel_rfl : intB Tryd.prog 5 = some .u8) Tryd.underlying9 rfl k2x (by repeat (first | exact Has.here | apply Has.next)) ?_
    refine o_yes rfl rfl ?_
    refine o_fld fld_53_3 rfl rfl ?_
    refine o_yes rfl rfl ?_
    refine o_load lod_34 rfl (by repeat (first | exact At.here | (refine At.inA ?_; assumption) | apply At.next)) rfl ?_
    refine o_yes rfl rfl ?_
    refine o_bts slc_34 (by kernel_rfl : intB Tryd.prog 5 = some .u8) Tryd.underlying9 rfl k2y (by repeat (first | exact Has.here | apply Has.next)) ?_
    refine o_yes rfl rfl ?_
    refine o_neT_f rfl rfl rfl ?_
    refine o_pick_f rfl rfl ?_
    refine o_mov rfl ?_
    refine o_yes rfl rfl ?_
    refine o_fld fld_53_4 rfl rfl ?_
    refine o_yes rfl rfl ?_
    refine o_load lod_34 rfl (by repeat (first | exact At.here | (refine At.inA ?_; assumption) | apply At.next)) rfl ?_
    refine o_yes rfl rfl ?_
    refine o_bts slc_34 (by kernel_rfl : intB Tryd.prog 5 = some .u8) Tryd.underlying9 rfl k3x (by repeat (first | exact Has.here | apply Has.next)) ?_
    refine o_yes rfl rfl ?_
    refine o_fld fld_53_4 rfl rfl ?_
    refine o_yes rfl rfl ?_
    refine o_load lod_34 rfl (by repeat (first | exact At.here | (refine At.inA ?_; assumption) | apply At.next)) rfl ?_
    refine o_yes rfl rfl ?_
    refine o_bts slc_34 (by kernel_rfl : intB Tryd.prog 5 = some .u8) Tryd.underlying9 rfl k3y (by repeat (first | exact Has.here | apply Has.next)) ?_
    refine o_yes rfl rfl ?_
    refine o_neT_f rfl rfl rfl ?_
    refine o_pick_f rfl rfl ?_
    refine o_mov rfl ?_
    refine o_yes rfl rfl ?_
    refine o_fld fld_53_2 rfl rfl ?_
    refine o_yes rfl rfl ?_
    refine o_load lod_33 rfl (by repeat (first | exact At.here | (refine At.inA ?_; assumption) | apply At.next)) rfl ?_
    refine o_yes rfl rfl ?_
    refine o_len slc_33 rfl ?_
    refine o_yes rfl rfl ?_
    refine o_fld fld_53_2 rfl rfl ?_
    refine o_yes rfl rfl ?_
    refine o_load lod_33 rfl (by repeat (first | exact At.here | (refine At.inA ?_; assumption) | apply At.next)) rfl ?_
    refine o_yes rfl rfl ?_
    refine o_len slc_33 rfl ?_
    refine o_yes rfl rfl ?_
    refine o_ne_f rfl rfl (by omega) ?_
    refine o_pick_f rfl rfl ?_
    refine o_mov rfl ?_
    refine o_yes rfl rfl ?_
    refine o_fld fld_53_5 rfl rfl ?_
    refine o_yes rfl rfl ?_
    refine o_load lod_51 rfl (by repeat (first | exact At.here | (refine At.inA ?_; assumption) | apply At.next)) rfl ?_
    refine o_yes rfl rfl ?_
    refine o_len slc_51 rfl ?_
    refine o_yes rfl rfl ?_
    refine o_fld fld_53_5 rfl rfl ?_
    refine o_yes rfl rfl ?_
    refine o_load lod_51 rfl (by repeat (first | exact At.here | (refine At.inA ?_; assumption) | apply At.next)) rfl ?_
    refine o_yes rfl rfl ?_
    refine o_len slc_51 rfl ?_
    refine o_yes rfl rfl ?_
    refine o_ne_f rfl rfl (by omega) ?_
    refine o_pick_f rfl rfl ?_
    refine w_nil ?_
    refine w_if_f rfl ?_
    refine w_skip ?_
    refine w_seq ?_
    refine w_seq ?_
    refine w_region rfl ?_
    refine o_asg rfl ?_
    refine w_nil ?_
    refine w_block ?_
    refine w_loop (X := Nat) (fun k => [(0, v1), (1, v2), (5, .int .i64 i), (6, .pointer (some ⟨n1, 0, none⟩)), (7, .pointer (some ⟨n2, 0, none⟩)), (8, .int .i64 k)]) (fun _ => [[(n1, .cells (stepC s (.slice psx s.samples.length csx) (.slice pax s.a.length cax) (.slice pbx s.b.length cbx) (.slice plx s.slots.length clx)).toArray 53 (0, 0))], [(n2, .cells (stepC s (.slice psy s.samples.length csy) (.slice pay s.a.length cay) (.slice pby s.b.length cby) (.slice ply s.slots.length cly)).toArray 53 (0, 0))], A1, D1, A2, D2]) (fun k => k ≤ s.samples.length) (fun k => s.samples.length - k) 0 (by omega) (by repeat (first | exact Sub.nil _ | refine Sub.cons rfl ?_)) (Take.sub (by repeat (first | exact Take.nil | exact Take.all _ | (apply Take.cons; focus (repeat (first | exact Pick.here | apply Pick.next)))))) ?_
    intro k hk
    refine w_seq ?_
    refine w_seq ?_
    refine w_region rfl ?_
    refine o_mov rfl ?_
    refine o_fld fld_53_2 rfl rfl ?_
    refine o_load lod_33 rfl (by repeat (first | exact At.here | (refine At.inA ?_; assumption) | apply At.next)) rfl ?_
    refine o_len slc_33 rfl ?_
    refine o_lt rfl rfl ?_
    refine w_nil ?_
    refine w_if_d rfl (fun hk1 => ?_) (fun hk1 => ?_)
    · refine w_skip ?_
      refine w_seq ?_
      refine w_block ?_
      refine w_seq ?_
      refine w_any [0, 1, 2, 3, 4, 5, 6, 7, 8, 9, 10] mixed (by kernel_rfl) ?_
      refine o_fld fld_53_2 rfl rfl ?_
      refine o_load lod_33 rfl (by repeat (first | exact At.here | (refine At.inA ?_; assumption) | apply At.next)) rfl ?_
      refine o_mov rfl ?_
      refine o_idxI k1x (by repeat (first | exact Has.here | apply Has.next)) slc_33 rfl rfl ⟨by omega, by omega⟩ (fun bb3 ff3 ar3 TT3 fr3 hm3 hg3 => ?_)
      refine o_load (v := .int .i16 (s.samples.getD (k : Int).toNat 0)) lod_54 rfl hm3 hg3 ?_
      refine o_fld fld_53_2 rfl rfl ?_
      refine o_load lod_33 rfl (by repeat (first | exact At.here | (refine At.inA ?_; assumption) | apply At.next)) rfl ?_
      refine o_mov rfl ?_
      refine o_idxI k1y (by repeat (first | exact Has.here | apply Has.next)) slc_33 rfl rfl ⟨by omega, by omega⟩ (fun bb4 ff4 ar4 TT4 fr4 hm4 hg4 => ?_)
      refine o_load (v := .int .i16 (s.samples.getD (k : Int).toNat 0)) lod_54 rfl hm4 hg4 ?_
      refine o_ne_f rfl rfl (by omega) ?_
      refine w_nil ?_
      refine w_if_f rfl ?_
      refine w_skip ?_
      refine w_inB ?_
      refine w_region rfl ?_
      refine o_mov rfl ?_
      refine o_add rfl rfl (by first | exact IntWalk.i64_in _ (by omega) | rfl) ?_
      refine o_asg rfl ?_
      refine w_nil ?_
      exact w_again ⟨(k + 1), (by omega), (by omega), (by repeat (first | exact Sub.nil _ | refine Sub.cons rfl ?_)), (Take.sub (by repeat (first | exact Take.nil | exact Take.all _ | (apply Take.cons; focus (repeat (first | exact Pick.here | apply Pick.next))))))⟩
    · refine w_exit rfl ?_
      refine w_seq ?_
      refine w_region rfl ?_
      refine o_asg rfl ?_
      refine w_nil ?_
      refine w_block ?_
      refine w_loop (X := Nat) (fun k => [(0, v1), (1, v2), (5, .int .i64 i), (6, .pointer (some ⟨n1, 0, none⟩)), (7, .pointer (some ⟨n2, 0, none⟩)), (9, .int .i64 k)]) (fun _ => [[(n1, .cells (stepC s (.slice psx s.samples.length csx) (.slice pax s.a.length cax) (.slice pbx s.b.length cbx) (.slice plx s.slots.length clx)).toArray 53 (0, 0))], [(n2, .cells (stepC s (.slice psy s.samples.length csy) (.slice pay s.a.length cay) (.slice pby s.b.length cby) (.slice ply s.slots.length cly)).toArray 53 (0, 0))], A1, D1, A2, D2]) (fun k => k ≤ s.slots.length) (fun k => s.slots.length - k) 0 (by omega) (by repeat (first | exact Sub.nil _ | refine Sub.cons rfl ?_)) (Take.sub (by repeat (first | exact Take.nil | exact Take.all _ | (apply Take.cons; focus (repeat (first | exact Pick.here | apply Pick.next)))))) ?_
      intro k hk2
      refine w_seq ?_
      refine w_seq ?_
      refine w_region rfl ?_
      refine o_mov rfl ?_
      refine o_fld fld_53_5 rfl rfl ?_
      refine o_load lod_51 rfl (by repeat (first | exact At.here | (refine At.inA ?_; assumption) | apply At.next)) rfl ?_
      refine o_len slc_51 rfl ?_
      refine o_lt rfl rfl ?_
      refine w_nil ?_
      refine w_if_d rfl (fun hk3 => ?_) (fun hk3 => ?_)
      · obtain ⟨q, hq, -⟩ := get_some (show k < s.slots.length by omega)
        refine w_skip ?_
        refine w_seq ?_
        refine w_block ?_
        refine w_seq ?_
        refine w_any [0, 1, 2, 3, 4, 5, 6, 7, 8, 9, 10] mixed (by kernel_rfl) ?_
        refine o_fld fld_53_5 rfl rfl ?_
        refine o_load lod_51 rfl (by repeat (first | exact At.here | (refine At.inA ?_; assumption) | apply At.next)) rfl ?_
        refine o_mov rfl ?_
        refine o_idxR k4x (by repeat (first | exact Has.here | apply Has.next)) slc_51 rfl rfl ⟨by omega, by omega⟩ (fun bb5 ff5 ar5 TT5 fr5 hm5 hg5 => ?_)
        refine o_loadC (slotC q) lod_55 rfl hm5 rfl (by decide) (fun j w hj => hg5 j w (by rw [show (k : Int).toNat * 4 + j = k * 4 + j by omega]; exact slotsC_get hq j w hj)) ?_
        refine o_fld fld_53_5 rfl rfl ?_
        refine o_load lod_51 rfl (by repeat (first | exact At.here | (refine At.inA ?_; assumption) | apply At.next)) rfl ?_
        refine o_mov rfl ?_
        refine o_idxR k4y (by repeat (first | exact Has.here | apply Has.next)) slc_51 rfl rfl ⟨by omega, by omega⟩ (fun bb6 ff6 ar6 TT6 fr6 hm6 hg6 => ?_)
        refine o_loadC (slotC q) lod_55 rfl hm6 rfl (by decide) (fun j w hj => hg6 j w (by rw [show (k : Int).toNat * 4 + j = k * 4 + j by omega]; exact slotsC_get hq j w hj)) ?_
        refine o_neS_f (slotI q) slot_fields slot_und slot_in slot_guard rfl rfl ?_
        refine w_nil ?_
        refine w_if_f rfl ?_
        refine w_skip ?_
        refine w_inB ?_
        refine w_region rfl ?_
        refine o_mov rfl ?_
        refine o_add rfl rfl (by first | exact IntWalk.i64_in _ (by omega) | rfl) ?_
        refine o_asg rfl ?_
        refine w_nil ?_
        exact w_again ⟨(k + 1), (by omega), (by omega), (by repeat (first | exact Sub.nil _ | refine Sub.cons rfl ?_)), (Take.sub (by repeat (first | exact Take.nil | exact Take.all _ | (apply Take.cons; focus (repeat (first | exact Pick.here | apply Pick.next))))))⟩
      · refine w_exit rfl ?_
        refine w_inB ?_
        refine w_region rfl ?_
        refine o_mov rfl ?_
        refine o_add rfl rfl (by first | exact IntWalk.i64_in _ (by omega) | rfl) ?_
        refine o_asg rfl ?_
        refine w_nil ?_
        exact w_again ⟨(i + 1), (by omega), (by omega), (by repeat (first | exact Sub.nil _ | refine Sub.cons rfl ?_)), (Take.sub (by repeat (first | exact Take.nil | exact Take.all _ | (apply Take.cons; focus (repeat (first | exact Pick.here | apply Pick.next))))))⟩
  · refine w_exit rfl ?_
    refine w_seq ?_
    refine w_region rfl ?_
    refine o_asg rfl ?_
    refine w_nil ?_
    exact w_ret (ret1 rfl rfl) ⟨rfl, rfl⟩ (Take.sub (by repeat (first | exact Take.nil | exact Take.all _ | (apply Take.cons; focus (repeat (first | exact Pick.here | apply Pick.next))))))

end Go.Proofs.YtmcopafdooejjaaDoor
