/- Functions of the program as plain functions, and the contract of each: written by a program of this session over the seat's translation. Conditions: those that each theorem names. -/
import Derived.Test.YtgfdmaohnngpjaaDoorPx0
import Derived.Test.YtgfdmaohnngpjaaDoorPx10
import Derived.Test.YtgfdmaohnngpjaaDoorPx13
import Derived.Test.YtgfdmaohnngpjaaDoorHeadOne
import Derived.Outline
import Derived.StillTailTactics
import Derived.Deep.RegionHeld3
namespace Go.Proofs.YtgfdmaohnngpjaaDoor.P
open Go.RowKit Go.Proofs.YtgfdmaohnngpjaaDoorW.PrintWords Go.Proofs.YtgfdmaohnngpjaaDoorW.PrintLast Go.Proofs.YtgfdmaohnngpjaaDoorW.PrintMore
attribute [local go_sem] max2_int min2_int max_two min_two max_three min_three max_four min_four   -- for this text's walks alone
set_option linter.unusedVariables false
set_option linter.unusedSimpArgs false

/-! ### head_Response: function 11: given -/
def nT : List UInt8 := [58, 115, 116, 97, 116, 117, 115]
/-- an answer out of what its head tells -/
def respT (h : Option (Told × ByteArray × Int)) : Int × ByteArray × Int × Int :=
  match h with
  | none => (0, ⟨#[]⟩, 0, 100)
  | some (T, md, ln) =>
    if T.ps = 1 ∧ T.ft nT = 1 then
      if (decimal (T.fv nT) 599).2 = true ∧ ¬ (decimal (T.fv nT) 599).1 < 100 then ((decimal (T.fv nT) 599).1, md, ln, 0) else (0, ⟨#[]⟩, 0, 100)
    else (0, ⟨#[]⟩, 0, 100)
def head_Response.f (l0 : List S32) : Option (Int × ByteArray × Int × Int) :=
  if (∀ x ∈ l0, okS x) ∧ l0.length ≤ 1000000000 then some (respT (headT l0)) else none
section
variable {w W : World} {g B : Nat} {t : TypeId} {u0 u1 u2 : Value}
theorem row3 (h : W.heap[g]? = some (.cells #[u0, u1, u2] t (0, 0))) : W.cell? ⟨g, 0, none⟩ = some u0 ∧ W.cell? ⟨g, 1, none⟩ = some u1 ∧ W.cell? ⟨g, 2, none⟩ = some u2 :=
  ⟨blk_cell h 0, blk_cell h 1, blk_cell h 2⟩
theorem put3 (h : W.heap[g]? = some (.cells #[u0, u1, u2] t (0, 0))) (v0 v1 v2 : Value) :
    (((W.setCell ⟨g, 0, none⟩ v0).setCell ⟨g, 1, none⟩ v1).setCell ⟨g, 2, none⟩ v2).heap[g]? = some (.cells #[v0, v1, v2] t (0, 0)) :=
  blk_put (blk_put (blk_put h 0 v0 rfl) 1 v1 rfl) 2 v2 rfl
theorem below3 (h : Below B w W) (hB : B ≤ g) (v0 v1 v2 : Value) :
    Below B w (((W.setCell ⟨g, 0, none⟩ v0).setCell ⟨g, 1, none⟩ v1).setCell ⟨g, 2, none⟩ v2) :=
  ((h.setCell (p := ⟨g, 0, none⟩) hB v0).setCell (p := ⟨g, 1, none⟩) hB v1).setCell (p := ⟨g, 2, none⟩) hB v2
end
set_option maxRecDepth 100000
set_option maxHeartbeats 4000000 in
theorem head_Response.calls (A0 : Option Addr) (c0 : Nat) (l0 : List S32) (r1 : Int) (r2 : ByteArray) (r3 r4 : Int) (w : World) (hr0 : Kd.C k32 w A0 l0.length l0) (hc0 : l0.length ≤ c0) (h : head_Response.f l0 = some (r1, r2, r3, r4)) :
    Calls Tryd.prog 11 #[.slice A0 l0.length c0] w fun e w' => e = .returned (.tuple #[.agg #[.int .i64 r1, .string r2, .int .i64 r3], .int .i64 r4]) ∧ Below w.heap.size w w' := by
  unfold head_Response.f at h
  split at h
  · rename_i hok
    have h := Option.some.inj h
    cases hh : headT l0 with
    | none =>
      rw [hh] at h
      unfold respT at h
      simp only [Prod.mk.injEq] at h
      obtain ⟨rfl, rfl, rfl, rfl⟩ := h
      have HC := Lib.hid (fun W hr => head_calls A0 c0 l0 W hr hc0 hok.1 hok.2 _ hh)
      have HR := Lib.hid hr0
      clear hh hok hr0 hc0
      go_enter Tryd.func11, Tryd.ntmps11
      go_wp2_with (go_at_call 12; refine (HC.out _ (Kd.C_below HR.out (below_alloc (Below.refl _ _) _))).mono ?_; rintro e w2 ⟨hb2, rfl⟩; have KB := Lib.hid (blk_below (blk_new w _) hb2); have HB := Lib.hid (below_step (below_alloc (Below.refl _ w) _) hb2); clear hb2; obtain ⟨c0, c1, c2⟩ := row3 KB.out; have cf := fun i => blk_frozen KB.out i)
      refine bodyPost_ret (results_ct rfl _ _ w.heap.size 37 #[.int .i64 0, .string ⟨#[]⟩, .int .i64 0] (0, 0) _ rfl (put3 KB.out _ _ _) Tryd.underlying37 rfl (by kernel_rfl)) rfl ?_
      exact ⟨rfl, below3 HB.out (Nat.le_refl _) _ _ _⟩
    | some q =>
      obtain ⟨T, md, ln⟩ := q
      rw [hh] at h
      unfold respT at h
      simp only at h
      have HC := Lib.hid (fun W hr => head_calls A0 c0 l0 W hr hc0 hok.1 hok.2 _ hh)
      have HR := Lib.hid hr0
      have HH := Lib.hid h
      clear hh hok hr0 hc0 h
      generalize hps : T.ps = ps at HH
      generalize hcT : T.ft nT = cT at HH
      by_cases h1 : ps = 1
      · by_cases h2 : cT = 1
        · have d1 : (ps != 1) = false := by simp [h1]
          have d2 : (cT != 1) = false := by simp [h2]
          have h := HH.out
          rw [if_pos ⟨h1, h2⟩] at h
          generalize hvT : T.fv nT = vT at h
          generalize hq : decimal vT 599 = q at h
          obtain ⟨q1, q2⟩ := q
          have HD := Lib.hid (show text_Decimal.f vT 599 = some (q1, q2) from congrArg some hq)
          clear hq HH
          cases q2 with
          | false =>
            rw [if_neg (fun q => by cases q.1)] at h
            simp only [Prod.mk.injEq] at h
            obtain ⟨rfl, rfl, rfl, rfl⟩ := h
            go_enter Tryd.func11, Tryd.ntmps11
            go_wp2_with (first | (go_at_call 12; refine (HC.out _ (Kd.C_below HR.out (below_alloc (Below.refl _ _) _))).mono ?_; rintro e w2 ⟨hb2, B, bm, bv, rfl, ht⟩; have KB := Lib.hid (blk_below (blk_new w _) hb2); have HB := Lib.hid (below_step (below_alloc (Below.refl _ w) _) hb2); have HT := Lib.hid ht; clear hb2 ht; obtain ⟨c0, c1, c2⟩ := row3 KB.out; have cf := fun i => blk_frozen KB.out i; obtain ⟨t0, t1, t2, t3⟩ := HT.out.cells; rw [hps] at t2; have lT : (Instr.lookup 45 (.map (some bm)) (.string ⟨#[58, 115, 116, 97, 116, 117, 115]⟩) false).run Tryd.prog w2 = .ok (.int .i64 cT) w2 := (by rw [← hcT]; exact HT.out.mi.lookup Tryd.underlying9 Tryd.underlying45 Tryd.underlying3 (zeroI _) ⟨nT.toArray⟩ (by decide)); have lv : (Instr.lookup 46 (.map (some bv)) (.string ⟨#[58, 115, 116, 97, 116, 117, 115]⟩) false).run Tryd.prog w2 = .ok (.string vT) w2 := (by rw [← hvT]; exact (HT.out.ms.lookup Tryd.underlying9 Tryd.underlying46 Tryd.underlying9 (zeroS _) ⟨nT.toArray⟩ (by decide)).1)) | (go_at_call 14; refine (text_Decimal.calls _ _ _ _ _ HD.out).mono ?_; rintro e w3 ⟨rfl, hb3⟩; replace KB := Lib.hid (blk_below KB.out hb3); replace HT := Lib.hid (HT.out.below rfl hb3); replace HB := Lib.hid (below_step HB.out hb3); clear hb3 c0 c1 c2 cf t0 t1 t2 t3 lT lv; obtain ⟨c0, c1, c2⟩ := row3 KB.out; have cf := fun i => blk_frozen KB.out i; obtain ⟨t0, t1, t2, t3⟩ := HT.out.cells; obtain ⟨z1, z2, z3, z4⟩ := HT.out.cells2))
            refine bodyPost_ret (results_ct rfl _ _ w.heap.size 37 #[.int .i64 0, .string ⟨#[]⟩, .int .i64 0] (0, 0) _ rfl (put3 KB.out _ _ _) Tryd.underlying37 rfl (by kernel_rfl)) rfl ?_
            exact ⟨rfl, below3 HB.out (Nat.le_refl _) _ _ _⟩
          | true =>
            by_cases h3 : q1 < 100
            · rw [if_neg (fun q => q.2 h3)] at h
              simp only [Prod.mk.injEq] at h
              obtain ⟨rfl, rfl, rfl, rfl⟩ := h
              have d3 : decide (q1 < 100) = true := decide_eq_true h3
              go_enter Tryd.func11, Tryd.ntmps11
              go_wp2_with (first | (go_at_call 12; refine (HC.out _ (Kd.C_below HR.out (below_alloc (Below.refl _ _) _))).mono ?_; rintro e w2 ⟨hb2, B, bm, bv, rfl, ht⟩; have KB := Lib.hid (blk_below (blk_new w _) hb2); have HB := Lib.hid (below_step (below_alloc (Below.refl _ w) _) hb2); have HT := Lib.hid ht; clear hb2 ht; obtain ⟨c0, c1, c2⟩ := row3 KB.out; have cf := fun i => blk_frozen KB.out i; obtain ⟨t0, t1, t2, t3⟩ := HT.out.cells; rw [hps] at t2; have lT : (Instr.lookup 45 (.map (some bm)) (.string ⟨#[58, 115, 116, 97, 116, 117, 115]⟩) false).run Tryd.prog w2 = .ok (.int .i64 cT) w2 := (by rw [← hcT]; exact HT.out.mi.lookup Tryd.underlying9 Tryd.underlying45 Tryd.underlying3 (zeroI _) ⟨nT.toArray⟩ (by decide)); have lv : (Instr.lookup 46 (.map (some bv)) (.string ⟨#[58, 115, 116, 97, 116, 117, 115]⟩) false).run Tryd.prog w2 = .ok (.string vT) w2 := (by rw [← hvT]; exact (HT.out.ms.lookup Tryd.underlying9 Tryd.underlying46 Tryd.underlying9 (zeroS _) ⟨nT.toArray⟩ (by decide)).1)) | (go_at_call 14; refine (text_Decimal.calls _ _ _ _ _ HD.out).mono ?_; rintro e w3 ⟨rfl, hb3⟩; replace KB := Lib.hid (blk_below KB.out hb3); replace HT := Lib.hid (HT.out.below rfl hb3); replace HB := Lib.hid (below_step HB.out hb3); clear hb3 c0 c1 c2 cf t0 t1 t2 t3 lT lv; obtain ⟨c0, c1, c2⟩ := row3 KB.out; have cf := fun i => blk_frozen KB.out i; obtain ⟨t0, t1, t2, t3⟩ := HT.out.cells; obtain ⟨z1, z2, z3, z4⟩ := HT.out.cells2))
              refine bodyPost_ret (results_ct rfl _ _ w.heap.size 37 #[.int .i64 0, .string ⟨#[]⟩, .int .i64 0] (0, 0) _ rfl (put3 KB.out _ _ _) Tryd.underlying37 rfl (by kernel_rfl)) rfl ?_
              exact ⟨rfl, below3 HB.out (Nat.le_refl _) _ _ _⟩
            · rw [if_pos ⟨rfl, h3⟩] at h
              simp only [Prod.mk.injEq] at h
              obtain ⟨rfl, rfl, rfl, rfl⟩ := h
              have d3 : decide (q1 < 100) = false := decide_eq_false h3
              go_enter Tryd.func11, Tryd.ntmps11
              go_wp2_with (first | (go_at_call 12; refine (HC.out _ (Kd.C_below HR.out (below_alloc (Below.refl _ _) _))).mono ?_; rintro e w2 ⟨hb2, B, bm, bv, rfl, ht⟩; have KB := Lib.hid (blk_below (blk_new w _) hb2); have HB := Lib.hid (below_step (below_alloc (Below.refl _ w) _) hb2); have HT := Lib.hid ht; clear hb2 ht; obtain ⟨c0, c1, c2⟩ := row3 KB.out; have cf := fun i => blk_frozen KB.out i; obtain ⟨t0, t1, t2, t3⟩ := HT.out.cells; rw [hps] at t2; have lT : (Instr.lookup 45 (.map (some bm)) (.string ⟨#[58, 115, 116, 97, 116, 117, 115]⟩) false).run Tryd.prog w2 = .ok (.int .i64 cT) w2 := (by rw [← hcT]; exact HT.out.mi.lookup Tryd.underlying9 Tryd.underlying45 Tryd.underlying3 (zeroI _) ⟨nT.toArray⟩ (by decide)); have lv : (Instr.lookup 46 (.map (some bv)) (.string ⟨#[58, 115, 116, 97, 116, 117, 115]⟩) false).run Tryd.prog w2 = .ok (.string vT) w2 := (by rw [← hvT]; exact (HT.out.ms.lookup Tryd.underlying9 Tryd.underlying46 Tryd.underlying9 (zeroS _) ⟨nT.toArray⟩ (by decide)).1)) | (go_at_call 14; refine (text_Decimal.calls _ _ _ _ _ HD.out).mono ?_; rintro e w3 ⟨rfl, hb3⟩; replace KB := Lib.hid (blk_below KB.out hb3); replace HT := Lib.hid (HT.out.below rfl hb3); replace HB := Lib.hid (below_step HB.out hb3); clear hb3 c0 c1 c2 cf t0 t1 t2 t3 lT lv; obtain ⟨c0, c1, c2⟩ := row3 KB.out; have cf := fun i => blk_frozen KB.out i; obtain ⟨t0, t1, t2, t3⟩ := HT.out.cells; obtain ⟨z1, z2, z3, z4⟩ := HT.out.cells2))
              go_region
              all_goals
                go_wp2
                refine bodyPost_ret (results_ct rfl _ _ w.heap.size 37 #[.int .i64 q1, .string md, .int .i64 ln] (0, 0) _ rfl (put3 KB.out _ _ _) Tryd.underlying37 rfl (by kernel_rfl)) rfl ?_
                exact ⟨rfl, (below3 HB.out (Nat.le_refl _) _ _ _).drew⟩
        · have d1 : (ps != 1) = false := by simp [h1]
          have d2 : (cT != 1) = true := by simp [h2]
          have h := HH.out
          rw [if_neg (fun q => h2 q.2)] at h
          simp only [Prod.mk.injEq] at h
          obtain ⟨rfl, rfl, rfl, rfl⟩ := h
          go_enter Tryd.func11, Tryd.ntmps11
          go_wp2_with (go_at_call 12; refine (HC.out _ (Kd.C_below HR.out (below_alloc (Below.refl _ _) _))).mono ?_; rintro e w2 ⟨hb2, B, bm, bv, rfl, ht⟩; have KB := Lib.hid (blk_below (blk_new w _) hb2); have HB := Lib.hid (below_step (below_alloc (Below.refl _ w) _) hb2); have HT := Lib.hid ht; clear hb2 ht; obtain ⟨c0, c1, c2⟩ := row3 KB.out; have cf := fun i => blk_frozen KB.out i; obtain ⟨t0, t1, t2, t3⟩ := HT.out.cells; rw [hps] at t2; have lT : (Instr.lookup 45 (.map (some bm)) (.string ⟨#[58, 115, 116, 97, 116, 117, 115]⟩) false).run Tryd.prog w2 = .ok (.int .i64 cT) w2 := (by rw [← hcT]; exact HT.out.mi.lookup Tryd.underlying9 Tryd.underlying45 Tryd.underlying3 (zeroI _) ⟨nT.toArray⟩ (by decide)))
          refine bodyPost_ret (results_ct rfl _ _ w.heap.size 37 #[.int .i64 0, .string ⟨#[]⟩, .int .i64 0] (0, 0) _ rfl (put3 KB.out _ _ _) Tryd.underlying37 rfl (by kernel_rfl)) rfl ?_
          exact ⟨rfl, below3 HB.out (Nat.le_refl _) _ _ _⟩
      · have d1 : (ps != 1) = true := by simp [h1]
        have h := HH.out
        rw [if_neg (fun q => h1 q.1)] at h
        simp only [Prod.mk.injEq] at h
        obtain ⟨rfl, rfl, rfl, rfl⟩ := h
        go_enter Tryd.func11, Tryd.ntmps11
        go_wp2_with (go_at_call 12; refine (HC.out _ (Kd.C_below HR.out (below_alloc (Below.refl _ _) _))).mono ?_; rintro e w2 ⟨hb2, B, bm, bv, rfl, ht⟩; have KB := Lib.hid (blk_below (blk_new w _) hb2); have HB := Lib.hid (below_step (below_alloc (Below.refl _ w) _) hb2); have HT := Lib.hid ht; clear hb2 ht; obtain ⟨c0, c1, c2⟩ := row3 KB.out; have cf := fun i => blk_frozen KB.out i; obtain ⟨t0, t1, t2, t3⟩ := HT.out.cells; rw [hps] at t2; have lT : (Instr.lookup 45 (.map (some bm)) (.string ⟨#[58, 115, 116, 97, 116, 117, 115]⟩) false).run Tryd.prog w2 = .ok (.int .i64 cT) w2 := (by rw [← hcT]; exact HT.out.mi.lookup Tryd.underlying9 Tryd.underlying45 Tryd.underlying3 (zeroI _) ⟨nT.toArray⟩ (by decide)))
        refine bodyPost_ret (results_ct rfl _ _ w.heap.size 37 #[.int .i64 0, .string ⟨#[]⟩, .int .i64 0] (0, 0) _ rfl (put3 KB.out _ _ _) Tryd.underlying37 rfl (by kernel_rfl)) rfl ?_
        exact ⟨rfl, below3 HB.out (Nat.le_refl _) _ _ _⟩
  · cases h

end Go.Proofs.YtgfdmaohnngpjaaDoor.P
