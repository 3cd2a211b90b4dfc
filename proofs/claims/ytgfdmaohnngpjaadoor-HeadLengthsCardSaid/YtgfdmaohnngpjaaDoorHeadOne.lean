import Derived.Test.YtgfdmaohnngpjaaDoorMaps
import Derived.Test.YtgfdmaohnngpjaaDoorWWords
import Derived.WalkKit
import Derived.StillTailTactics
import Derived.Deep.QuietTactic
import Derived.BigQuiet
import Derived.Outline
import Derived.Lib.Strings
import Derived.Lib.IndexAny
import Derived.Lib.Hide
import Derived.KernelRfl
namespace Go.Proofs.YtgfdmaohnngpjaaDoor.P
open Go.RowKit Go.Proofs.YtgfdmaohnngpjaaDoorW.PrintWords
set_option linter.unusedVariables false
structure Told where
  ft : List UInt8 → Int
  fv : List UInt8 → ByteArray
  ps : Int
structure IsTold (w : World) (base B bm bv n : Nat) (T : Told) (md : ByteArray) (ln : Int) : Prop where
  blk : w.heap[B]? = some (.cells #[.map (some bm), .map (some bv), .int .i64 T.ps, .string md, .int .i64 ln] 48 (0, 0))
  mi : MapI Tryd.prog 9 3 w bm n T.ft
  ms : MapS Tryd.prog 9 9 w bv n T.fv
  b1 : base ≤ B
  b2 : base ≤ bm
  b3 : base ≤ bv
  n1 : B ≠ bm
  n2 : B ≠ bv
  n3 : bm ≠ bv
  bi : ∀ s, 0 ≤ T.ft s ∧ T.ft s ≤ n
  bp : 0 ≤ T.ps ∧ T.ps ≤ n
theorem IsTold.below {w w' : World} {base B bm bv n : Nat} {T : Told} {md : ByteArray} {ln : Int} (h : IsTold w base B bm bv n T md ln) {b : Nat} (he : b = w.heap.size) (hb : Below b w w') : IsTold w' base B bm bv n T md ln := by
  subst he
  exact { h with blk := blk_below h.blk hb, mi := h.mi.below hb h.mi.lt, ms := h.ms.below hb h.ms.lt }
theorem field_cells {w : World} {g : Nat} {nm v : ByteArray} {nv : Bool} (h : w.heap[g]? = some (.cells #[.string nm, .string v, .bool nv] 32 (0, 0))) :
    w.cell? ⟨g, 0, none⟩ = some (.string nm) ∧ w.cell? ⟨g, 1, none⟩ = some (.string v) ∧ w.cell? ⟨g, 2, none⟩ = some (.bool nv) := ⟨blk_cell h 0, blk_cell h 1, blk_cell h 2⟩
theorem IsTold.cells {w : World} {base B bm bv n : Nat} {T : Told} {md : ByteArray} {ln : Int} (h : IsTold w base B bm bv n T md ln) :
    w.cell? ⟨B, 0, none⟩ = some (.map (some bm)) ∧ w.cell? ⟨B, 1, none⟩ = some (.map (some bv)) ∧ w.cell? ⟨B, 2, none⟩ = some (.int .i64 T.ps) ∧ w.frozen? ⟨B, 2, none⟩ = false := ⟨blk_cell h.blk 0, blk_cell h.blk 1, blk_cell h.blk 2, blk_frozen h.blk 2⟩
/-- the pseudo-field's mark -/
def pseudoB (nm : ByteArray) : Bool := !nm.toList.isEmpty && (bt nm 0 == 58)
theorem sz_of {nm : ByteArray} (h : nm.toList.isEmpty = false) : 0 < nm.size := by
  rw [Lib.toList_data] at h
  have hl : nm.data.toList.length = nm.size := by simp
  cases hL : nm.data.toList with
  | nil => rw [hL] at h; cases h
  | cons a b => rw [← hl, hL]; simp
theorem nil_of {nm : ByteArray} {b : Bool} (h : nm.toList.isEmpty = b) : (nm.toList = []) = (b = true) := by rw [← h]; simp
def CL : ByteArray := ⟨#[99, 111, 110, 116, 101, 110, 116, 45, 108, 101, 110, 103, 116, 104]⟩
def CT : ByteArray := ⟨#[99, 111, 110, 116, 101, 110, 116, 45, 116, 121, 112, 101]⟩
section
variable (nm v : ByteArray) (nv : Bool) (others : Int) (w : World) (base B : Nat)
/-- not right -/
theorem one_bad (hr : ∀ W, Calls Tryd.prog 18 #[.agg #[.string nm, .string v, .bool nv]] W fun e w' => e = .returned (.bool false) ∧ Below W.heap.size W w') :
    Calls Tryd.prog 15 #[.pointer (some ⟨B, 0, none⟩), .agg #[.string nm, .string v, .bool nv], .int .i64 others] w fun e w' => e = .returned (.bool false) ∧ Below w.heap.size w w' := by
  have hbt : ∀ h : 0 < nm.size, ((nm[0]'h).toNat : Int) = bt nm 0 := bt_at nm 0
  cases he : nm.toList.isEmpty with
  | true =>
    have hnl := nil_of he
    go_enter Tryd.func15, Tryd.ntmps15
    go_wp2_with (go_at_call 18; refine (hr _).mono ?_; rintro e w2 ⟨rfl, hb2⟩)
    go_ret
    exact ⟨rfl, by refine below_step ?_ hb2; exact (Below.refl _ _).alloc (Nat.le_refl _) _⟩
  | false =>
    have hnl := nil_of he
    have hsz := sz_of he
    cases h58 : (bt nm 0 == 58) with
    | true =>
      go_enter Tryd.func15, Tryd.ntmps15
      go_wp2_with (go_at_call 18; refine (hr _).mono ?_; rintro e w2 ⟨rfl, hb2⟩)
      go_ret
      exact ⟨rfl, by refine below_step ?_ hb2; exact (Below.refl _ _).alloc (Nat.le_refl _) _⟩
    | false =>
      go_enter Tryd.func15, Tryd.ntmps15
      go_wp2_with (go_at_call 18; refine (hr _).mono ?_; rintro e w2 ⟨rfl, hb2⟩)
      go_ret
      exact ⟨rfl, by refine below_step ?_ hb2; exact (Below.refl _ _).alloc (Nat.le_refl _) _⟩
theorem zeroI (w : World) : (zeroValue 3).run Tryd.prog w = .ok (.int .i64 0) w := by kernel_rfl
theorem zeroS (w : World) : (zeroValue 9).run Tryd.prog w = .ok (.string ⟨#[]⟩) w := by kernel_rfl
theorem wf_of {n : Int} (h0 : -9223372036854775808 ≤ n) (h1 : n ≤ 9223372036854775807) : (Lit.int .i64 n).wf = true := by simp [Lit.wf, IntKind.min, IntKind.max, IntKind.signed, IntKind.bits]; omega
theorem below_weaken' {B B' : Nat} {w w' : World} (h : Below B w w') (hB : B' ≤ B) : Below B' w w' := h.mono hB
theorem MapI.drew {P : Program} {kt et : TypeId} {w : World} {b n : Nat} {f} (h : MapI P kt et w b n f) : MapI P kt et w.drew b n f := h
theorem MapS.drew {P : Program} {kt et : TypeId} {w : World} {b n : Nat} {f} (h : MapS P kt et w b n f) : MapS P kt et w.drew b n f := h
theorem bi_upd {f : List UInt8 → Int} {n : Nat} {k : List UInt8} {v : Int} (h : ∀ s, 0 ≤ f s ∧ f s ≤ ((n : Nat) : Int)) (h0 : 0 ≤ v) (h1 : v ≤ ((n + 1 : Nat) : Int)) : ∀ s, 0 ≤ upd f k v s ∧ upd f k v s ≤ ((n + 1 : Nat) : Int) := by
  intro s
  unfold upd
  split
  · exact ⟨h0, h1⟩
  · have := h s; omega
theorem str_ne {a b : ByteArray} (h : a ≠ b) : (a.toList == b.data.toList) = false := by
  rw [beq_eq_false_iff_ne, Lib.toList_data]
  intro e
  exact h (ba_ext a b e)
/-- barred -/
theorem one_barred (hr : ∀ W, Calls Tryd.prog 18 #[.agg #[.string nm, .string v, .bool nv]] W fun e w' => e = .returned (.bool true) ∧ Below W.heap.size W w') (hd : ∀ W, Calls Tryd.prog 19 #[.agg #[.string nm, .string v, .bool nv]] W fun e w' => e = .returned (.bool true) ∧ Below W.heap.size W w') : Calls Tryd.prog 15 #[.pointer (some ⟨B, 0, none⟩), .agg #[.string nm, .string v, .bool nv], .int .i64 others] w fun e w' => e = .returned (.bool false) ∧ Below w.heap.size w w' := by
  have hbt : ∀ h : 0 < nm.size, ((nm[0]'h).toNat : Int) = bt nm 0 := bt_at nm 0
  cases he : nm.toList.isEmpty with
  | true =>
    have hnl := nil_of he
    go_enter Tryd.func15, Tryd.ntmps15
    go_wp2_with (first | (go_at_call 18; refine (hr _).mono ?_; rintro e w2 ⟨rfl, hb2⟩; have kb := Lib.hid (blk_below (blk_new _ _) hb2); have HB := Lib.hid (below_step ((Below.refl _ w).alloc (Nat.le_refl _) _) hb2); clear hb2; obtain ⟨f0, f1, f2⟩ := field_cells kb.out) | (go_at_call 19; refine (hd _).mono ?_; rintro e w3 ⟨rfl, hb3⟩; have kc := Lib.hid (blk_below kb.out hb3); have HB3 := Lib.hid (below_step HB.out hb3); clear hb3; obtain ⟨g0, g1, g2⟩ := field_cells kc.out))
    go_ret
    exact ⟨rfl, HB3.out⟩
  | false =>
    have hnl := nil_of he
    have hsz := sz_of he
    cases h58 : (bt nm 0 == 58) with
    | true =>
      go_enter Tryd.func15, Tryd.ntmps15
      go_wp2_with (first | (go_at_call 18; refine (hr _).mono ?_; rintro e w2 ⟨rfl, hb2⟩; have kb := Lib.hid (blk_below (blk_new _ _) hb2); have HB := Lib.hid (below_step ((Below.refl _ w).alloc (Nat.le_refl _) _) hb2); clear hb2; obtain ⟨f0, f1, f2⟩ := field_cells kb.out) | (go_at_call 19; refine (hd _).mono ?_; rintro e w3 ⟨rfl, hb3⟩; have kc := Lib.hid (blk_below kb.out hb3); have HB3 := Lib.hid (below_step HB.out hb3); clear hb3; obtain ⟨g0, g1, g2⟩ := field_cells kc.out))
      go_ret
      exact ⟨rfl, HB3.out⟩
    | false =>
      go_enter Tryd.func15, Tryd.ntmps15
      go_wp2_with (first | (go_at_call 18; refine (hr _).mono ?_; rintro e w2 ⟨rfl, hb2⟩; have kb := Lib.hid (blk_below (blk_new _ _) hb2); have HB := Lib.hid (below_step ((Below.refl _ w).alloc (Nat.le_refl _) _) hb2); clear hb2; obtain ⟨f0, f1, f2⟩ := field_cells kb.out) | (go_at_call 19; refine (hd _).mono ?_; rintro e w3 ⟨rfl, hb3⟩; have kc := Lib.hid (blk_below kb.out hb3); have HB3 := Lib.hid (below_step HB.out hb3); clear hb3; obtain ⟨g0, g1, g2⟩ := field_cells kc.out))
      go_ret
      exact ⟨rfl, HB3.out⟩
/-- a pseudo-field behind others -/
theorem one_late (hr : ∀ W, Calls Tryd.prog 18 #[.agg #[.string nm, .string v, .bool nv]] W fun e w' => e = .returned (.bool true) ∧ Below W.heap.size W w') (hd : ∀ W, Calls Tryd.prog 19 #[.agg #[.string nm, .string v, .bool nv]] W fun e w' => e = .returned (.bool false) ∧ Below W.heap.size W w') (hp : pseudoB nm = true) (ho : 0 < others) : Calls Tryd.prog 15 #[.pointer (some ⟨B, 0, none⟩), .agg #[.string nm, .string v, .bool nv], .int .i64 others] w fun e w' => e = .returned (.bool false) ∧ Below w.heap.size w w' := by
  have hbt : ∀ h : 0 < nm.size, ((nm[0]'h).toNat : Int) = bt nm 0 := bt_at nm 0
  unfold pseudoB at hp
  rw [Bool.and_eq_true] at hp
  obtain ⟨he, h58⟩ := hp
  have he : nm.toList.isEmpty = false := by simpa using he
  have hnl := nil_of he
  have hsz := sz_of he
  have ho1 : decide (0 < others) = true := decide_eq_true ho
  go_enter Tryd.func15, Tryd.ntmps15
  go_wp2_with (first | (go_at_call 18; refine (hr _).mono ?_; rintro e w2 ⟨rfl, hb2⟩; have kb := Lib.hid (blk_below (blk_new _ _) hb2); have HB := Lib.hid (below_step ((Below.refl _ w).alloc (Nat.le_refl _) _) hb2); clear hb2; obtain ⟨f0, f1, f2⟩ := field_cells kb.out) | (go_at_call 19; refine (hd _).mono ?_; rintro e w3 ⟨rfl, hb3⟩; have kc := Lib.hid (blk_below kb.out hb3); have HB3 := Lib.hid (below_step HB.out hb3); clear hb3; obtain ⟨g0, g1, g2⟩ := field_cells kc.out))
  go_ret
  exact ⟨rfl, HB3.out⟩
/-- a field of which nothing is told -/
theorem one_plain (hr : ∀ W, Calls Tryd.prog 18 #[.agg #[.string nm, .string v, .bool nv]] W fun e w' => e = .returned (.bool true) ∧ Below W.heap.size W w') (hd : ∀ W, Calls Tryd.prog 19 #[.agg #[.string nm, .string v, .bool nv]] W fun e w' => e = .returned (.bool false) ∧ Below W.heap.size W w') (hp : pseudoB nm = false) (h1 : nm ≠ CL) (h2 : nm ≠ CT) : Calls Tryd.prog 15 #[.pointer (some ⟨B, 0, none⟩), .agg #[.string nm, .string v, .bool nv], .int .i64 others] w fun e w' => e = .returned (.bool true) ∧ Below w.heap.size w w' := by
  have hq1 := str_ne h1
  have hq2 := str_ne h2
  unfold CL at hq1
  unfold CT at hq2
  simp only at hq1 hq2
  have hbt : ∀ h : 0 < nm.size, ((nm[0]'h).toNat : Int) = bt nm 0 := bt_at nm 0
  cases he : nm.toList.isEmpty with
  | true =>
    have hnl := nil_of he
    go_enter Tryd.func15, Tryd.ntmps15
    go_wp2_with (first | (go_at_call 18; refine (hr _).mono ?_; rintro e w2 ⟨rfl, hb2⟩; have kb := Lib.hid (blk_below (blk_new _ _) hb2); have HB := Lib.hid (below_step ((Below.refl _ w).alloc (Nat.le_refl _) _) hb2); clear hb2; obtain ⟨f0, f1, f2⟩ := field_cells kb.out) | (go_at_call 19; refine (hd _).mono ?_; rintro e w3 ⟨rfl, hb3⟩; have kc := Lib.hid (blk_below kb.out hb3); have HB3 := Lib.hid (below_step HB.out hb3); clear hb3; obtain ⟨g0, g1, g2⟩ := field_cells kc.out))
    go_ret
    exact ⟨rfl, HB3.out⟩
  | false =>
    have hnl := nil_of he
    have hsz := sz_of he
    have h58 : (bt nm 0 == 58) = false := by unfold pseudoB at hp; rw [he] at hp; simpa using hp
    go_enter Tryd.func15, Tryd.ntmps15
    go_wp2_with (first | (go_at_call 18; refine (hr _).mono ?_; rintro e w2 ⟨rfl, hb2⟩; have kb := Lib.hid (blk_below (blk_new _ _) hb2); have HB := Lib.hid (below_step ((Below.refl _ w).alloc (Nat.le_refl _) _) hb2); clear hb2; obtain ⟨f0, f1, f2⟩ := field_cells kb.out) | (go_at_call 19; refine (hd _).mono ?_; rintro e w3 ⟨rfl, hb3⟩; have kc := Lib.hid (blk_below kb.out hb3); have HB3 := Lib.hid (below_step HB.out hb3); clear hb3; obtain ⟨g0, g1, g2⟩ := field_cells kc.out))
    go_ret
    exact ⟨rfl, HB3.out⟩
set_option maxRecDepth 100000 in
/-- a pseudo-field that is told -/
theorem one_pseudo (hr : ∀ W, Calls Tryd.prog 18 #[.agg #[.string nm, .string v, .bool nv]] W fun e w' => e = .returned (.bool true) ∧ Below W.heap.size W w') (hd : ∀ W, Calls Tryd.prog 19 #[.agg #[.string nm, .string v, .bool nv]] W fun e w' => e = .returned (.bool false) ∧ Below W.heap.size W w') (hp : pseudoB nm = true) (ho : ¬ 0 < others) (bm bv n : Nat) (T : Told) (md : ByteArray) (ln : Int) (hn : n < 1000000000000) (hbase : base ≤ w.heap.size) (hs : nm.size ≤ maxLen) (hs2 : v.size ≤ maxLen) (H : Hid (IsTold w base B bm bv n T md ln)) :
    Calls Tryd.prog 15 #[.pointer (some ⟨B, 0, none⟩), .agg #[.string nm, .string v, .bool nv], .int .i64 others] w fun e w' => e = .returned (.bool (T.ft nm.data.toList + 1 == 1)) ∧ Below base w w' ∧ IsTold w' base B bm bv (n + 3) ⟨upd T.ft nm.data.toList (T.ft nm.data.toList + 1), upd T.fv nm.data.toList v, T.ps + 1⟩ md ln := by
  have hbt : ∀ h : 0 < nm.size, ((nm[0]'h).toNat : Int) = bt nm 0 := bt_at nm 0
  unfold pseudoB at hp
  rw [Bool.and_eq_true] at hp
  obtain ⟨he, h58⟩ := hp
  have he : nm.toList.isEmpty = false := by simpa using he
  have hnl := nil_of he
  have hsz := sz_of he
  have ho1 : decide (0 < others) = false := decide_eq_false ho
  have hps0 : 0 ≤ T.ps := H.out.bp.1
  have hps1 : T.ps ≤ 1000000000000 := by have := H.out.bp.2; omega
  have hBw : (B = w.heap.size) = False := eq_false (Nat.ne_of_lt (blk_lt H.out.blk))
  go_enter Tryd.func15, Tryd.ntmps15
  go_wp2_with (first | (go_at_call 18; refine (hr _).mono ?_; rintro e w2 ⟨rfl, hb2⟩; have kb := Lib.hid (blk_below (blk_new _ _) hb2); have HB := Lib.hid (below_step ((Below.refl _ w).alloc (Nat.le_refl _) _) hb2); clear hb2; obtain ⟨f0, f1, f2⟩ := field_cells kb.out) | (go_at_call 19; refine (hd _).mono ?_; rintro e w3 ⟨rfl, hb3⟩; have kc := Lib.hid (blk_below kb.out hb3); have HB3 := Lib.hid (below_step HB.out hb3); clear hb3; obtain ⟨g0, g1, g2⟩ := field_cells kc.out; have HT3 := Lib.hid (H.out.below rfl HB3.out); obtain ⟨t0, t1, t2, t3⟩ := HT3.out.cells))
  have H4 : Hid (IsTold (w3.setCell ⟨B, 2, none⟩ (.int .i64 (T.ps + 1))) base B bm bv (n + 1) ⟨T.ft, T.fv, T.ps + 1⟩ md ln) := Lib.hid { HT3.out with blk := blk_put HT3.out.blk 2 _ rfl, mi := (HT3.out.mi.setCell HT3.out.n1.symm _).mono (Nat.le_succ n), ms := (HT3.out.ms.setCell HT3.out.n2.symm _).mono (Nat.le_succ n), bi := fun s => by have := HT3.out.bi s; simp only; omega, bp := by have := HT3.out.bp; simp only; omega }
  have K4 := Lib.hid (blk_far kc.out (p := ⟨B, 2, none⟩) (fun e => by simp only at e; rw [← e] at hBw; simp at hBw) (.int .i64 (T.ps + 1)))
  have HB4 : Hid (Below base w (w3.setCell ⟨B, 2, none⟩ (.int .i64 (T.ps + 1)))) := Lib.hid ((below_weaken' HB3.out hbase).setCell HT3.out.b1 _)
  generalize (w3.setCell ⟨B, 2, none⟩ (.int .i64 (T.ps + 1))) = W4 at H4 K4 HB4
  clear kb HB f0 f1 f2 kc HB3 g0 g1 g2 HT3 t0 t1 t2 t3
  have hb0 : 0 ≤ T.ft nm.data.toList := (H4.out.bi nm.data.toList).1
  have hb1 : T.ft nm.data.toList ≤ 2000000000000 := by have := (H4.out.bi nm.data.toList).2; simp only at this; omega
  refine wp_region_still_tail 8 (by kernel_rfl) (by kernel_rfl) ?_
  simp only [List.take_succ_cons, List.take_zero, List.drop_succ_cons, List.drop_zero]
  change wpStill _ _ W4.drew (fun a' => wpList _ _ _ _ a' W4.drew) _ _
  have H5 : Hid (IsTold W4.drew base B bm bv (n + 1) ⟨T.ft, T.fv, T.ps + 1⟩ md ln) := Lib.hid { H4.out with blk := H4.out.blk, mi := H4.out.mi.drew, ms := H4.out.ms.drew }
  have K5 : Hid (W4.drew.heap[w.heap.size]? = _) := Lib.hid K4.out
  have HB5 : Hid (Below base w W4.drew) := Lib.hid HB4.out.drew
  generalize W4.drew = W5 at H5 K5 HB5 ⊢
  clear H4 K4 HB4
  obtain ⟨f0, f1, f2⟩ := field_cells K5.out
  obtain ⟨t0, t1, t2, t3⟩ := H5.out.cells
  have lk := H5.out.mi.lookup Tryd.underlying9 Tryd.underlying45 Tryd.underlying3 (zeroI _) nm hs
  obtain ⟨W6, hu, hm6, hg6⟩ := H5.out.mi.update Tryd.underlying9 Tryd.underlying45 Tryd.underlying3 (by unfold maxLen; omega) nm hs (T.ft nm.data.toList + 1) (wf_of (by omega) (by omega))
  simp only at lk hu hm6
  have HM := Lib.hid hm6
  clear hm6
  generalize hcc : T.ft nm.data.toList = c at lk hu hb0 hb1 HM
  have HCC := Lib.hid hcc
  clear hcc
  repeat still_step
  refine wpStill_nil ?_
  go_wp2
  clear lk hu f0 f1 f2 t0 t1 t2 t3
  refine wp_region_still_tail 8 (by kernel_rfl) (by kernel_rfl) ?_
  simp only [List.take_succ_cons, List.take_zero, List.drop_succ_cons, List.drop_zero]
  change wpStill _ _ W6.drew (fun a' => wpList _ _ _ _ a' W6.drew) _ _
  have H7 : Hid (IsTold W6.drew base B bm bv (n + 2) ⟨upd T.ft nm.data.toList (c + 1), T.fv, T.ps + 1⟩ md ln) := Lib.hid { H5.out with blk := (show W6.heap[B]? = _ from blk_grown H5.out.blk hg6 (fun e => H5.out.n1 (by injection e))), mi := HM.out.drew, ms := ((H5.out.ms.kept hg6 (fun e => H5.out.n3 (by injection e with e; exact e.symm))).mono (Nat.le_succ _)).drew, bi := bi_upd H5.out.bi (by omega) (by have := H5.out.bi nm.data.toList; simp only [HCC.out] at this; omega), bp := by have := H5.out.bp; simp only at this ⊢; omega }
  have K7 : Hid (W6.drew.heap[w.heap.size]? = _) := Lib.hid (show W6.heap[w.heap.size]? = _ from blk_grown K5.out hg6 (by have := H5.out.mi.lt; intro e; injection e with e; have := blk_lt H.out.blk; have := H.out.mi.lt; omega))
  have HB7 : Hid (Below base w W6.drew) := Lib.hid ((HB5.out.grown hg6 (Nat.le_trans hbase HB5.out.size) (fun j hj => by cases hj; exact H5.out.b2)).drew)
  generalize W6.drew = W7 at H7 K7 HB7 ⊢
  clear H5 K5 HB5 hg6 HM
  obtain ⟨f0, f1, f2⟩ := field_cells K7.out
  obtain ⟨t0, t1, t2, t3⟩ := H7.out.cells
  obtain ⟨W8, hu, hm8, hg8⟩ := H7.out.ms.update Tryd.underlying9 Tryd.underlying46 Tryd.underlying9 (by unfold maxLen; omega) nm hs v hs2
  have HM := Lib.hid hm8
  clear hm8
  repeat still_step
  refine wpStill_nil ?_
  go_wp2
  clear hu f0 f1 f2 t0 t1 t2 t3
  have H9 : Hid (IsTold W8 base B bm bv (n + 3) ⟨upd T.ft nm.data.toList (c + 1), upd T.fv nm.data.toList v, T.ps + 1⟩ md ln) := Lib.hid { H7.out with blk := blk_grown H7.out.blk hg8 (fun e => H7.out.n2 (by injection e)), mi := (H7.out.mi.kept hg8 (fun e => H7.out.n3 (by injection e))).mono (Nat.le_succ _), ms := HM.out, bi := fun s => by have := H7.out.bi s; simp only at this ⊢; omega, bp := by have := H7.out.bp; simp only at this ⊢; omega }
  have K9 : Hid (W8.heap[w.heap.size]? = _) := Lib.hid (blk_grown K7.out hg8 (by intro e; injection e with e; have := H.out.ms.lt; omega))
  have HB9 : Hid (Below base w W8) := Lib.hid (HB7.out.grown hg8 (Nat.le_trans hbase HB7.out.size) (fun j hj => by cases hj; exact H7.out.b3))
  clear H7 K7 HB7 hg8 HM
  refine wp_region_still_tail 8 (by kernel_rfl) (by kernel_rfl) ?_
  simp only [List.take_succ_cons, List.take_zero, List.drop_succ_cons, List.drop_zero]
  change wpStill _ _ W8.drew (fun a' => wpList _ _ _ _ a' W8.drew) _ _
  replace H9 : Hid (IsTold W8.drew base B bm bv (n + 3) ⟨upd T.ft nm.data.toList (c + 1), upd T.fv nm.data.toList v, T.ps + 1⟩ md ln) := Lib.hid { H9.out with blk := H9.out.blk, mi := H9.out.mi.drew, ms := H9.out.ms.drew }
  replace K9 : Hid (W8.drew.heap[w.heap.size]? = _) := Lib.hid K9.out
  replace HB9 : Hid (Below base w W8.drew) := Lib.hid HB9.out.drew
  generalize W8.drew = W9 at H9 K9 HB9 ⊢
  obtain ⟨f0, f1, f2⟩ := field_cells K9.out
  obtain ⟨t0, t1, t2, t3⟩ := H9.out.cells
  have lk := H9.out.mi.lookup Tryd.underlying9 Tryd.underlying45 Tryd.underlying3 (zeroI _) nm hs
  simp only [upd_same] at lk
  repeat still_step
  refine wpStill_nil ?_
  go_wp2
  go_ret
  exact ⟨by rw [HCC.out]; rfl, HB9.out, by rw [HCC.out]; exact H9.out⟩
set_option maxRecDepth 100000 in
/-- a length that is told -/
theorem one_length (hr : ∀ W, Calls Tryd.prog 18 #[.agg #[.string nm, .string v, .bool nv]] W fun e w' => e = .returned (.bool true) ∧ Below W.heap.size W w') (hd : ∀ W, Calls Tryd.prog 19 #[.agg #[.string nm, .string v, .bool nv]] W fun e w' => e = .returned (.bool false) ∧ Below W.heap.size W w') (hp : pseudoB nm = false) (he : nm.toList.isEmpty = false) (hq : (nm.toList == CL.data.toList) = true) (bm bv n : Nat) (T : Told) (md : ByteArray) (ln : Int) (hn : n < 1000000000000) (hbase : base ≤ w.heap.size) (hs : nm.size ≤ maxLen) (hs2 : v.size ≤ maxLen) (H : Hid (IsTold w base B bm bv n T md ln)) :
    Calls Tryd.prog 15 #[.pointer (some ⟨B, 0, none⟩), .agg #[.string nm, .string v, .bool nv], .int .i64 others] w fun e w' => e = .returned (.bool (T.ft nm.data.toList + 1 == 1)) ∧ Below base w w' ∧ IsTold w' base B bm bv (n + 3) ⟨upd T.ft nm.data.toList (T.ft nm.data.toList + 1), upd T.fv nm.data.toList v, T.ps⟩ md ln := by
  have hbt : ∀ h : 0 < nm.size, ((nm[0]'h).toNat : Int) = bt nm 0 := bt_at nm 0
  unfold CL at hq
  simp only at hq
  have hnl := nil_of he
  have hsz := sz_of he
  have h58 : (bt nm 0 == 58) = false := by unfold pseudoB at hp; rw [he] at hp; simpa using hp
  have hps0 : 0 ≤ T.ps := H.out.bp.1
  have hps1 : T.ps ≤ 1000000000000 := by have := H.out.bp.2; omega
  have hBw : (B = w.heap.size) = False := eq_false (Nat.ne_of_lt (blk_lt H.out.blk))
  go_enter Tryd.func15, Tryd.ntmps15
  go_wp2_with (first | (go_at_call 18; refine (hr _).mono ?_; rintro e w2 ⟨rfl, hb2⟩; have kb := Lib.hid (blk_below (blk_new _ _) hb2); have HB := Lib.hid (below_step ((Below.refl _ w).alloc (Nat.le_refl _) _) hb2); clear hb2; obtain ⟨f0, f1, f2⟩ := field_cells kb.out) | (go_at_call 19; refine (hd _).mono ?_; rintro e w3 ⟨rfl, hb3⟩; have kc := Lib.hid (blk_below kb.out hb3); have HB3 := Lib.hid (below_step HB.out hb3); clear hb3; obtain ⟨g0, g1, g2⟩ := field_cells kc.out; have HT3 := Lib.hid (H.out.below rfl HB3.out); obtain ⟨t0, t1, t2, t3⟩ := HT3.out.cells))
  have H4 : Hid (IsTold w3 base B bm bv (n + 1) T md ln) := Lib.hid { HT3.out with mi := HT3.out.mi.mono (Nat.le_succ n), ms := HT3.out.ms.mono (Nat.le_succ n), bi := fun s => by have := HT3.out.bi s; omega, bp := by have := HT3.out.bp; omega }
  have K4 := kc
  have HB4 : Hid (Below base w w3) := Lib.hid (below_weaken' HB3.out hbase)
  obtain ⟨W4, hW4⟩ : ∃ W4, W4 = w3 := ⟨_, rfl⟩
  rw [← hW4] at H4 K4 HB4 ⊢
  clear kb HB f0 f1 f2 kc HB3 g0 g1 g2 HT3 t0 t1 t2 t3 hW4 hq hp h58 hnl hbt
  have hb0 : 0 ≤ T.ft nm.data.toList := (H4.out.bi nm.data.toList).1
  have hb1 : T.ft nm.data.toList ≤ 2000000000000 := by have := (H4.out.bi nm.data.toList).2; (try simp only at this); omega
  refine wp_region_still_tail 8 (by kernel_rfl) (by kernel_rfl) ?_
  simp only [List.take_succ_cons, List.take_zero, List.drop_succ_cons, List.drop_zero]
  change wpStill _ _ W4.drew (fun a' => wpList _ _ _ _ a' W4.drew) _ _
  have H5 : Hid (IsTold W4.drew base B bm bv (n + 1) T md ln) := Lib.hid { H4.out with blk := H4.out.blk, mi := H4.out.mi.drew, ms := H4.out.ms.drew }
  have K5 : Hid (W4.drew.heap[w.heap.size]? = _) := Lib.hid K4.out
  have HB5 : Hid (Below base w W4.drew) := Lib.hid HB4.out.drew
  generalize W4.drew = W5 at H5 K5 HB5 ⊢
  clear H4 K4 HB4
  obtain ⟨f0, f1, f2⟩ := field_cells K5.out
  obtain ⟨t0, t1, t2, t3⟩ := H5.out.cells
  have lk := H5.out.mi.lookup Tryd.underlying9 Tryd.underlying45 Tryd.underlying3 (zeroI _) nm hs
  obtain ⟨W6, hu, hm6, hg6⟩ := H5.out.mi.update Tryd.underlying9 Tryd.underlying45 Tryd.underlying3 (by unfold maxLen; omega) nm hs (T.ft nm.data.toList + 1) (wf_of (by omega) (by omega))
  (try simp only at lk hu hm6)
  have HM := Lib.hid hm6
  clear hm6
  generalize hcc : T.ft nm.data.toList = c at lk hu hb0 hb1 HM
  have HCC := Lib.hid hcc
  clear hcc
  replace hu : (Instr.mapUpdate 45 (.map (some bm)) (.string nm) (.int .i64 (c + 1))).run Tryd.prog W5 = .ok () W6 := hu
  repeat still_step
  refine wpStill_nil ?_
  go_wp2_with fail
  rw [hu]
  go_wp2
  clear lk hu f0 f1 f2 t0 t1 t2 t3
  refine wp_region_still_tail 8 (by kernel_rfl) (by kernel_rfl) ?_
  simp only [List.take_succ_cons, List.take_zero, List.drop_succ_cons, List.drop_zero]
  change wpStill _ _ W6.drew (fun a' => wpList _ _ _ _ a' W6.drew) _ _
  have H7 : Hid (IsTold W6.drew base B bm bv (n + 2) ⟨upd T.ft nm.data.toList (c + 1), T.fv, T.ps⟩ md ln) := Lib.hid { H5.out with blk := (show W6.heap[B]? = _ from blk_grown H5.out.blk hg6 (fun e => H5.out.n1 (by injection e))), mi := HM.out.drew, ms := ((H5.out.ms.kept hg6 (fun e => H5.out.n3 (by injection e with e; exact e.symm))).mono (Nat.le_succ _)).drew, bi := bi_upd H5.out.bi (by omega) (by have := H5.out.bi nm.data.toList; simp only [HCC.out] at this; omega), bp := by have := H5.out.bp; simp only at this ⊢; omega }
  have K7 : Hid (W6.drew.heap[w.heap.size]? = _) := Lib.hid (show W6.heap[w.heap.size]? = _ from blk_grown K5.out hg6 (by have := H5.out.mi.lt; intro e; injection e with e; have := blk_lt H.out.blk; have := H.out.mi.lt; omega))
  have HB7 : Hid (Below base w W6.drew) := Lib.hid ((HB5.out.grown hg6 (Nat.le_trans hbase HB5.out.size) (fun j hj => by cases hj; exact H5.out.b2)).drew)
  generalize W6.drew = W7 at H7 K7 HB7 ⊢
  clear H5 K5 HB5 hg6 HM
  obtain ⟨f0, f1, f2⟩ := field_cells K7.out
  obtain ⟨t0, t1, t2, t3⟩ := H7.out.cells
  obtain ⟨W8, hu, hm8, hg8⟩ := H7.out.ms.update Tryd.underlying9 Tryd.underlying46 Tryd.underlying9 (by unfold maxLen; omega) nm hs v hs2
  have HM := Lib.hid hm8
  clear hm8
  repeat still_step
  refine wpStill_nil ?_
  go_wp2
  clear hu f0 f1 f2 t0 t1 t2 t3
  have H9 : Hid (IsTold W8 base B bm bv (n + 3) ⟨upd T.ft nm.data.toList (c + 1), upd T.fv nm.data.toList v, T.ps⟩ md ln) := Lib.hid { H7.out with blk := blk_grown H7.out.blk hg8 (fun e => H7.out.n2 (by injection e)), mi := (H7.out.mi.kept hg8 (fun e => H7.out.n3 (by injection e))).mono (Nat.le_succ _), ms := HM.out, bi := fun s => by have := H7.out.bi s; simp only at this ⊢; omega, bp := by have := H7.out.bp; simp only at this ⊢; omega }
  have K9 : Hid (W8.heap[w.heap.size]? = _) := Lib.hid (blk_grown K7.out hg8 (by intro e; injection e with e; have := H.out.ms.lt; omega))
  have HB9 : Hid (Below base w W8) := Lib.hid (HB7.out.grown hg8 (Nat.le_trans hbase HB7.out.size) (fun j hj => by cases hj; exact H7.out.b3))
  clear H7 K7 HB7 hg8 HM
  refine wp_region_still_tail 8 (by kernel_rfl) (by kernel_rfl) ?_
  simp only [List.take_succ_cons, List.take_zero, List.drop_succ_cons, List.drop_zero]
  change wpStill _ _ W8.drew (fun a' => wpList _ _ _ _ a' W8.drew) _ _
  replace H9 : Hid (IsTold W8.drew base B bm bv (n + 3) ⟨upd T.ft nm.data.toList (c + 1), upd T.fv nm.data.toList v, T.ps⟩ md ln) := Lib.hid { H9.out with blk := H9.out.blk, mi := H9.out.mi.drew, ms := H9.out.ms.drew }
  replace K9 : Hid (W8.drew.heap[w.heap.size]? = _) := Lib.hid K9.out
  replace HB9 : Hid (Below base w W8.drew) := Lib.hid HB9.out.drew
  generalize W8.drew = W9 at H9 K9 HB9 ⊢
  obtain ⟨f0, f1, f2⟩ := field_cells K9.out
  obtain ⟨t0, t1, t2, t3⟩ := H9.out.cells
  have lk := H9.out.mi.lookup Tryd.underlying9 Tryd.underlying45 Tryd.underlying3 (zeroI _) nm hs
  simp only [upd_same] at lk
  repeat still_step
  refine wpStill_nil ?_
  go_wp2
  go_ret
  exact ⟨by rw [HCC.out]; rfl, HB9.out, by rw [HCC.out]; exact H9.out⟩
set_option maxRecDepth 100000 in
/-- a type that is told -/
theorem one_type (hr : ∀ W, Calls Tryd.prog 18 #[.agg #[.string nm, .string v, .bool nv]] W fun e w' => e = .returned (.bool true) ∧ Below W.heap.size W w') (hd : ∀ W, Calls Tryd.prog 19 #[.agg #[.string nm, .string v, .bool nv]] W fun e w' => e = .returned (.bool false) ∧ Below W.heap.size W w') (hp : pseudoB nm = false) (he : nm.toList.isEmpty = false) (hq : (nm.toList == CL.data.toList) = false) (hq2 : (nm.toList == CT.data.toList) = true) (bm bv n : Nat) (T : Told) (md : ByteArray) (ln : Int) (hn : n < 1000000000000) (hbase : base ≤ w.heap.size) (hs : nm.size ≤ maxLen) (hs2 : v.size ≤ maxLen) (H : Hid (IsTold w base B bm bv n T md ln)) :
    Calls Tryd.prog 15 #[.pointer (some ⟨B, 0, none⟩), .agg #[.string nm, .string v, .bool nv], .int .i64 others] w fun e w' => e = .returned (.bool (T.ft nm.data.toList + 1 == 1)) ∧ Below base w w' ∧ IsTold w' base B bm bv (n + 3) ⟨upd T.ft nm.data.toList (T.ft nm.data.toList + 1), upd T.fv nm.data.toList v, T.ps⟩ md ln := by
  have hbt : ∀ h : 0 < nm.size, ((nm[0]'h).toNat : Int) = bt nm 0 := bt_at nm 0
  unfold CL at hq
  unfold CT at hq2
  simp only at hq hq2
  have hnl := nil_of he
  have hsz := sz_of he
  have h58 : (bt nm 0 == 58) = false := by unfold pseudoB at hp; rw [he] at hp; simpa using hp
  have hps0 : 0 ≤ T.ps := H.out.bp.1
  have hps1 : T.ps ≤ 1000000000000 := by have := H.out.bp.2; omega
  have hBw : (B = w.heap.size) = False := eq_false (Nat.ne_of_lt (blk_lt H.out.blk))
  go_enter Tryd.func15, Tryd.ntmps15
  go_wp2_with (first | (go_at_call 18; refine (hr _).mono ?_; rintro e w2 ⟨rfl, hb2⟩; have kb := Lib.hid (blk_below (blk_new _ _) hb2); have HB := Lib.hid (below_step ((Below.refl _ w).alloc (Nat.le_refl _) _) hb2); clear hb2; obtain ⟨f0, f1, f2⟩ := field_cells kb.out) | (go_at_call 19; refine (hd _).mono ?_; rintro e w3 ⟨rfl, hb3⟩; have kc := Lib.hid (blk_below kb.out hb3); have HB3 := Lib.hid (below_step HB.out hb3); clear hb3; obtain ⟨g0, g1, g2⟩ := field_cells kc.out; have HT3 := Lib.hid (H.out.below rfl HB3.out); obtain ⟨t0, t1, t2, t3⟩ := HT3.out.cells))
  have H4 : Hid (IsTold w3 base B bm bv (n + 1) T md ln) := Lib.hid { HT3.out with mi := HT3.out.mi.mono (Nat.le_succ n), ms := HT3.out.ms.mono (Nat.le_succ n), bi := fun s => by have := HT3.out.bi s; omega, bp := by have := HT3.out.bp; omega }
  have K4 := kc
  have HB4 : Hid (Below base w w3) := Lib.hid (below_weaken' HB3.out hbase)
  obtain ⟨W4, hW4⟩ : ∃ W4, W4 = w3 := ⟨_, rfl⟩
  rw [← hW4] at H4 K4 HB4 ⊢
  clear kb HB f0 f1 f2 kc HB3 g0 g1 g2 HT3 t0 t1 t2 t3 hW4 hq hq2 hp h58 hnl hbt
  have hb0 : 0 ≤ T.ft nm.data.toList := (H4.out.bi nm.data.toList).1
  have hb1 : T.ft nm.data.toList ≤ 2000000000000 := by have := (H4.out.bi nm.data.toList).2; (try simp only at this); omega
  refine wp_region_still_tail 8 (by kernel_rfl) (by kernel_rfl) ?_
  simp only [List.take_succ_cons, List.take_zero, List.drop_succ_cons, List.drop_zero]
  change wpStill _ _ W4.drew (fun a' => wpList _ _ _ _ a' W4.drew) _ _
  have H5 : Hid (IsTold W4.drew base B bm bv (n + 1) T md ln) := Lib.hid { H4.out with blk := H4.out.blk, mi := H4.out.mi.drew, ms := H4.out.ms.drew }
  have K5 : Hid (W4.drew.heap[w.heap.size]? = _) := Lib.hid K4.out
  have HB5 : Hid (Below base w W4.drew) := Lib.hid HB4.out.drew
  generalize W4.drew = W5 at H5 K5 HB5 ⊢
  clear H4 K4 HB4
  obtain ⟨f0, f1, f2⟩ := field_cells K5.out
  obtain ⟨t0, t1, t2, t3⟩ := H5.out.cells
  have lk := H5.out.mi.lookup Tryd.underlying9 Tryd.underlying45 Tryd.underlying3 (zeroI _) nm hs
  obtain ⟨W6, hu, hm6, hg6⟩ := H5.out.mi.update Tryd.underlying9 Tryd.underlying45 Tryd.underlying3 (by unfold maxLen; omega) nm hs (T.ft nm.data.toList + 1) (wf_of (by omega) (by omega))
  (try simp only at lk hu hm6)
  have HM := Lib.hid hm6
  clear hm6
  generalize hcc : T.ft nm.data.toList = c at lk hu hb0 hb1 HM
  have HCC := Lib.hid hcc
  clear hcc
  replace hu : (Instr.mapUpdate 45 (.map (some bm)) (.string nm) (.int .i64 (c + 1))).run Tryd.prog W5 = .ok () W6 := hu
  repeat still_step
  refine wpStill_nil ?_
  go_wp2_with fail
  rw [hu]
  go_wp2
  clear lk hu f0 f1 f2 t0 t1 t2 t3
  refine wp_region_still_tail 8 (by kernel_rfl) (by kernel_rfl) ?_
  simp only [List.take_succ_cons, List.take_zero, List.drop_succ_cons, List.drop_zero]
  change wpStill _ _ W6.drew (fun a' => wpList _ _ _ _ a' W6.drew) _ _
  have H7 : Hid (IsTold W6.drew base B bm bv (n + 2) ⟨upd T.ft nm.data.toList (c + 1), T.fv, T.ps⟩ md ln) := Lib.hid { H5.out with blk := (show W6.heap[B]? = _ from blk_grown H5.out.blk hg6 (fun e => H5.out.n1 (by injection e))), mi := HM.out.drew, ms := ((H5.out.ms.kept hg6 (fun e => H5.out.n3 (by injection e with e; exact e.symm))).mono (Nat.le_succ _)).drew, bi := bi_upd H5.out.bi (by omega) (by have := H5.out.bi nm.data.toList; simp only [HCC.out] at this; omega), bp := by have := H5.out.bp; simp only at this ⊢; omega }
  have K7 : Hid (W6.drew.heap[w.heap.size]? = _) := Lib.hid (show W6.heap[w.heap.size]? = _ from blk_grown K5.out hg6 (by have := H5.out.mi.lt; intro e; injection e with e; have := blk_lt H.out.blk; have := H.out.mi.lt; omega))
  have HB7 : Hid (Below base w W6.drew) := Lib.hid ((HB5.out.grown hg6 (Nat.le_trans hbase HB5.out.size) (fun j hj => by cases hj; exact H5.out.b2)).drew)
  generalize W6.drew = W7 at H7 K7 HB7 ⊢
  clear H5 K5 HB5 hg6 HM
  obtain ⟨f0, f1, f2⟩ := field_cells K7.out
  obtain ⟨t0, t1, t2, t3⟩ := H7.out.cells
  obtain ⟨W8, hu, hm8, hg8⟩ := H7.out.ms.update Tryd.underlying9 Tryd.underlying46 Tryd.underlying9 (by unfold maxLen; omega) nm hs v hs2
  have HM := Lib.hid hm8
  clear hm8
  repeat still_step
  refine wpStill_nil ?_
  go_wp2
  clear hu f0 f1 f2 t0 t1 t2 t3
  have H9 : Hid (IsTold W8 base B bm bv (n + 3) ⟨upd T.ft nm.data.toList (c + 1), upd T.fv nm.data.toList v, T.ps⟩ md ln) := Lib.hid { H7.out with blk := blk_grown H7.out.blk hg8 (fun e => H7.out.n2 (by injection e)), mi := (H7.out.mi.kept hg8 (fun e => H7.out.n3 (by injection e))).mono (Nat.le_succ _), ms := HM.out, bi := fun s => by have := H7.out.bi s; simp only at this ⊢; omega, bp := by have := H7.out.bp; simp only at this ⊢; omega }
  have K9 : Hid (W8.heap[w.heap.size]? = _) := Lib.hid (blk_grown K7.out hg8 (by intro e; injection e with e; have := H.out.ms.lt; omega))
  have HB9 : Hid (Below base w W8) := Lib.hid (HB7.out.grown hg8 (Nat.le_trans hbase HB7.out.size) (fun j hj => by cases hj; exact H7.out.b3))
  clear H7 K7 HB7 hg8 HM
  refine wp_region_still_tail 8 (by kernel_rfl) (by kernel_rfl) ?_
  simp only [List.take_succ_cons, List.take_zero, List.drop_succ_cons, List.drop_zero]
  change wpStill _ _ W8.drew (fun a' => wpList _ _ _ _ a' W8.drew) _ _
  replace H9 : Hid (IsTold W8.drew base B bm bv (n + 3) ⟨upd T.ft nm.data.toList (c + 1), upd T.fv nm.data.toList v, T.ps⟩ md ln) := Lib.hid { H9.out with blk := H9.out.blk, mi := H9.out.mi.drew, ms := H9.out.ms.drew }
  replace K9 : Hid (W8.drew.heap[w.heap.size]? = _) := Lib.hid K9.out
  replace HB9 : Hid (Below base w W8.drew) := Lib.hid HB9.out.drew
  generalize W8.drew = W9 at H9 K9 HB9 ⊢
  obtain ⟨f0, f1, f2⟩ := field_cells K9.out
  obtain ⟨t0, t1, t2, t3⟩ := H9.out.cells
  have lk := H9.out.mi.lookup Tryd.underlying9 Tryd.underlying45 Tryd.underlying3 (zeroI _) nm hs
  simp only [upd_same] at lk
  repeat still_step
  refine wpStill_nil ?_
  go_wp2
  go_ret
  exact ⟨by rw [HCC.out]; rfl, HB9.out, by rw [HCC.out]; exact H9.out⟩
end
end Go.Proofs.YtgfdmaohnngpjaaDoor.P
