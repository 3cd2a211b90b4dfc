/- Functions of the program as plain functions, and the contract of each: written by a program of this session over the seat's translation. Conditions: those that each theorem names. -/
import Derived.Test.YtgfdmaohnngpjaaDoorPx0
import Derived.Test.YtgfdmaohnngpjaaDoorPx17
namespace Go.Proofs.YtgfdmaohnngpjaaDoor.P
open Go.RowKit Go.Proofs.YtgfdmaohnngpjaaDoorW.PrintWords Go.Proofs.YtgfdmaohnngpjaaDoorW.PrintLast Go.Proofs.YtgfdmaohnngpjaaDoorW.PrintMore
attribute [local go_sem] max2_int min2_int max_two min_two max_three min_three max_four min_four   -- for this text's walks alone
set_option linter.unusedVariables false
set_option linter.unusedSimpArgs false

/-! ### text_Number: function 10 -/
def text_Number.f (a0 : Int) : Option (ByteArray) := if a0 < 0 then (some (⟨#[]⟩ : ByteArray)) else ((strconv_Itoa.f a0).bind fun t146 => (some t146))
set_option maxHeartbeats 8000000 in
set_option maxRecDepth 100000 in
theorem text_Number.calls (a0 : Int) (r : ByteArray) (w : World) (h : text_Number.f a0 = some r) (hG : Aside0 (Glob w)) :
    Calls Tryd.prog 10 #[.int .i64 a0] w fun e w' => e = .returned (.string r) ∧ Below w.heap.size w w' := by
  have HB := Aside0.mk (Below.refl w.heap.size w)
  have H : (if a0 < 0 then (some (⟨#[]⟩ : ByteArray)) else ((strconv_Itoa.f a0).bind fun t146 => (some t146))) = some r := h
  clear h
  by_cases c2 : a0 < 0
  · rw [if_pos c2] at H
    have c2b0 : decide (a0 < 0) = true := decide_eq_true c2
    clear c2
    obtain rfl := Option.some.inj H
    go_enter Tryd.func10, Tryd.ntmps10
    go_wp2
    go_ret
    exact ⟨by first | rfl | (simp [errW_none, errW_some] <;> rfl) | (simp [*, errW_none, errW_some] <;> rfl), by repeat (first | (with_reducible first | exact HB.out | apply below_alloc | apply pw_below_drewN | apply below_drew1) | exact HB.out)⟩
  · rw [if_neg c2] at H
    have c2b0 : decide (a0 < 0) = false := decide_eq_false c2
    clear c2
    replace H := Option.bind_eq_some_iff.mp H
    obtain ⟨t146, A30, H⟩ := H
    replace H : (some t146) = some r := H
    have A3 := Aside0.mk A30
    clear A30
    obtain rfl := Option.some.inj H
    go_enter Tryd.func10, Tryd.ntmps10
    go_wp2_with (first | ((with_reducible refine gate_callee (f := 13) rfl ?_); refine goesL_ (some 6) rfl rfl Tryd.func13 (by kernel_rfl) rfl #[.int .i64 a0] rfl (by (try simp only [List.map_toArray, List.map_cons, List.map_nil]); first | done | rfl | (simp only [List.length_drop, List.length_take]; rfl)) ?_; (with_reducible refine (strconv_Itoa.calls a0 t146 _ A3.out (Glob.below hG rfl (by repeat (first | (with_reducible first | exact HB.out | apply below_alloc | apply pw_below_drewN | apply below_drew1) | exact HB.out)))).mono ?_); rintro e w4 ⟨rfl, hb⟩; refine ⟨_, rfl, ?_⟩; have n0_ := Aside0.mk (below_step (by repeat (first | (with_reducible first | exact HB.out | apply below_alloc | apply pw_below_drewN | apply below_drew1) | exact HB.out)) hb); clear HB; have HB := n0_; clear n0_; (try clear hb); (try clear hb2); (try clear hk); (try clear hi)))
    go_ret
    exact ⟨by first | rfl | (simp [errW_none, errW_some] <;> rfl) | (simp [*, errW_none, errW_some] <;> rfl), by repeat (first | (with_reducible first | exact HB.out | apply below_alloc | apply pw_below_drewN | apply below_drew1) | exact HB.out)⟩

-- NOT PRINTED: function 5 (nunciolaw20_HeadLengths)

/-! ### nunciolaw13_FewFields: function 7 -/
def nunciolaw13_FewFields.l0 : Nat → List (S32) → Int → Int → Option (Bool)
  | 0, _, _, _ => none
  | k + 1, x0, x3, x4 => if x4 < (x0.length : Int) then (if x3 < 3000 then (if 0 ≤ x4 then (nunciolaw13_FewFields.l0 k x0 (wrap64 ((wrap64 (x3 + (mn (((rd_T32 x0 x4).f0).size : Int) 3000))) + (mn (((rd_T32 x0 x4).f1).size : Int) 3000))) (wrap64 (x4 + 1))) else (none)) else (some (decide (x3 < 3000)))) else (some (decide (x3 < 3000)))
def nunciolaw13_FewFields.f (k : Nat) (l0 : List (S32)) : Option (Bool) := nunciolaw13_FewFields.l0 k l0 (mn (l0.length : Int) 3000) 0
theorem nunciolaw13_FewFields.mono_l : ∀ k, (∀ y0 y1 y2, LeO (nunciolaw13_FewFields.l0 k y0 y1 y2) (nunciolaw13_FewFields.l0 (k + 1) y0 y1 y2))
  | 0 => fun _ _ _ r h => by simp [nunciolaw13_FewFields.l0] at h
  | k + 1 => by
    have ih0 := nunciolaw13_FewFields.mono_l k
    · intro y0 y1 y2
      unfold nunciolaw13_FewFields.l0
      repeat' first
      | (with_reducible exact ih0 _ _ _)
      | (with_reducible exact LeO.refl _)
      | (with_reducible exact LeO.none _)
      | (with_reducible refine LeO.ite ?_ ?_)
      | (with_reducible refine LeO.bind ?_ (fun _ => ?_))
      | exact ih0 _ _ _
      | exact LeO.none _
      | refine LeO.ite ?_ ?_
      | refine LeO.bind ?_ (fun _ => ?_)
theorem nunciolaw13_FewFields.mono : ∀ a0 k, LeO (nunciolaw13_FewFields.f k a0) (nunciolaw13_FewFields.f (k + 1) a0) := by
  intro a0 k
  have ih0 := nunciolaw13_FewFields.mono_l k
  unfold nunciolaw13_FewFields.f
  repeat' first
      | (with_reducible exact ih0 _ _ _)
      | (with_reducible exact LeO.refl _)
      | (with_reducible exact LeO.none _)
      | (with_reducible refine LeO.ite ?_ ?_)
      | (with_reducible refine LeO.bind ?_ (fun _ => ?_))
      | exact ih0 _ _ _
      | exact LeO.none _
      | refine LeO.ite ?_ ?_
      | refine LeO.bind ?_ (fun _ => ?_)
set_option maxHeartbeats 8000000 in
set_option maxRecDepth 100000 in
theorem nunciolaw13_FewFields.calls (k : Nat) (A0 : Option Addr) (c0 : Nat) (l0 : List (S32)) (r : Bool) (w : World) (hr0 : Kd.C k32 w A0 l0.length l0) (hc0 : l0.length ≤ c0) (h : nunciolaw13_FewFields.f k l0 = some r) :
    Calls Tryd.prog 7 #[.slice A0 l0.length c0] w fun e w' => e = .returned (.bool r) ∧ Below w.heap.size w w' := by
  have HR0 := Aside0.mk hr0
  have HC0 := Aside0.mk hc0
  clear hr0 hc0
  have HB := Aside0.mk (Below.refl w.heap.size w)
  have H : (nunciolaw13_FewFields.l0 k l0 (mn (l0.length : Int) 3000) 0) = some r := h
  clear h
  obtain ⟨ji2, hji2⟩ : ∃ j_ : Int, (mn (l0.length : Int) 3000) = j_ := ⟨_, rfl⟩
  replace H : (nunciolaw13_FewFields.l0 k l0 ji2 0) = some r := by first | (rw [hji2] at H; exact H) | (simp only [hji2] at H ⊢; exact H)
  (try (have hji2h : ji2 ≤ 3000 := by (rw [← hji2]; unfold mn; (repeat' split) <;> omega)))
  (try (have hji2g : ji2 ≤ 64 := by omega))
  (try (have hji2l : 0 ≤ ji2 := by (rw [← hji2]; unfold mn; (repeat' split) <;> omega)))
  (try (have hji2m : 0 ≤ ji2 := by omega))
  have hji2_ : (if 3000 < (l0.length : Int) then 3000 else (l0.length : Int)) = ji2 := hji2
  have H' := Aside0.mk H
  clear H
  go_enter Tryd.func7, Tryd.ntmps7
  go_wp2
  repeat (go_quiet (fail); try go_wp2)
  go_loopg [3, 4] k (fun kq v3 v4 w' => ∃ (x3_1 : Int) (x4_1 : Int), v3 = .int .i64 x3_1 ∧ v4 = .int .i64 x4_1 ∧ Aside0 (nunciolaw13_FewFields.l0 kq l0 x3_1 x4_1 = some r) ∧ Aside0 (kq ≤ k) ∧ Aside0 (Below w.heap.size w w'))
  case atStart => exact ⟨(ji2), (0), (by first | rfl | (simp; done) | (simp only [← hji2] <;> (first | rfl | simp)) | (simp [*]; done)), (by first | rfl | (simp; done) | (simp [*]; done)), H', ⟨Nat.le_refl _⟩, ⟨by repeat (first | (with_reducible first | exact HB.out | apply below_alloc | apply pw_below_drewN | apply below_drew1) | exact HB.out)⟩⟩
  case round =>
    clear H'
    try clear p2
    obtain ⟨x3_1, x4_1, rfl, rfl, HA, HK1, HB⟩ := hrel
    cases gk with
    | zero => exact absurd HA.out (by simp [nunciolaw13_FewFields.l0])
    | succ k1 =>
      have H := HA.out
      clear HA
      simp only [nunciolaw13_FewFields.l0] at H
      by_cases c3 : x4_1 < (l0.length : Int)
      · rw [if_pos c3] at H
        have c3b0 : decide (x4_1 < (l0.length : Int)) = true := decide_eq_true c3
        clear c3
        by_cases c4 : x3_1 < 3000
        · rw [if_pos c4] at H
          have c4b0 : decide (x3_1 < 3000) = true := decide_eq_true c4
          clear c4
          by_cases c5 : 0 ≤ x4_1
          · rw [if_pos c5] at H
            have c5b0 : decide (0 ≤ x4_1) = true := decide_eq_true c5
            clear c5
            obtain ⟨ji6, hji6⟩ : ∃ j_ : Int, (mn (((rd_T32 l0 x4_1).f0).size : Int) 3000) = j_ := ⟨_, rfl⟩
            replace H : (nunciolaw13_FewFields.l0 k1 l0 (wrap64 ((wrap64 (x3_1 + (ji6))) + (mn (((rd_T32 l0 x4_1).f1).size : Int) 3000))) (wrap64 (x4_1 + 1))) = some r := by first | (rw [hji6] at H; exact H) | (simp only [hji6] at H ⊢; exact H)
            have hji6_ : (if 3000 < (((rd_T32 l0 x4_1).f0).size : Int) then 3000 else (((rd_T32 l0 x4_1).f0).size : Int)) = ji6 := hji6
            obtain ⟨ji7, hji7⟩ : ∃ j_ : Int, (mn (((rd_T32 l0 x4_1).f1).size : Int) 3000) = j_ := ⟨_, rfl⟩
            replace H : (nunciolaw13_FewFields.l0 k1 l0 (wrap64 ((wrap64 (x3_1 + (ji6))) + (ji7))) (wrap64 (x4_1 + 1))) = some r := by first | (rw [hji7] at H; exact H) | (simp only [hji7] at H ⊢; exact H)
            have hji7_ : (if 3000 < (((rd_T32 l0 x4_1).f1).size : Int) then 3000 else (((rd_T32 l0 x4_1).f1).size : Int)) = ji7 := hji7
            have H' := Aside0.mk H
            clear H
            have p169 : 0 ≤ (x4_1 : Int) := of_decide_eq_true (by first | (with_reducible assumption) | assumption)
            have q169 : x4_1 < (l0.length : Int) := of_decide_eq_true (by first | (with_reducible assumption) | assumption)
            obtain ⟨ad169, e169, hx169_0, hx169_1, hx169_2⟩ := at_T32 HR0.out x4_1 p169 q169
            cases e169
            replace hx169_0 := (HB.out.cell (World.block_lt_of_cell? w _ hx169_0)).trans hx169_0
            replace hx169_1 := (HB.out.cell (World.block_lt_of_cell? w _ hx169_1)).trans hx169_1
            replace hx169_2 := (HB.out.cell (World.block_lt_of_cell? w _ hx169_2)).trans hx169_2
            replace p169 := eq_true p169
            replace q169 := eq_true q169
            have p170 : 0 ≤ (x4_1 : Int) := of_decide_eq_true (by first | (with_reducible assumption) | assumption)
            have q170 : x4_1 < (l0.length : Int) := of_decide_eq_true (by first | (with_reducible assumption) | assumption)
            obtain ⟨ad170, e170, hx170_0, hx170_1, hx170_2⟩ := at_T32 HR0.out x4_1 p170 q170
            obtain rfl : ad169 = ad170 := (by injection e170)
            replace hx170_0 := (HB.out.cell (World.block_lt_of_cell? w _ hx170_0)).trans hx170_0
            replace hx170_1 := (HB.out.cell (World.block_lt_of_cell? w _ hx170_1)).trans hx170_1
            replace hx170_2 := (HB.out.cell (World.block_lt_of_cell? w _ hx170_2)).trans hx170_2
            replace p170 := eq_true p170
            replace q170 := eq_true q170
            go_wp2
            repeat (go_quiet (fail); try go_wp2)
            go_roundg k1
            case measure => have := HK1.out; omega
            case rel => exact ⟨(wrap64 ((wrap64 (x3_1 + (ji6))) + (ji7))), (wrap64 (x4_1 + 1)), (by first | rfl | (simp; done) | (simp only [← hji6, ← hji7] <;> (first | rfl | simp)) | (simp [*]; done)), (by first | rfl | (simp; done) | (simp [*]; done)), H', ⟨by have := HK1.out; omega⟩, ⟨by repeat (first | (with_reducible first | exact HB.out | apply below_alloc | apply pw_below_drewN | apply below_drew1) | exact HB.out)⟩⟩
          · rw [if_neg c5] at H
            exact absurd H (by simp)
        · rw [if_neg c4] at H
          have c4b0 : decide (x3_1 < 3000) = false := decide_eq_false c4
          clear c4
          obtain rfl := Option.some.inj H
          go_wp2
          repeat (go_quiet (fail); try go_wp2)
          go_ret
          exact ⟨by first | rfl | (simp [errW_none, errW_some] <;> rfl) | (simp only [← hji2]; first | rfl | (simp [errW_none, errW_some] <;> rfl)) | (simp [*, errW_none, errW_some] <;> rfl), by repeat (first | (with_reducible first | exact HB.out | apply below_alloc | apply pw_below_drewN | apply below_drew1) | exact HB.out)⟩
      · rw [if_neg c3] at H
        have c3b0 : decide (x4_1 < (l0.length : Int)) = false := decide_eq_false c3
        clear c3
        obtain rfl := Option.some.inj H
        go_wp2
        repeat (go_quiet (fail); try go_wp2)
        go_ret
        exact ⟨by first | rfl | (simp [errW_none, errW_some] <;> rfl) | (simp only [← hji2]; first | rfl | (simp [errW_none, errW_some] <;> rfl)) | (simp [*, errW_none, errW_some] <;> rfl), by repeat (first | (with_reducible first | exact HB.out | apply below_alloc | apply pw_below_drewN | apply below_drew1) | exact HB.out)⟩

end Go.Proofs.YtgfdmaohnngpjaaDoor.P
