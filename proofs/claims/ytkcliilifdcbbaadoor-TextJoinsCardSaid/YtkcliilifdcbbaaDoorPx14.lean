-- Written by a program of this session over the seat's translation: functions and their contracts. Lean checks it.
import Derived.Test.YtkcliilifdcbbaaDoorPx0
import Derived.Test.YtkcliilifdcbbaaDoorPx3
import Derived.Test.YtkcliilifdcbbaaDoorPx7
import Derived.Test.YtkcliilifdcbbaaDoorPx9
import Derived.Test.YtkcliilifdcbbaaDoorPx12
import Derived.Test.YtkcliilifdcbbaaDoorPx13
namespace Go.Proofs.YtkcliilifdcbbaaDoor.P
open Go.RowKit Go.Proofs.YtkcliilifdcbbaaDoorW.PrintWords Go.Proofs.YtkcliilifdcbbaaDoorW.PrintLast Go.Proofs.YtkcliilifdcbbaaDoorW.PrintMore
attribute [local go_sem] max2_int min2_int max_two min_two max_three min_three max_four min_four   -- for this text's walks alone
set_option linter.unusedVariables false
set_option linter.unusedSimpArgs false

/-! ### nuncioref02_Media: function 17 -/
mutual
def nuncioref02_Media.j1 : Nat → ByteArray → Int → Option (ByteArray)
  | 0, _, _ => none
  | k + 1, x0, x3 => nuncioref02_Media.l1 k x0 x3 0
def nuncioref02_Media.j3 : Nat → ByteArray → Int → Int → Option (ByteArray)
  | 0, _, _, _ => none
  | k + 1, x0, x3, x4 => nuncioref02_Media.l2 k x0 x3 x4
def nuncioref02_Media.l2 : Nat → ByteArray → Int → Int → Option (ByteArray)
  | 0, _, _, _ => none
  | k + 1, x0, x3, x4 => if x3 > x4 then (if 0 ≤ (wrap64 (x3 - 1)) then (if (wrap64 (x3 - 1)) < (x0.size : Int) then ((nuncioref02_blank.f (bt x0 (wrap64 (x3 - 1)))).bind fun t184 => (if t184 = true then (nuncioref02_Media.l2 k x0 (wrap64 (x3 - 1)) x4) else (if 0 ≤ x4 then (if x4 ≤ x3 then (if x3 ≤ (x0.size : Int) then ((nuncioref02_Fold.f k (x0.extract (x4 : Int).toNat (x3 : Int).toNat)).bind fun t185 => (some t185)) else (none)) else (none)) else (none)))) else (none)) else (none)) else (if 0 ≤ x4 then (if x4 ≤ x3 then (if x3 ≤ (x0.size : Int) then ((nuncioref02_Fold.f k (x0.extract (x4 : Int).toNat (x3 : Int).toNat)).bind fun t186 => (some t186)) else (none)) else (none)) else (none))
def nuncioref02_Media.l1 : Nat → ByteArray → Int → Int → Option (ByteArray)
  | 0, _, _, _ => none
  | k + 1, x0, x3, x4 => if x4 < x3 then (if 0 ≤ x4 then (if x4 < (x0.size : Int) then ((nuncioref02_blank.f (bt x0 x4)).bind fun t183 => (if t183 = true then (nuncioref02_Media.l1 k x0 x3 (wrap64 (x4 + 1))) else (nuncioref02_Media.j3 k x0 x3 x4))) else (none)) else (none)) else (nuncioref02_Media.j3 k x0 x3 x4)
def nuncioref02_Media.l0 : Nat → ByteArray → Int → Option (ByteArray)
  | 0, _, _ => none
  | k + 1, x0, x3 => if x3 < (x0.size : Int) then (if 0 ≤ x3 then (if (bt x0 x3) = 59 then (nuncioref02_Media.j1 k x0 x3) else (nuncioref02_Media.l0 k x0 (wrap64 (x3 + 1)))) else (none)) else (nuncioref02_Media.j1 k x0 x3)
end
def nuncioref02_Media.f (k : Nat) (a0 : ByteArray) : Option (ByteArray) := nuncioref02_Media.l0 k a0 0
theorem nuncioref02_Media.mono_l : ∀ k, (∀ y0 y1, LeO (nuncioref02_Media.j1 k y0 y1) (nuncioref02_Media.j1 (k + 1) y0 y1)) ∧ (∀ y0 y1 y2, LeO (nuncioref02_Media.j3 k y0 y1 y2) (nuncioref02_Media.j3 (k + 1) y0 y1 y2)) ∧ (∀ y0 y1 y2, LeO (nuncioref02_Media.l2 k y0 y1 y2) (nuncioref02_Media.l2 (k + 1) y0 y1 y2)) ∧ (∀ y0 y1 y2, LeO (nuncioref02_Media.l1 k y0 y1 y2) (nuncioref02_Media.l1 (k + 1) y0 y1 y2)) ∧ (∀ y0 y1, LeO (nuncioref02_Media.l0 k y0 y1) (nuncioref02_Media.l0 (k + 1) y0 y1))
  | 0 => ⟨fun _ _ r h => by simp [nuncioref02_Media.j1] at h, fun _ _ _ r h => by simp [nuncioref02_Media.j3] at h, fun _ _ _ r h => by simp [nuncioref02_Media.l2] at h, fun _ _ _ r h => by simp [nuncioref02_Media.l1] at h, fun _ _ r h => by simp [nuncioref02_Media.l0] at h⟩
  | k + 1 => by
    obtain ⟨ih0, ih1, ih2, ih3, ih4⟩ := nuncioref02_Media.mono_l k
    refine ⟨?_, ?_, ?_, ?_, ?_⟩
    · intro y0 y1
      unfold nuncioref02_Media.j1
      repeat' first
      | (with_reducible exact ih0 _ _)
      | (with_reducible exact ih1 _ _ _)
      | (with_reducible exact ih2 _ _ _)
      | (with_reducible exact ih3 _ _ _)
      | (with_reducible exact ih4 _ _)
      | (with_reducible exact nuncioref02_Fold.mono _ _)
      | (with_reducible exact LeO.refl _)
      | (with_reducible exact LeO.none _)
      | (with_reducible refine LeO.ite ?_ ?_)
      | (with_reducible refine LeO.bind ?_ (fun _ => ?_))
      | exact ih0 _ _
      | exact ih1 _ _ _
      | exact ih2 _ _ _
      | exact ih3 _ _ _
      | exact ih4 _ _
      | exact nuncioref02_Fold.mono _ _
      | exact LeO.none _
      | refine LeO.ite ?_ ?_
      | refine LeO.bind ?_ (fun _ => ?_)
    · intro y0 y1 y2
      unfold nuncioref02_Media.j3
      repeat' first
      | (with_reducible exact ih0 _ _)
      | (with_reducible exact ih1 _ _ _)
      | (with_reducible exact ih2 _ _ _)
      | (with_reducible exact ih3 _ _ _)
      | (with_reducible exact ih4 _ _)
      | (with_reducible exact nuncioref02_Fold.mono _ _)
      | (with_reducible exact LeO.refl _)
      | (with_reducible exact LeO.none _)
      | (with_reducible refine LeO.ite ?_ ?_)
      | (with_reducible refine LeO.bind ?_ (fun _ => ?_))
      | exact ih0 _ _
      | exact ih1 _ _ _
      | exact ih2 _ _ _
      | exact ih3 _ _ _
      | exact ih4 _ _
      | exact nuncioref02_Fold.mono _ _
      | exact LeO.none _
      | refine LeO.ite ?_ ?_
      | refine LeO.bind ?_ (fun _ => ?_)
    · intro y0 y1 y2
      unfold nuncioref02_Media.l2
      repeat' first
      | (with_reducible exact ih0 _ _)
      | (with_reducible exact ih1 _ _ _)
      | (with_reducible exact ih2 _ _ _)
      | (with_reducible exact ih3 _ _ _)
      | (with_reducible exact ih4 _ _)
      | (with_reducible exact nuncioref02_Fold.mono _ _)
      | (with_reducible exact LeO.refl _)
      | (with_reducible exact LeO.none _)
      | (with_reducible refine LeO.ite ?_ ?_)
      | (with_reducible refine LeO.bind ?_ (fun _ => ?_))
      | exact ih0 _ _
      | exact ih1 _ _ _
      | exact ih2 _ _ _
      | exact ih3 _ _ _
      | exact ih4 _ _
      | exact nuncioref02_Fold.mono _ _
      | exact LeO.none _
      | refine LeO.ite ?_ ?_
      | refine LeO.bind ?_ (fun _ => ?_)
    · intro y0 y1 y2
      unfold nuncioref02_Media.l1
      repeat' first
      | (with_reducible exact ih0 _ _)
      | (with_reducible exact ih1 _ _ _)
      | (with_reducible exact ih2 _ _ _)
      | (with_reducible exact ih3 _ _ _)
      | (with_reducible exact ih4 _ _)
      | (with_reducible exact nuncioref02_Fold.mono _ _)
      | (with_reducible exact LeO.refl _)
      | (with_reducible exact LeO.none _)
      | (with_reducible refine LeO.ite ?_ ?_)
      | (with_reducible refine LeO.bind ?_ (fun _ => ?_))
      | exact ih0 _ _
      | exact ih1 _ _ _
      | exact ih2 _ _ _
      | exact ih3 _ _ _
      | exact ih4 _ _
      | exact nuncioref02_Fold.mono _ _
      | exact LeO.none _
      | refine LeO.ite ?_ ?_
      | refine LeO.bind ?_ (fun _ => ?_)
    · intro y0 y1
      unfold nuncioref02_Media.l0
      repeat' first
      | (with_reducible exact ih0 _ _)
      | (with_reducible exact ih1 _ _ _)
      | (with_reducible exact ih2 _ _ _)
      | (with_reducible exact ih3 _ _ _)
      | (with_reducible exact ih4 _ _)
      | (with_reducible exact nuncioref02_Fold.mono _ _)
      | (with_reducible exact LeO.refl _)
      | (with_reducible exact LeO.none _)
      | (with_reducible refine LeO.ite ?_ ?_)
      | (with_reducible refine LeO.bind ?_ (fun _ => ?_))
      | exact ih0 _ _
      | exact ih1 _ _ _
      | exact ih2 _ _ _
      | exact ih3 _ _ _
      | exact ih4 _ _
      | exact nuncioref02_Fold.mono _ _
      | exact LeO.none _
      | refine LeO.ite ?_ ?_
      | refine LeO.bind ?_ (fun _ => ?_)
theorem nuncioref02_Media.mono : ∀ a0 k, LeO (nuncioref02_Media.f k a0) (nuncioref02_Media.f (k + 1) a0) := by
  intro a0 k
  obtain ⟨ih0, ih1, ih2, ih3, ih4⟩ := nuncioref02_Media.mono_l k
  unfold nuncioref02_Media.f
  repeat' first
      | (with_reducible exact ih0 _ _)
      | (with_reducible exact ih1 _ _ _)
      | (with_reducible exact ih2 _ _ _)
      | (with_reducible exact ih3 _ _ _)
      | (with_reducible exact ih4 _ _)
      | (with_reducible exact nuncioref02_Fold.mono _ _)
      | (with_reducible exact LeO.refl _)
      | (with_reducible exact LeO.none _)
      | (with_reducible refine LeO.ite ?_ ?_)
      | (with_reducible refine LeO.bind ?_ (fun _ => ?_))
      | exact ih0 _ _
      | exact ih1 _ _ _
      | exact ih2 _ _ _
      | exact ih3 _ _ _
      | exact ih4 _ _
      | exact nuncioref02_Fold.mono _ _
      | exact LeO.none _
      | refine LeO.ite ?_ ?_
      | refine LeO.bind ?_ (fun _ => ?_)
set_option maxHeartbeats 8000000 in
set_option maxRecDepth 100000 in
theorem nuncioref02_Media.calls (k : Nat) (a0 : ByteArray) (r : ByteArray) (w : World) (h : nuncioref02_Media.f k a0 = some r) :
    Calls Tryd.prog 17 #[.string a0] w fun e w' => e = .returned (.string r) ∧ Below w.heap.size w w' := by
  have HB := Aside0.mk (Below.refl w.heap.size w)
  have H : (nuncioref02_Media.l0 k a0 0) = some r := h
  clear h
  have HC2 := Aside0.mk H
  clear H
  go_enter Tryd.func17, Tryd.ntmps17
  go_upto_block 0 with (fail)
  go_cut [3] (fun v3 wc => ∃ (kq : Nat) (x3_1 : Int), v3 = .int .i64 x3_1 ∧ Aside0 (nuncioref02_Media.j1 kq a0 x3_1 = some r) ∧ Aside0 (kq ≤ k) ∧ Aside0 (Below w.heap.size w wc))
  case first =>
    have H := HC2.out
    clear HC2
    have H' := Aside0.mk H
    clear H
    go_wp2
    go_loopg [3] k (fun kq v3 w' => ∃ (x3_1 : Int), v3 = .int .i64 x3_1 ∧ Aside0 (nuncioref02_Media.l0 kq a0 x3_1 = some r) ∧ Aside0 (kq ≤ k) ∧ Aside0 (Below w.heap.size w w'))
    case atStart => exact ⟨(0), (by first | rfl | (simp; done) | (simp [*]; done)), H', ⟨Nat.le_refl _⟩, ⟨by repeat (first | (with_reducible first | exact HB.out | apply below_alloc | apply pw_below_drewN | apply below_drew1) | exact HB.out)⟩⟩
    case round =>
      clear H'
      try clear c1
      try clear p2
      obtain ⟨x3_1, rfl, HA, HK1, HB⟩ := hrel
      cases gk with
      | zero => exact absurd HA.out (by simp [nuncioref02_Media.l0])
      | succ k1 =>
        have H := HA.out
        clear HA
        simp only [nuncioref02_Media.l0] at H
        by_cases c3 : x3_1 < (a0.size : Int)
        · rw [if_pos c3] at H
          have c3b0 : decide (x3_1 < (a0.size : Int)) = true := decide_eq_true c3
          clear c3
          (first | rw [c3b0] | (simp only [i64_w, i32_w]; rw [c3b0]) | skip)
          by_cases c4 : 0 ≤ x3_1
          · rw [if_pos c4] at H
            have c4b0 : decide (0 ≤ x3_1) = true := decide_eq_true c4
            clear c4
            by_cases c6 : (bt a0 x3_1) = 59
            · rw [if_pos c6] at H
              have c6b0 : ((bt a0 x3_1) == 59) = true := beq_iff_eq.mpr c6
              have c6b1 : ((bt a0 x3_1) != 59) = false := bne_eq_false_iff_eq.mpr c6
              clear c6
              have H' := Aside0.mk H
              clear H
              have p5 : 0 ≤ (x3_1 : Int) := of_decide_eq_true (by first | (with_reducible assumption) | assumption)
              have q5 : x3_1 < (a0.size : Int) := of_decide_eq_true (by first | (with_reducible assumption) | assumption)
              have hx5 := bt_at a0 x3_1
              replace p5 := eq_true p5
              replace q5 := eq_true q5
              go_wp2
              go_meet
              case rel => exact ⟨_, (x3_1), (by first | rfl | (simp; done) | (simp [*]; done)), H', ⟨by have := HK1.out; first | omega | exact Nat.le_refl _⟩, ⟨by repeat (first | (with_reducible first | exact HB.out | apply below_alloc | apply pw_below_drewN | apply below_drew1) | exact HB.out)⟩⟩
            · rw [if_neg c6] at H
              have c6b0 : ((bt a0 x3_1) == 59) = false := beq_eq_false_iff_ne.mpr c6
              have c6b1 : ((bt a0 x3_1) != 59) = true := bne_iff_ne.mpr c6
              have H' := Aside0.mk H
              clear H
              have p5 : 0 ≤ (x3_1 : Int) := of_decide_eq_true (by first | (with_reducible assumption) | assumption)
              have q5 : x3_1 < (a0.size : Int) := of_decide_eq_true (by first | (with_reducible assumption) | assumption)
              have hx5 := bt_at a0 x3_1
              replace p5 := eq_true p5
              replace q5 := eq_true q5
              go_wp2
              go_roundg k1
              case measure => have := HK1.out; omega
              case rel => exact ⟨(wrap64 (x3_1 + 1)), (by first | rfl | (simp; done) | (simp [*]; done)), H', ⟨by have := HK1.out; omega⟩, ⟨by repeat (first | (with_reducible first | exact HB.out | apply below_alloc | apply pw_below_drewN | apply below_drew1) | exact HB.out)⟩⟩
          · rw [if_neg c4] at H
            exact absurd H (by simp)
        · rw [if_neg c3] at H
          have c3b0 : decide (x3_1 < (a0.size : Int)) = false := decide_eq_false c3
          clear c3
          (first | rw [c3b0] | (simp only [i64_w, i32_w]; rw [c3b0]) | skip)
          have H' := Aside0.mk H
          clear H
          go_wp2
          go_meet
          case rel => exact ⟨_, (x3_1), (by first | rfl | (simp; done) | (simp [*]; done)), H', ⟨by have := HK1.out; first | omega | exact Nat.le_refl _⟩, ⟨by repeat (first | (with_reducible first | exact HB.out | apply below_alloc | apply pw_below_drewN | apply below_drew1) | exact HB.out)⟩⟩
  case rest =>
    clear HC2
    try clear c1
    try clear p2
    try clear c3
    try clear c3b0
    try clear c4
    try clear c4b0
    try clear p5
    try clear q5
    try clear hx5
    try clear c6
    try clear c6b0
    try clear c6b1
    try clear p6
    try clear p2
    try clear p5
    try clear q5
    obtain ⟨kq, x3_1, rfl, HA, HJ1, HB⟩ := hcut
    cases kq with
    | zero => exact absurd HA.out (by simp [nuncioref02_Media.j1])
    | succ kj1 =>
      have H := HA.out
      clear HA
      simp only [nuncioref02_Media.j1] at H
      have HC7 := Aside0.mk H
      clear H
      go_upto_block 2 with (fail)
      go_cut [4] (fun v4 wc => ∃ (kq : Nat) (x4_6 : Int), v4 = .int .i64 x4_6 ∧ Aside0 (nuncioref02_Media.j3 kq a0 x3_1 x4_6 = some r) ∧ Aside0 (kq ≤ kj1) ∧ Aside0 (Below w.heap.size w wc))
      case first =>
        have H := HC7.out
        clear HC7
        have H' := Aside0.mk H
        clear H
        go_wp2
        go_loopg [4] kj1 (fun kq v4 w' => ∃ (x4_2 : Int), v4 = .int .i64 x4_2 ∧ Aside0 (nuncioref02_Media.l1 kq a0 x3_1 x4_2 = some r) ∧ Aside0 (kq ≤ kj1) ∧ Aside0 (Below w.heap.size w w'))
        case atStart => exact ⟨(0), (by first | rfl | (simp; done) | (simp [*]; done)), H', ⟨Nat.le_refl _⟩, ⟨by repeat (first | (with_reducible first | exact HB.out | apply below_alloc | apply pw_below_drewN | apply below_drew1) | exact HB.out)⟩⟩
        case round =>
          clear H'
          try clear c1
          try clear p2
          try clear c3
          try clear c3b0
          try clear c4
          try clear c4b0
          try clear p5
          try clear q5
          try clear hx5
          try clear c6
          try clear c6b0
          try clear c6b1
          try clear p6
          try clear p2
          try clear p5
          try clear p6
          try clear q5
          obtain ⟨x4_2, rfl, HA, HK2, HB⟩ := hrel
          cases gk with
          | zero => exact absurd HA.out (by simp [nuncioref02_Media.l1])
          | succ k2 =>
            have H := HA.out
            clear HA
            simp only [nuncioref02_Media.l1] at H
            by_cases c8 : x4_2 < x3_1
            · rw [if_pos c8] at H
              have c8b0 : decide (x4_2 < x3_1) = true := decide_eq_true c8
              clear c8
              (first | rw [c8b0] | (simp only [i64_w, i32_w]; rw [c8b0]) | skip)
              by_cases c9 : 0 ≤ x4_2
              · rw [if_pos c9] at H
                have c9b0 : decide (0 ≤ x4_2) = true := decide_eq_true c9
                clear c9
                by_cases c10 : x4_2 < (a0.size : Int)
                · rw [if_pos c10] at H
                  have c10b0 : decide (x4_2 < (a0.size : Int)) = true := decide_eq_true c10
                  clear c10
                  replace H := Option.bind_eq_some_iff.mp H
                  obtain ⟨t183, A120, H⟩ := H
                  replace H : (if t183 = true then (nuncioref02_Media.l1 k2 a0 x3_1 (wrap64 (x4_2 + 1))) else (nuncioref02_Media.j3 k2 a0 x3_1 x4_2)) = some r := H
                  have A12 := Aside0.mk A120
                  clear A120
                  by_cases c13 : t183 = true
                  · subst c13
                    have H1 : (nuncioref02_Media.l1 k2 a0 x3_1 (wrap64 (x4_2 + 1))) = some r := by rw [if_pos rfl] at H; exact H
                    clear H
                    have H := H1
                    clear H1
                    have H' := Aside0.mk H
                    clear H
                    have p11 : 0 ≤ (x4_2 : Int) := of_decide_eq_true (by first | (with_reducible assumption) | assumption)
                    have q11 : x4_2 < (a0.size : Int) := of_decide_eq_true (by first | (with_reducible assumption) | assumption)
                    have hx11 := bt_at a0 x4_2
                    replace p11 := eq_true p11
                    replace q11 := eq_true q11
                    have tkA12 : True := trivial
                    go_wp2_with (first | (go_at_call 28; have t_ := tkA12; clear t_ tkA12; (with_reducible refine (nuncioref02_blank.calls (bt a0 x4_2) true _ A12.out).mono ?_); rintro e w' ⟨rfl, ⟨nd, rfl⟩⟩))
                    go_roundg k2
                    case measure => have := HJ1.out; have := HK2.out; omega
                    case rel => exact ⟨(wrap64 (x4_2 + 1)), (by first | rfl | (simp; done) | (simp [*]; done)), H', ⟨by have := HJ1.out; have := HK2.out; omega⟩, ⟨by repeat (first | (with_reducible first | exact HB.out | apply below_alloc | apply pw_below_drewN | apply below_drew1) | exact HB.out)⟩⟩
                  · replace c13 := Bool.eq_false_iff.mpr c13
                    subst c13
                    have H1 : (nuncioref02_Media.j3 k2 a0 x3_1 x4_2) = some r := by rw [if_neg (show ¬ (false = true) by decide)] at H; exact H
                    clear H
                    have H := H1
                    clear H1
                    have H' := Aside0.mk H
                    clear H
                    have p11 : 0 ≤ (x4_2 : Int) := of_decide_eq_true (by first | (with_reducible assumption) | assumption)
                    have q11 : x4_2 < (a0.size : Int) := of_decide_eq_true (by first | (with_reducible assumption) | assumption)
                    have hx11 := bt_at a0 x4_2
                    replace p11 := eq_true p11
                    replace q11 := eq_true q11
                    have tkA12 : True := trivial
                    go_wp2_with (first | (go_at_call 28; have t_ := tkA12; clear t_ tkA12; (with_reducible refine (nuncioref02_blank.calls (bt a0 x4_2) false _ A12.out).mono ?_); rintro e w' ⟨rfl, ⟨nd, rfl⟩⟩))
                    go_meet
                    case rel => exact ⟨_, (x4_2), (by first | rfl | (simp; done) | (simp [*]; done)), H', ⟨by have := HJ1.out; have := HK2.out; first | omega | exact Nat.le_refl _⟩, ⟨by repeat (first | (with_reducible first | exact HB.out | apply below_alloc | apply pw_below_drewN | apply below_drew1) | exact HB.out)⟩⟩
                · rw [if_neg c10] at H
                  exact absurd H (by simp)
              · rw [if_neg c9] at H
                exact absurd H (by simp)
            · rw [if_neg c8] at H
              have c8b0 : decide (x4_2 < x3_1) = false := decide_eq_false c8
              clear c8
              (first | rw [c8b0] | (simp only [i64_w, i32_w]; rw [c8b0]) | skip)
              have H' := Aside0.mk H
              clear H
              go_wp2
              go_meet
              case rel => exact ⟨_, (x4_2), (by first | rfl | (simp; done) | (simp [*]; done)), H', ⟨by have := HJ1.out; have := HK2.out; first | omega | exact Nat.le_refl _⟩, ⟨by repeat (first | (with_reducible first | exact HB.out | apply below_alloc | apply pw_below_drewN | apply below_drew1) | exact HB.out)⟩⟩
      case rest =>
        clear HC7
        try clear c1
        try clear p1
        try clear q1
        try clear hx1
        try clear p2
        try clear c3
        try clear c3b0
        try clear c4
        try clear c4b0
        try clear p5
        try clear q5
        try clear hx5
        try clear c6
        try clear c6b0
        try clear c6b1
        try clear p6
        try clear c8
        try clear c8b0
        try clear c9
        try clear c9b0
        try clear c10
        try clear c10b0
        try clear p11
        try clear q11
        try clear hx11
        try clear c13
        try clear p11
        try clear p2
        try clear p5
        try clear p6
        try clear q11
        try clear q5
        obtain ⟨kq, x4_6, rfl, HA, HJ6, HB⟩ := hcut
        cases kq with
        | zero => exact absurd HA.out (by simp [nuncioref02_Media.j3])
        | succ kj6 =>
          have H := HA.out
          clear HA
          simp only [nuncioref02_Media.j3] at H
          have H' := Aside0.mk H
          clear H
          go_wp2
          go_loopg [3] kj6 (fun kq v3 w' => ∃ (x3_3 : Int), v3 = .int .i64 x3_3 ∧ Aside0 (nuncioref02_Media.l2 kq a0 x3_3 x4_6 = some r) ∧ Aside0 (kq ≤ kj6) ∧ Aside0 (Below w.heap.size w w'))
          case atStart => exact ⟨(x3_1), (by first | rfl | (simp; done) | (simp [*]; done)), H', ⟨Nat.le_refl _⟩, ⟨by repeat (first | (with_reducible first | exact HB.out | apply below_alloc | apply pw_below_drewN | apply below_drew1) | exact HB.out)⟩⟩
          case round =>
            clear H'
            try clear c1
            try clear p1
            try clear q1
            try clear hx1
            try clear p2
            try clear c3
            try clear c3b0
            try clear c4
            try clear c4b0
            try clear p5
            try clear q5
            try clear hx5
            try clear c6
            try clear c6b0
            try clear c6b1
            try clear p6
            try clear c8
            try clear c8b0
            try clear c9
            try clear c9b0
            try clear c10
            try clear c10b0
            try clear p11
            try clear q11
            try clear hx11
            try clear c13
            try clear p1
            try clear p11
            try clear p2
            try clear p5
            try clear p6
            try clear q1
            try clear q11
            try clear q5
            obtain ⟨x3_3, rfl, HA, HK3, HB⟩ := hrel
            cases gk with
            | zero => exact absurd HA.out (by simp [nuncioref02_Media.l2])
            | succ k3 =>
              have H := HA.out
              clear HA
              simp only [nuncioref02_Media.l2] at H
              by_cases c14 : x3_3 > x4_6
              · rw [if_pos c14] at H
                have c14b0 : decide (x4_6 < x3_3) = true := decide_eq_true c14
                clear c14
                obtain ⟨ji15, hji15⟩ : ∃ j_ : Int, (wrap64 (x3_3 - 1)) = j_ := ⟨_, rfl⟩
                replace H : (if 0 ≤ (ji15) then (if (ji15) < (a0.size : Int) then ((nuncioref02_blank.f (bt a0 (ji15))).bind fun t184 => (if t184 = true then (nuncioref02_Media.l2 k3 a0 ji15 x4_6) else (if 0 ≤ x4_6 then (if x4_6 ≤ x3_3 then (if x3_3 ≤ (a0.size : Int) then ((nuncioref02_Fold.f k3 (a0.extract (x4_6 : Int).toNat (x3_3 : Int).toNat)).bind fun t185 => (some t185)) else (none)) else (none)) else (none)))) else (none)) else (none)) = some r := by first | (rw [hji15] at H; exact H) | (simp only [hji15] at H ⊢; exact H)
                have hji15w : (IntKind.i64.wrap (x3_3 - 1)) = ji15 := (i64_w _).trans hji15
                by_cases c16 : 0 ≤ (ji15)
                · rw [if_pos c16] at H
                  have c16b0 : decide (0 ≤ (ji15)) = true := decide_eq_true c16
                  clear c16
                  by_cases c17 : (ji15) < (a0.size : Int)
                  · rw [if_pos c17] at H
                    have c17b0 : decide ((ji15) < (a0.size : Int)) = true := decide_eq_true c17
                    clear c17
                    replace H := Option.bind_eq_some_iff.mp H
                    obtain ⟨t184, A190, H⟩ := H
                    replace H : (if t184 = true then (nuncioref02_Media.l2 k3 a0 ji15 x4_6) else (if 0 ≤ x4_6 then (if x4_6 ≤ x3_3 then (if x3_3 ≤ (a0.size : Int) then ((nuncioref02_Fold.f k3 (a0.extract (x4_6 : Int).toNat (x3_3 : Int).toNat)).bind fun t185 => (some t185)) else (none)) else (none)) else (none))) = some r := H
                    have A19 := Aside0.mk A190
                    clear A190
                    by_cases c20 : t184 = true
                    · subst c20
                      have H1 : (nuncioref02_Media.l2 k3 a0 ji15 x4_6) = some r := by rw [if_pos rfl] at H; exact H
                      clear H
                      have H := H1
                      clear H1
                      have H' := Aside0.mk H
                      clear H
                      have p18 : 0 ≤ ((ji15) : Int) := of_decide_eq_true (by first | (with_reducible assumption) | assumption)
                      have q18 : (ji15) < (a0.size : Int) := of_decide_eq_true (by first | (with_reducible assumption) | assumption)
                      have hx18 := bt_at a0 (ji15)
                      replace p18 := eq_true p18
                      replace q18 := eq_true q18
                      have tkA19 : True := trivial
                      go_wp2_with (first | (go_at_call 28; have t_ := tkA19; clear t_ tkA19; (with_reducible refine (nuncioref02_blank.calls (bt a0 (ji15)) true _ A19.out).mono ?_); rintro e w' ⟨rfl, ⟨nd, rfl⟩⟩))
                      go_roundg k3
                      case measure => have := HJ1.out; have := HJ6.out; have := HK3.out; omega
                      case rel => exact ⟨(ji15), (by first | rfl | (simp; done) | (simp only [← hji15] <;> (first | rfl | simp)) | (simp [*]; done)), H', ⟨by have := HJ1.out; have := HJ6.out; have := HK3.out; omega⟩, ⟨by repeat (first | (with_reducible first | exact HB.out | apply below_alloc | apply pw_below_drewN | apply below_drew1) | exact HB.out)⟩⟩
                    · replace c20 := Bool.eq_false_iff.mpr c20
                      subst c20
                      have H1 : (if 0 ≤ x4_6 then (if x4_6 ≤ x3_3 then (if x3_3 ≤ (a0.size : Int) then ((nuncioref02_Fold.f k3 (a0.extract (x4_6 : Int).toNat (x3_3 : Int).toNat)).bind fun t185 => (some t185)) else (none)) else (none)) else (none)) = some r := by rw [if_neg (show ¬ (false = true) by decide)] at H; exact H
                      clear H
                      have H := H1
                      clear H1
                      by_cases c21 : 0 ≤ x4_6
                      · rw [if_pos c21] at H
                        have c21b0 := eq_true c21
                        have c21b1 : decide (0 ≤ x4_6) = true := decide_eq_true c21
                        clear c21
                        by_cases c22 : x4_6 ≤ x3_3
                        · rw [if_pos c22] at H
                          have c22b0 := eq_true c22
                          have c22b1 : decide (x4_6 ≤ x3_3) = true := decide_eq_true c22
                          clear c22
                          by_cases c23 : x3_3 ≤ (a0.size : Int)
                          · rw [if_pos c23] at H
                            have c23b0 := eq_true c23
                            have c23b1 : decide (x3_3 ≤ (a0.size : Int)) = true := decide_eq_true c23
                            clear c23
                            replace H := Option.bind_eq_some_iff.mp H
                            obtain ⟨t185, A240, H⟩ := H
                            replace H : (some t185) = some r := H
                            have A24 := Aside0.mk A240
                            clear A240
                            obtain rfl := Option.some.inj H
                            have p18 : 0 ≤ ((ji15) : Int) := of_decide_eq_true (by first | (with_reducible assumption) | assumption)
                            have q18 : (ji15) < (a0.size : Int) := of_decide_eq_true (by first | (with_reducible assumption) | assumption)
                            have hx18 := bt_at a0 (ji15)
                            replace p18 := eq_true p18
                            replace q18 := eq_true q18
                            have tkA19 : True := trivial
                            go_wp2_with (first | (go_at_call 28; have t_ := tkA19; clear t_ tkA19; (with_reducible refine (nuncioref02_blank.calls (bt a0 (ji15)) false _ A19.out).mono ?_); rintro e w' ⟨rfl, ⟨nd, rfl⟩⟩) | ((with_reducible refine gate_callee (f := 10) rfl ?_); refine goesL_ (some 44) rfl rfl Tryd.func10 (by kernel_rfl) rfl #[.string (a0.extract (x4_6 : Int).toNat (x3_3 : Int).toNat)] rfl (by (try simp only [List.map_toArray, List.map_cons, List.map_nil]); first | done | rfl | (simp only [List.length_drop, List.length_take]; rfl)) ?_; (with_reducible refine (nuncioref02_Fold.calls k3 (a0.extract (x4_6 : Int).toNat (x3_3 : Int).toNat) t185 _ A24.out).mono ?_); rintro e w25 ⟨rfl, hb⟩; refine ⟨_, rfl, ?_⟩; have n0_ := Aside0.mk (below_step (by repeat (first | (with_reducible first | exact HB.out | apply below_alloc | apply pw_below_drewN | apply below_drew1) | exact HB.out)) hb); clear HB; have HB := n0_; clear n0_; (try clear hb); (try clear hb2); (try clear hk); (try clear hi)))
                            go_ret
                            exact ⟨by first | rfl | (simp [errW_none, errW_some] <;> rfl) | (simp only [← hji15]; first | rfl | (simp [errW_none, errW_some] <;> rfl)) | (simp [*, errW_none, errW_some] <;> rfl), by repeat (first | (with_reducible first | exact HB.out | apply below_alloc | apply pw_below_drewN | apply below_drew1) | exact HB.out)⟩
                          · rw [if_neg c23] at H
                            exact absurd H (by simp)
                        · rw [if_neg c22] at H
                          exact absurd H (by simp)
                      · rw [if_neg c21] at H
                        exact absurd H (by simp)
                  · rw [if_neg c17] at H
                    exact absurd H (by simp)
                · rw [if_neg c16] at H
                  exact absurd H (by simp)
              · rw [if_neg c14] at H
                have c14b0 : decide (x4_6 < x3_3) = false := decide_eq_false c14
                clear c14
                by_cases c26 : 0 ≤ x4_6
                · rw [if_pos c26] at H
                  have c26b0 := eq_true c26
                  have c26b1 : decide (0 ≤ x4_6) = true := decide_eq_true c26
                  clear c26
                  by_cases c27 : x4_6 ≤ x3_3
                  · rw [if_pos c27] at H
                    have c27b0 := eq_true c27
                    have c27b1 : decide (x4_6 ≤ x3_3) = true := decide_eq_true c27
                    clear c27
                    by_cases c28 : x3_3 ≤ (a0.size : Int)
                    · rw [if_pos c28] at H
                      have c28b0 := eq_true c28
                      have c28b1 : decide (x3_3 ≤ (a0.size : Int)) = true := decide_eq_true c28
                      clear c28
                      replace H := Option.bind_eq_some_iff.mp H
                      obtain ⟨t186, A290, H⟩ := H
                      replace H : (some t186) = some r := H
                      have A29 := Aside0.mk A290
                      clear A290
                      obtain rfl := Option.some.inj H
                      go_wp2_with (first | ((with_reducible refine gate_callee (f := 10) rfl ?_); refine goesL_ (some 44) rfl rfl Tryd.func10 (by kernel_rfl) rfl #[.string (a0.extract (x4_6 : Int).toNat (x3_3 : Int).toNat)] rfl (by (try simp only [List.map_toArray, List.map_cons, List.map_nil]); first | done | rfl | (simp only [List.length_drop, List.length_take]; rfl)) ?_; (with_reducible refine (nuncioref02_Fold.calls k3 (a0.extract (x4_6 : Int).toNat (x3_3 : Int).toNat) t186 _ A29.out).mono ?_); rintro e w30 ⟨rfl, hb⟩; refine ⟨_, rfl, ?_⟩; have n0_ := Aside0.mk (below_step (by repeat (first | (with_reducible first | exact HB.out | apply below_alloc | apply pw_below_drewN | apply below_drew1) | exact HB.out)) hb); clear HB; have HB := n0_; clear n0_; (try clear hb); (try clear hb2); (try clear hk); (try clear hi)))
                      go_ret
                      exact ⟨by first | rfl | (simp [errW_none, errW_some] <;> rfl) | (simp [*, errW_none, errW_some] <;> rfl), by repeat (first | (with_reducible first | exact HB.out | apply below_alloc | apply pw_below_drewN | apply below_drew1) | exact HB.out)⟩
                    · rw [if_neg c28] at H
                      exact absurd H (by simp)
                  · rw [if_neg c27] at H
                    exact absurd H (by simp)
                · rw [if_neg c26] at H
                  exact absurd H (by simp)

/-! ### nunciolaw02_TextTells: function 4 -/
def nunciolaw02_TextTells.f (k : Nat) (a0 : ByteArray) : Option (Bool) := (nunciolaw02_awake.f).bind fun t187 => (if t187 = true then (if (a0.size : Int) > 20000 then (some true) else ((text_Token.f a0).bind fun t188 => ((nuncioref02_Token.f k a0).bind fun t189 => (if (t188 == t189) = true then ((text_Value.f a0).bind fun t190 => ((nuncioref02_Value.f k a0).bind fun t191 => (if (t190 == t191) = true then ((text_Media.f a0).bind fun t192 => ((nuncioref02_Media.f k a0).bind fun t193 => (some (t192.toList == t193.toList)))) else (some false)))) else (some false))))) else (some false))
theorem nunciolaw02_TextTells.mono : ∀ a0 k, LeO (nunciolaw02_TextTells.f k a0) (nunciolaw02_TextTells.f (k + 1) a0) := by
  intro a0 k
  unfold nunciolaw02_TextTells.f
  repeat' first
      | (with_reducible exact nuncioref02_Media.mono _ _)
      | (with_reducible exact nuncioref02_Token.mono _ _)
      | (with_reducible exact nuncioref02_Value.mono _ _)
      | (with_reducible exact LeO.refl _)
      | (with_reducible exact LeO.none _)
      | (with_reducible refine LeO.ite ?_ ?_)
      | (with_reducible refine LeO.bind ?_ (fun _ => ?_))
      | exact nuncioref02_Media.mono _ _
      | exact nuncioref02_Token.mono _ _
      | exact nuncioref02_Value.mono _ _
      | exact LeO.none _
      | refine LeO.ite ?_ ?_
      | refine LeO.bind ?_ (fun _ => ?_)
set_option maxHeartbeats 8000000 in
set_option maxRecDepth 100000 in
theorem nunciolaw02_TextTells.calls (k : Nat) (a0 : ByteArray) (r : Bool) (w : World) (h : nunciolaw02_TextTells.f k a0 = some r) (hG : Aside0 (Glob w)) :
    Calls Tryd.prog 4 #[.string a0] w fun e w' => e = .returned (.bool r) ∧ Below w.heap.size w w' := by
  have HB := Aside0.mk (Below.refl w.heap.size w)
  have H : ((nunciolaw02_awake.f).bind fun t187 => (if t187 = true then (if (a0.size : Int) > 20000 then (some true) else ((text_Token.f a0).bind fun t188 => ((nuncioref02_Token.f k a0).bind fun t189 => (if (t188 == t189) = true then ((text_Value.f a0).bind fun t190 => ((nuncioref02_Value.f k a0).bind fun t191 => (if (t190 == t191) = true then ((text_Media.f a0).bind fun t192 => ((nuncioref02_Media.f k a0).bind fun t193 => (some (t192.toList == t193.toList)))) else (some false)))) else (some false))))) else (some false))) = some r := h
  clear h
  replace H := Option.bind_eq_some_iff.mp H
  obtain ⟨t187, A20, H⟩ := H
  replace H : (if t187 = true then (if (a0.size : Int) > 20000 then (some true) else ((text_Token.f a0).bind fun t188 => ((nuncioref02_Token.f k a0).bind fun t189 => (if (t188 == t189) = true then ((text_Value.f a0).bind fun t190 => ((nuncioref02_Value.f k a0).bind fun t191 => (if (t190 == t191) = true then ((text_Media.f a0).bind fun t192 => ((nuncioref02_Media.f k a0).bind fun t193 => (some (t192.toList == t193.toList)))) else (some false)))) else (some false))))) else (some false)) = some r := H
  have A2 := Aside0.mk A20
  clear A20
  by_cases c3 : t187 = true
  · subst c3
    have H1 : (if (a0.size : Int) > 20000 then (some true) else ((text_Token.f a0).bind fun t188 => ((nuncioref02_Token.f k a0).bind fun t189 => (if (t188 == t189) = true then ((text_Value.f a0).bind fun t190 => ((nuncioref02_Value.f k a0).bind fun t191 => (if (t190 == t191) = true then ((text_Media.f a0).bind fun t192 => ((nuncioref02_Media.f k a0).bind fun t193 => (some (t192.toList == t193.toList)))) else (some false)))) else (some false))))) = some r := by rw [if_pos rfl] at H; exact H
    clear H
    have H := H1
    clear H1
    by_cases c4 : (a0.size : Int) > 20000
    · rw [if_pos c4] at H
      have c4b0 : decide (20000 < (a0.size : Int)) = true := decide_eq_true c4
      have c4b1 : decide (20000 < a0.size) = true := decide_eq_true (by omega)
      clear c4
      obtain rfl := Option.some.inj H
      go_enter Tryd.func4, Tryd.ntmps4
      go_wp2_with (first | ((with_reducible refine gate_callee (f := 8) rfl ?_); refine goesL_ (some 3) rfl rfl Tryd.func8 (by kernel_rfl) rfl #[] rfl (by (try simp only [List.map_toArray, List.map_cons, List.map_nil]); first | done | rfl | (simp only [List.length_drop, List.length_take]; rfl)) ?_; (with_reducible refine (nunciolaw02_awake.calls  true _ A2.out (Glob.below hG rfl (by repeat (first | (with_reducible first | exact HB.out | apply below_alloc | apply pw_below_drewN | apply below_drew1) | exact HB.out)))).mono ?_); rintro e w5 ⟨rfl, hb⟩; refine ⟨_, rfl, ?_⟩; have n0_ := Aside0.mk (below_step (by repeat (first | (with_reducible first | exact HB.out | apply below_alloc | apply pw_below_drewN | apply below_drew1) | exact HB.out)) hb); clear HB; have HB := n0_; clear n0_; (try clear hb); (try clear hb2); (try clear hk); (try clear hi)))
      go_ret
      exact ⟨by first | rfl | (simp [errW_none, errW_some] <;> rfl) | (simp [*, errW_none, errW_some] <;> rfl), by repeat (first | (with_reducible first | exact HB.out | apply below_alloc | apply pw_below_drewN | apply below_drew1) | exact HB.out)⟩
    · rw [if_neg c4] at H
      have c4b0 : decide (20000 < (a0.size : Int)) = false := decide_eq_false c4
      have c4b1 : decide (20000 < a0.size) = false := decide_eq_false (by omega)
      clear c4
      replace H := Option.bind_eq_some_iff.mp H
      obtain ⟨t188, A60, H⟩ := H
      replace H : ((nuncioref02_Token.f k a0).bind fun t189 => (if (t188 == t189) = true then ((text_Value.f a0).bind fun t190 => ((nuncioref02_Value.f k a0).bind fun t191 => (if (t190 == t191) = true then ((text_Media.f a0).bind fun t192 => ((nuncioref02_Media.f k a0).bind fun t193 => (some (t192.toList == t193.toList)))) else (some false)))) else (some false))) = some r := H
      have A6 := Aside0.mk A60
      clear A60
      replace H := Option.bind_eq_some_iff.mp H
      obtain ⟨t189, A70, H⟩ := H
      replace H : (if (t188 == t189) = true then ((text_Value.f a0).bind fun t190 => ((nuncioref02_Value.f k a0).bind fun t191 => (if (t190 == t191) = true then ((text_Media.f a0).bind fun t192 => ((nuncioref02_Media.f k a0).bind fun t193 => (some (t192.toList == t193.toList)))) else (some false)))) else (some false)) = some r := H
      have A7 := Aside0.mk A70
      clear A70
      by_cases c8 : (t188 == t189) = true
      · rw [if_pos c8] at H
        have c8b0 : (t188 == t189) = true := c8
        (try (have c8b1 : decide (t188 = t189) = true := by simpa using c8))
        (try (have c8b2 : (t188 == t189) = true := by simpa using c8))
        clear c8
        replace H := Option.bind_eq_some_iff.mp H
        obtain ⟨t190, A90, H⟩ := H
        replace H : ((nuncioref02_Value.f k a0).bind fun t191 => (if (t190 == t191) = true then ((text_Media.f a0).bind fun t192 => ((nuncioref02_Media.f k a0).bind fun t193 => (some (t192.toList == t193.toList)))) else (some false))) = some r := H
        have A9 := Aside0.mk A90
        clear A90
        replace H := Option.bind_eq_some_iff.mp H
        obtain ⟨t191, A100, H⟩ := H
        replace H : (if (t190 == t191) = true then ((text_Media.f a0).bind fun t192 => ((nuncioref02_Media.f k a0).bind fun t193 => (some (t192.toList == t193.toList)))) else (some false)) = some r := H
        have A10 := Aside0.mk A100
        clear A100
        by_cases c11 : (t190 == t191) = true
        · rw [if_pos c11] at H
          have c11b0 : (t190 == t191) = true := c11
          (try (have c11b1 : decide (t190 = t191) = true := by simpa using c11))
          (try (have c11b2 : (t190 == t191) = true := by simpa using c11))
          clear c11
          replace H := Option.bind_eq_some_iff.mp H
          obtain ⟨t192, A120, H⟩ := H
          replace H : ((nuncioref02_Media.f k a0).bind fun t193 => (some (t192.toList == t193.toList))) = some r := H
          have A12 := Aside0.mk A120
          clear A120
          replace H := Option.bind_eq_some_iff.mp H
          obtain ⟨t193, A130, H⟩ := H
          replace H : (some (t192.toList == t193.toList)) = some r := H
          have A13 := Aside0.mk A130
          clear A130
          obtain rfl := Option.some.inj H
          go_enter Tryd.func4, Tryd.ntmps4
          go_wp2_with (first | ((with_reducible refine gate_callee (f := 8) rfl ?_); refine goesL_ (some 3) rfl rfl Tryd.func8 (by kernel_rfl) rfl #[] rfl (by (try simp only [List.map_toArray, List.map_cons, List.map_nil]); first | done | rfl | (simp only [List.length_drop, List.length_take]; rfl)) ?_; (with_reducible refine (nunciolaw02_awake.calls  true _ A2.out (Glob.below hG rfl (by repeat (first | (with_reducible first | exact HB.out | apply below_alloc | apply pw_below_drewN | apply below_drew1) | exact HB.out)))).mono ?_); rintro e w14 ⟨rfl, hb⟩; refine ⟨_, rfl, ?_⟩; have n0_ := Aside0.mk (below_step (by repeat (first | (with_reducible first | exact HB.out | apply below_alloc | apply pw_below_drewN | apply below_drew1) | exact HB.out)) hb); clear HB; have HB := n0_; clear n0_; (try clear hb); (try clear hb2); (try clear hk); (try clear hi)) | ((with_reducible refine gate_callee (f := 12) rfl ?_); refine goesL_ (some 9) rfl rfl Tryd.func12 (by kernel_rfl) rfl #[.string a0] rfl (by (try simp only [List.map_toArray, List.map_cons, List.map_nil]); first | done | rfl | (simp only [List.length_drop, List.length_take]; rfl)) ?_; (with_reducible refine (text_Token.calls a0 t188 _ A6.out).mono ?_); rintro e w15 ⟨rfl, hb⟩; refine ⟨_, rfl, ?_⟩; have n0_ := Aside0.mk (below_step (by repeat (first | (with_reducible first | exact HB.out | apply below_alloc | apply pw_below_drewN | apply below_drew1) | exact HB.out)) hb); clear HB; have HB := n0_; clear n0_; (try clear hb); (try clear hb2); (try clear hk); (try clear hi)) | ((with_reducible refine gate_callee (f := 13) rfl ?_); refine goesL_ (some 11) rfl rfl Tryd.func13 (by kernel_rfl) rfl #[.string a0] rfl (by (try simp only [List.map_toArray, List.map_cons, List.map_nil]); first | done | rfl | (simp only [List.length_drop, List.length_take]; rfl)) ?_; (with_reducible refine (nuncioref02_Token.calls k a0 t189 _ A7.out).mono ?_); rintro e w' ⟨rfl, ⟨nd, rfl⟩⟩; refine ⟨_, rfl, ?_⟩; have tkA9 : True := trivial) | (go_at_call 14; have t_ := tkA9; clear t_ tkA9; (with_reducible refine (text_Value.calls a0 t190 _ A9.out).mono ?_); rintro e w16 ⟨rfl, hb⟩; have n0_ := Aside0.mk (below_step (by repeat (first | (with_reducible first | exact HB.out | apply below_alloc | apply pw_below_drewN | apply below_drew1) | exact HB.out)) hb); clear HB; have HB := n0_; clear n0_; (try clear hb); (try clear hb2); (try clear hk); (try clear hi); have tkA10 : True := trivial) | (go_at_call 15; have t_ := tkA10; clear t_ tkA10; (with_reducible refine (nuncioref02_Value.calls k a0 t191 _ A10.out).mono ?_); rintro e w' ⟨rfl, ⟨nd, rfl⟩⟩; have tkA12 : True := trivial) | (go_at_call 16; have t_ := tkA12; clear t_ tkA12; (with_reducible refine (text_Media.calls a0 t192 _ A12.out).mono ?_); rintro e w17 ⟨rfl, hb⟩; have n0_ := Aside0.mk (below_step (by repeat (first | (with_reducible first | exact HB.out | apply below_alloc | apply pw_below_drewN | apply below_drew1) | exact HB.out)) hb); clear HB; have HB := n0_; clear n0_; (try clear hb); (try clear hb2); (try clear hk); (try clear hi); have tkA13 : True := trivial) | (go_at_call 17; have t_ := tkA13; clear t_ tkA13; (with_reducible refine (nuncioref02_Media.calls k a0 t193 _ A13.out).mono ?_); rintro e w18 ⟨rfl, hb⟩; have n0_ := Aside0.mk (below_step (by repeat (first | (with_reducible first | exact HB.out | apply below_alloc | apply pw_below_drewN | apply below_drew1) | exact HB.out)) hb); clear HB; have HB := n0_; clear n0_; (try clear hb); (try clear hb2); (try clear hk); (try clear hi)))
          go_ret
          exact ⟨by first | rfl | (simp [errW_none, errW_some] <;> rfl) | (simp [*, errW_none, errW_some] <;> rfl), by repeat (first | (with_reducible first | exact HB.out | apply below_alloc | apply pw_below_drewN | apply below_drew1) | exact HB.out)⟩
        · rw [if_neg c11] at H
          have c11b0 : (t190 == t191) = false := by simpa using c11
          (try (have c11b1 : decide (t190 = t191) = false := by simpa using c11))
          (try (have c11b2 : (t190 == t191) = false := by simpa using c11))
          (try (have c11b3 : ¬ (t190 = t191) := by simpa using c11))
          clear c11
          obtain rfl := Option.some.inj H
          go_enter Tryd.func4, Tryd.ntmps4
          go_wp2_with (first | ((with_reducible refine gate_callee (f := 8) rfl ?_); refine goesL_ (some 3) rfl rfl Tryd.func8 (by kernel_rfl) rfl #[] rfl (by (try simp only [List.map_toArray, List.map_cons, List.map_nil]); first | done | rfl | (simp only [List.length_drop, List.length_take]; rfl)) ?_; (with_reducible refine (nunciolaw02_awake.calls  true _ A2.out (Glob.below hG rfl (by repeat (first | (with_reducible first | exact HB.out | apply below_alloc | apply pw_below_drewN | apply below_drew1) | exact HB.out)))).mono ?_); rintro e w19 ⟨rfl, hb⟩; refine ⟨_, rfl, ?_⟩; have n0_ := Aside0.mk (below_step (by repeat (first | (with_reducible first | exact HB.out | apply below_alloc | apply pw_below_drewN | apply below_drew1) | exact HB.out)) hb); clear HB; have HB := n0_; clear n0_; (try clear hb); (try clear hb2); (try clear hk); (try clear hi)) | ((with_reducible refine gate_callee (f := 12) rfl ?_); refine goesL_ (some 9) rfl rfl Tryd.func12 (by kernel_rfl) rfl #[.string a0] rfl (by (try simp only [List.map_toArray, List.map_cons, List.map_nil]); first | done | rfl | (simp only [List.length_drop, List.length_take]; rfl)) ?_; (with_reducible refine (text_Token.calls a0 t188 _ A6.out).mono ?_); rintro e w20 ⟨rfl, hb⟩; refine ⟨_, rfl, ?_⟩; have n0_ := Aside0.mk (below_step (by repeat (first | (with_reducible first | exact HB.out | apply below_alloc | apply pw_below_drewN | apply below_drew1) | exact HB.out)) hb); clear HB; have HB := n0_; clear n0_; (try clear hb); (try clear hb2); (try clear hk); (try clear hi)) | ((with_reducible refine gate_callee (f := 13) rfl ?_); refine goesL_ (some 11) rfl rfl Tryd.func13 (by kernel_rfl) rfl #[.string a0] rfl (by (try simp only [List.map_toArray, List.map_cons, List.map_nil]); first | done | rfl | (simp only [List.length_drop, List.length_take]; rfl)) ?_; (with_reducible refine (nuncioref02_Token.calls k a0 t189 _ A7.out).mono ?_); rintro e w' ⟨rfl, ⟨nd, rfl⟩⟩; refine ⟨_, rfl, ?_⟩; have tkA9 : True := trivial) | (go_at_call 14; have t_ := tkA9; clear t_ tkA9; (with_reducible refine (text_Value.calls a0 t190 _ A9.out).mono ?_); rintro e w21 ⟨rfl, hb⟩; have n0_ := Aside0.mk (below_step (by repeat (first | (with_reducible first | exact HB.out | apply below_alloc | apply pw_below_drewN | apply below_drew1) | exact HB.out)) hb); clear HB; have HB := n0_; clear n0_; (try clear hb); (try clear hb2); (try clear hk); (try clear hi); have tkA10 : True := trivial) | (go_at_call 15; have t_ := tkA10; clear t_ tkA10; (with_reducible refine (nuncioref02_Value.calls k a0 t191 _ A10.out).mono ?_); rintro e w' ⟨rfl, ⟨nd, rfl⟩⟩))
          go_ret
          exact ⟨by first | rfl | (simp [errW_none, errW_some] <;> rfl) | (simp [*, errW_none, errW_some] <;> rfl), by repeat (first | (with_reducible first | exact HB.out | apply below_alloc | apply pw_below_drewN | apply below_drew1) | exact HB.out)⟩
      · rw [if_neg c8] at H
        have c8b0 : (t188 == t189) = false := by simpa using c8
        (try (have c8b1 : decide (t188 = t189) = false := by simpa using c8))
        (try (have c8b2 : (t188 == t189) = false := by simpa using c8))
        (try (have c8b3 : ¬ (t188 = t189) := by simpa using c8))
        clear c8
        obtain rfl := Option.some.inj H
        go_enter Tryd.func4, Tryd.ntmps4
        go_wp2_with (first | ((with_reducible refine gate_callee (f := 8) rfl ?_); refine goesL_ (some 3) rfl rfl Tryd.func8 (by kernel_rfl) rfl #[] rfl (by (try simp only [List.map_toArray, List.map_cons, List.map_nil]); first | done | rfl | (simp only [List.length_drop, List.length_take]; rfl)) ?_; (with_reducible refine (nunciolaw02_awake.calls  true _ A2.out (Glob.below hG rfl (by repeat (first | (with_reducible first | exact HB.out | apply below_alloc | apply pw_below_drewN | apply below_drew1) | exact HB.out)))).mono ?_); rintro e w22 ⟨rfl, hb⟩; refine ⟨_, rfl, ?_⟩; have n0_ := Aside0.mk (below_step (by repeat (first | (with_reducible first | exact HB.out | apply below_alloc | apply pw_below_drewN | apply below_drew1) | exact HB.out)) hb); clear HB; have HB := n0_; clear n0_; (try clear hb); (try clear hb2); (try clear hk); (try clear hi)) | ((with_reducible refine gate_callee (f := 12) rfl ?_); refine goesL_ (some 9) rfl rfl Tryd.func12 (by kernel_rfl) rfl #[.string a0] rfl (by (try simp only [List.map_toArray, List.map_cons, List.map_nil]); first | done | rfl | (simp only [List.length_drop, List.length_take]; rfl)) ?_; (with_reducible refine (text_Token.calls a0 t188 _ A6.out).mono ?_); rintro e w23 ⟨rfl, hb⟩; refine ⟨_, rfl, ?_⟩; have n0_ := Aside0.mk (below_step (by repeat (first | (with_reducible first | exact HB.out | apply below_alloc | apply pw_below_drewN | apply below_drew1) | exact HB.out)) hb); clear HB; have HB := n0_; clear n0_; (try clear hb); (try clear hb2); (try clear hk); (try clear hi)) | ((with_reducible refine gate_callee (f := 13) rfl ?_); refine goesL_ (some 11) rfl rfl Tryd.func13 (by kernel_rfl) rfl #[.string a0] rfl (by (try simp only [List.map_toArray, List.map_cons, List.map_nil]); first | done | rfl | (simp only [List.length_drop, List.length_take]; rfl)) ?_; (with_reducible refine (nuncioref02_Token.calls k a0 t189 _ A7.out).mono ?_); rintro e w' ⟨rfl, ⟨nd, rfl⟩⟩; refine ⟨_, rfl, ?_⟩))
        go_ret
        exact ⟨by first | rfl | (simp [errW_none, errW_some] <;> rfl) | (simp [*, errW_none, errW_some] <;> rfl), by repeat (first | (with_reducible first | exact HB.out | apply below_alloc | apply pw_below_drewN | apply below_drew1) | exact HB.out)⟩
  · replace c3 := Bool.eq_false_iff.mpr c3
    subst c3
    have H1 : (some false) = some r := by rw [if_neg (show ¬ (false = true) by decide)] at H; exact H
    clear H
    have H := H1
    clear H1
    obtain rfl := Option.some.inj H
    go_enter Tryd.func4, Tryd.ntmps4
    go_wp2_with (first | ((with_reducible refine gate_callee (f := 8) rfl ?_); refine goesL_ (some 3) rfl rfl Tryd.func8 (by kernel_rfl) rfl #[] rfl (by (try simp only [List.map_toArray, List.map_cons, List.map_nil]); first | done | rfl | (simp only [List.length_drop, List.length_take]; rfl)) ?_; (with_reducible refine (nunciolaw02_awake.calls  false _ A2.out (Glob.below hG rfl (by repeat (first | (with_reducible first | exact HB.out | apply below_alloc | apply pw_below_drewN | apply below_drew1) | exact HB.out)))).mono ?_); rintro e w24 ⟨rfl, hb⟩; refine ⟨_, rfl, ?_⟩; have n0_ := Aside0.mk (below_step (by repeat (first | (with_reducible first | exact HB.out | apply below_alloc | apply pw_below_drewN | apply below_drew1) | exact HB.out)) hb); clear HB; have HB := n0_; clear n0_; (try clear hb); (try clear hb2); (try clear hk); (try clear hi)))
    go_ret
    exact ⟨by first | rfl | (simp [errW_none, errW_some] <;> rfl) | (simp [*, errW_none, errW_some] <;> rfl), by repeat (first | (with_reducible first | exact HB.out | apply below_alloc | apply pw_below_drewN | apply below_drew1) | exact HB.out)⟩

/-- THE ONE PURE STATEMENT of nunciolaw02_TextTells: yours. -/
def nunciolaw02_TextTells.Pure : Prop := ∀ (a0 : ByteArray), a0.size ≤ 140737488351232 → ∃ k, nunciolaw02_TextTells.f k a0 = some true
theorem nunciolaw02_TextTells.walk (P : nunciolaw02_TextTells.Pure) (a0 : ByteArray) (w : World) (w0 : a0.size ≤ 140737488351232) (hG : Aside0 (Glob w)) :
    Calls Tryd.prog 4 #[.string a0] w fun e w' => e = .returned (.bool true) ∧ Below w.heap.size w w' := by
  obtain ⟨k, h⟩ := P a0 w0
  refine (nunciolaw02_TextTells.calls k a0 true w h hG).mono ?_
  rintro e w' ⟨rfl, hd⟩
  exact ⟨rfl, hd⟩

end Go.Proofs.YtkcliilifdcbbaaDoor.P
