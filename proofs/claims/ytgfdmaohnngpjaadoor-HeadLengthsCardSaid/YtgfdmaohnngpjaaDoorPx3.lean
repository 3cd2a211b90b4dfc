/- Functions of the program as plain functions, and the contract of each: written by a program of this session over the seat's translation. Conditions: those that each theorem names. -/
import Derived.Test.YtgfdmaohnngpjaaDoorPx0
import Derived.Test.YtgfdmaohnngpjaaDoorPx2
namespace Go.Proofs.YtgfdmaohnngpjaaDoor.P
open Go.RowKit Go.Proofs.YtgfdmaohnngpjaaDoorW.PrintWords Go.Proofs.YtgfdmaohnngpjaaDoorW.PrintLast Go.Proofs.YtgfdmaohnngpjaaDoorW.PrintMore
attribute [local go_sem] max2_int min2_int max_two min_two max_three min_three max_four min_four   -- for this text's walks alone
set_option linter.unusedVariables false
set_option linter.unusedSimpArgs false

/-! ### text_sign: function 41 -/
def text_sign.f (a0 : Int) : Option (Bool) := if ((a0 - 97) % 256) < 26 then (some true) else (if ((a0 - 65) % 256) < 26 then (some true) else (if ((a0 - 48) % 256) < 10 then (some true) else ((strings_IndexByte.f (⟨#[33, 35, 36, 37, 38, 39, 42, 43, 45, 46, 94, 95, 96, 124, 126]⟩ : ByteArray) a0).bind fun t101 => (some (decide (t101 ≥ 0))))))
set_option maxHeartbeats 8000000 in
set_option maxRecDepth 100000 in
theorem text_sign.calls (a0 : Int) (r : Bool) (w : World) (h : text_sign.f a0 = some r) :
    Calls Tryd.prog 41 #[.int .u8 a0] w fun e w' => e = .returned (.bool r) ∧ Drawn0 w w' := by
  have H : (if ((a0 - 97) % 256) < 26 then (some true) else (if ((a0 - 65) % 256) < 26 then (some true) else (if ((a0 - 48) % 256) < 10 then (some true) else ((strings_IndexByte.f (⟨#[33, 35, 36, 37, 38, 39, 42, 43, 45, 46, 94, 95, 96, 124, 126]⟩ : ByteArray) a0).bind fun t101 => (some (decide (t101 ≥ 0))))))) = some r := h
  clear h
  by_cases c2 : ((a0 - 97) % 256) < 26
  · rw [if_pos c2] at H
    have c2b0 : decide (((a0 - 97) % 256) < 26) = true := decide_eq_true c2
    clear c2
    obtain rfl := Option.some.inj H
    go_enter Tryd.func41, Tryd.ntmps41
    go_wp2
    go_ret
    exact ⟨by first | rfl | (simp; done) | (simp [*]; done), by repeat (first | exact Drawn0.refl _ | apply Drawn0.step)⟩
  · rw [if_neg c2] at H
    have c2b0 : decide (((a0 - 97) % 256) < 26) = false := decide_eq_false c2
    clear c2
    by_cases c3 : ((a0 - 65) % 256) < 26
    · rw [if_pos c3] at H
      have c3b0 : decide (((a0 - 65) % 256) < 26) = true := decide_eq_true c3
      clear c3
      obtain rfl := Option.some.inj H
      go_enter Tryd.func41, Tryd.ntmps41
      go_wp2
      go_ret
      exact ⟨by first | rfl | (simp; done) | (simp [*]; done), by repeat (first | exact Drawn0.refl _ | apply Drawn0.step)⟩
    · rw [if_neg c3] at H
      have c3b0 : decide (((a0 - 65) % 256) < 26) = false := decide_eq_false c3
      clear c3
      by_cases c4 : ((a0 - 48) % 256) < 10
      · rw [if_pos c4] at H
        have c4b0 : decide (((a0 - 48) % 256) < 10) = true := decide_eq_true c4
        clear c4
        obtain rfl := Option.some.inj H
        go_enter Tryd.func41, Tryd.ntmps41
        go_wp2
        go_ret
        exact ⟨by first | rfl | (simp; done) | (simp [*]; done), by repeat (first | exact Drawn0.refl _ | apply Drawn0.step)⟩
      · rw [if_neg c4] at H
        have c4b0 : decide (((a0 - 48) % 256) < 10) = false := decide_eq_false c4
        clear c4
        replace H := Option.bind_eq_some_iff.mp H
        obtain ⟨t101, A50, H⟩ := H
        replace H : (some (decide (t101 ≥ 0))) = some r := H
        have A5 := Aside0.mk A50
        clear A50
        obtain rfl := Option.some.inj H
        have tkA5 : True := trivial
        go_enter Tryd.func41, Tryd.ntmps41
        go_wp2_with (first | (go_at_call 54; have t_ := tkA5; clear t_ tkA5; (with_reducible refine (strings_IndexByte.calls (⟨#[33, 35, 36, 37, 38, 39, 42, 43, 45, 46, 94, 95, 96, 124, 126]⟩ : ByteArray) a0 t101 _ A5.out).mono ?_); rintro e w' ⟨rfl, ⟨nd, rfl⟩⟩))
        go_ret
        exact ⟨by first | rfl | (simp; done) | (simp [*]; done), by repeat (first | exact Drawn0.refl _ | apply Drawn0.step)⟩

/-! ### text_shown: function 42 -/
def text_shown.f (a0 : Int) : Option (Bool) := if a0 = 9 then (some true) else (if ((a0 - 32) % 256) < 95 then (some true) else (some (decide (a0 ≥ 128))))
set_option maxHeartbeats 8000000 in
set_option maxRecDepth 100000 in
theorem text_shown.calls (a0 : Int) (r : Bool) (w : World) (h : text_shown.f a0 = some r) :
    Calls Tryd.prog 42 #[.int .u8 a0] w fun e w' => e = .returned (.bool r) ∧ Drawn0 w w' := by
  have H : (if a0 = 9 then (some true) else (if ((a0 - 32) % 256) < 95 then (some true) else (some (decide (a0 ≥ 128))))) = some r := h
  clear h
  by_cases c2 : a0 = 9
  · rw [if_pos c2] at H
    have c2b0 : (a0 == 9) = true := beq_iff_eq.mpr c2
    have c2b1 : (a0 != 9) = false := bne_eq_false_iff_eq.mpr c2
    clear c2
    obtain rfl := Option.some.inj H
    go_enter Tryd.func42, Tryd.ntmps42
    go_wp2
    go_ret
    exact ⟨by first | rfl | (simp; done) | (simp [*]; done), by repeat (first | exact Drawn0.refl _ | apply Drawn0.step)⟩
  · rw [if_neg c2] at H
    have c2b0 : (a0 == 9) = false := beq_eq_false_iff_ne.mpr c2
    have c2b1 : (a0 != 9) = true := bne_iff_ne.mpr c2
    by_cases c3 : ((a0 - 32) % 256) < 95
    · rw [if_pos c3] at H
      have c3b0 : decide (((a0 - 32) % 256) < 95) = true := decide_eq_true c3
      clear c3
      obtain rfl := Option.some.inj H
      go_enter Tryd.func42, Tryd.ntmps42
      go_wp2
      go_ret
      exact ⟨by first | rfl | (simp; done) | (simp [*]; done), by repeat (first | exact Drawn0.refl _ | apply Drawn0.step)⟩
    · rw [if_neg c3] at H
      have c3b0 : decide (((a0 - 32) % 256) < 95) = false := decide_eq_false c3
      clear c3
      obtain rfl := Option.some.inj H
      go_enter Tryd.func42, Tryd.ntmps42
      go_wp2
      go_ret
      exact ⟨by first | rfl | (simp; done) | (simp [*]; done), by repeat (first | exact Drawn0.refl _ | apply Drawn0.step)⟩

end Go.Proofs.YtgfdmaohnngpjaaDoor.P
