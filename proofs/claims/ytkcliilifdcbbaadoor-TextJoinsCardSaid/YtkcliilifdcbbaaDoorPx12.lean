-- Written by a program of this session over the seat's translation: functions and their contracts. Lean checks it.
import Derived.Test.YtkcliilifdcbbaaDoorPx0
import Derived.Test.YtkcliilifdcbbaaDoorPx3
import Derived.Test.YtkcliilifdcbbaaDoorPx4
import Derived.Test.YtkcliilifdcbbaaDoorPx5
import Derived.Test.YtkcliilifdcbbaaDoorPx7
import Derived.Test.YtkcliilifdcbbaaDoorPx9
import Derived.Test.YtkcliilifdcbbaaDoorPx10
import Derived.Test.YtkcliilifdcbbaaDoorPx11
namespace Go.Proofs.YtkcliilifdcbbaaDoor.P
open Go.RowKit Go.Proofs.YtkcliilifdcbbaaDoorW.PrintWords Go.Proofs.YtkcliilifdcbbaaDoorW.PrintLast Go.Proofs.YtkcliilifdcbbaaDoorW.PrintMore
attribute [local go_sem] max2_int min2_int max_two min_two max_three min_three max_four min_four   -- for this text's walks alone
set_option linter.unusedVariables false
set_option linter.unusedSimpArgs false

/-! ### text_Number: function 20 -/
def text_Number.f (a0 : Int) : Option (ByteArray) := if a0 < 0 then (some (⟨#[]⟩ : ByteArray)) else ((strconv_Itoa.f a0).bind fun t109 => (some t109))
set_option maxHeartbeats 8000000 in
set_option maxRecDepth 100000 in
theorem text_Number.calls (a0 : Int) (r : ByteArray) (w : World) (h : text_Number.f a0 = some r) (hG : Aside0 (Glob w)) :
    Calls Tryd.prog 20 #[.int .i64 a0] w fun e w' => e = .returned (.string r) ∧ Below w.heap.size w w' := by
  have HB := Aside0.mk (Below.refl w.heap.size w)
  have H : (if a0 < 0 then (some (⟨#[]⟩ : ByteArray)) else ((strconv_Itoa.f a0).bind fun t109 => (some t109))) = some r := h
  clear h
  by_cases c2 : a0 < 0
  · rw [if_pos c2] at H
    have c2b0 : decide (a0 < 0) = true := decide_eq_true c2
    clear c2
    obtain rfl := Option.some.inj H
    go_enter Tryd.func20, Tryd.ntmps20
    go_wp2
    go_ret
    exact ⟨by first | rfl | (simp [errW_none, errW_some] <;> rfl) | (simp [*, errW_none, errW_some] <;> rfl), by repeat (first | (with_reducible first | exact HB.out | apply below_alloc | apply pw_below_drewN | apply below_drew1) | exact HB.out)⟩
  · rw [if_neg c2] at H
    have c2b0 : decide (a0 < 0) = false := decide_eq_false c2
    clear c2
    replace H := Option.bind_eq_some_iff.mp H
    obtain ⟨t109, A30, H⟩ := H
    replace H : (some t109) = some r := H
    have A3 := Aside0.mk A30
    clear A30
    obtain rfl := Option.some.inj H
    go_enter Tryd.func20, Tryd.ntmps20
    go_wp2_with (first | ((with_reducible refine gate_callee (f := 30) rfl ?_); refine goesL_ (some 6) rfl rfl Tryd.func30 (by kernel_rfl) rfl #[.int .i64 a0] rfl (by (try simp only [List.map_toArray, List.map_cons, List.map_nil]); first | done | rfl | (simp only [List.length_drop, List.length_take]; rfl)) ?_; (with_reducible refine (strconv_Itoa.calls a0 t109 _ A3.out (Glob.below hG rfl (by repeat (first | (with_reducible first | exact HB.out | apply below_alloc | apply pw_below_drewN | apply below_drew1) | exact HB.out)))).mono ?_); rintro e w4 ⟨rfl, hb⟩; refine ⟨_, rfl, ?_⟩; have n0_ := Aside0.mk (below_step (by repeat (first | (with_reducible first | exact HB.out | apply below_alloc | apply pw_below_drewN | apply below_drew1) | exact HB.out)) hb); clear HB; have HB := n0_; clear n0_; (try clear hb); (try clear hb2); (try clear hk); (try clear hi)))
    go_ret
    exact ⟨by first | rfl | (simp [errW_none, errW_some] <;> rfl) | (simp [*, errW_none, errW_some] <;> rfl), by repeat (first | (with_reducible first | exact HB.out | apply below_alloc | apply pw_below_drewN | apply below_drew1) | exact HB.out)⟩

/-! ### nunciolaw02_awake: function 8 -/
def nunciolaw02_awake.f  : Option (Bool) := (text_Decimal.f (⟨#[49, 50, 48]⟩ : ByteArray) 120).bind fun bt110 => ((text_Fold.f (⟨#[87, 119, 87, 46, 69, 120]⟩ : ByteArray)).bind fun t112 => (if t112.toList = ([119, 119, 119, 46, 101, 120] : List UInt8) then ((text_Same.f (⟨#[65]⟩ : ByteArray) (⟨#[97]⟩ : ByteArray)).bind fun t113 => (if t113 = true then ((text_Same.f (⟨#[65]⟩ : ByteArray) (⟨#[98]⟩ : ByteArray)).bind fun t114 => (if t114 = true then (some false) else ((text_Token.f (⟨#[97, 45, 98]⟩ : ByteArray)).bind fun t115 => (if t115 = true then ((text_Token.f (⟨#[97, 32, 98]⟩ : ByteArray)).bind fun t116 => (if t116 = true then (some false) else ((text_Value.f (⟨#[97, 32, 98]⟩ : ByteArray)).bind fun t117 => (if t117 = true then (if bt110.1 = 120 then (if bt110.2 = true then ((text_Number.f 12).bind fun t118 => (if t118.toList = ([49, 50] : List UInt8) then ((text_Media.f (⟨#[32, 84, 101, 120, 116, 47, 80, 108, 97, 105, 110, 32, 59, 32, 97, 61, 98]⟩ : ByteArray)).bind fun t119 => (some (t119.toList == ([116, 101, 120, 116, 47, 112, 108, 97, 105, 110] : List UInt8)))) else (some false))) else (some false)) else (some false)) else (some false))))) else (some false))))) else (some false))) else (some false)))
set_option maxHeartbeats 8000000 in
set_option maxRecDepth 100000 in
theorem nunciolaw02_awake.calls  (r : Bool) (w : World) (h : nunciolaw02_awake.f  = some r) (hG : Aside0 (Glob w)) :
    Calls Tryd.prog 8 #[] w fun e w' => e = .returned (.bool r) ∧ Below w.heap.size w w' := by
  have HB := Aside0.mk (Below.refl w.heap.size w)
  have H : ((text_Decimal.f (⟨#[49, 50, 48]⟩ : ByteArray) 120).bind fun bt110 => ((text_Fold.f (⟨#[87, 119, 87, 46, 69, 120]⟩ : ByteArray)).bind fun t112 => (if t112.toList = ([119, 119, 119, 46, 101, 120] : List UInt8) then ((text_Same.f (⟨#[65]⟩ : ByteArray) (⟨#[97]⟩ : ByteArray)).bind fun t113 => (if t113 = true then ((text_Same.f (⟨#[65]⟩ : ByteArray) (⟨#[98]⟩ : ByteArray)).bind fun t114 => (if t114 = true then (some false) else ((text_Token.f (⟨#[97, 45, 98]⟩ : ByteArray)).bind fun t115 => (if t115 = true then ((text_Token.f (⟨#[97, 32, 98]⟩ : ByteArray)).bind fun t116 => (if t116 = true then (some false) else ((text_Value.f (⟨#[97, 32, 98]⟩ : ByteArray)).bind fun t117 => (if t117 = true then (if bt110.1 = 120 then (if bt110.2 = true then ((text_Number.f 12).bind fun t118 => (if t118.toList = ([49, 50] : List UInt8) then ((text_Media.f (⟨#[32, 84, 101, 120, 116, 47, 80, 108, 97, 105, 110, 32, 59, 32, 97, 61, 98]⟩ : ByteArray)).bind fun t119 => (some (t119.toList == ([116, 101, 120, 116, 47, 112, 108, 97, 105, 110] : List UInt8)))) else (some false))) else (some false)) else (some false)) else (some false))))) else (some false))))) else (some false))) else (some false)))) = some r := h
  clear h
  replace H := Option.bind_eq_some_iff.mp H
  obtain ⟨⟨t110, t111⟩, A10, H⟩ := H
  replace H : ((text_Fold.f (⟨#[87, 119, 87, 46, 69, 120]⟩ : ByteArray)).bind fun t112 => (if t112.toList = ([119, 119, 119, 46, 101, 120] : List UInt8) then ((text_Same.f (⟨#[65]⟩ : ByteArray) (⟨#[97]⟩ : ByteArray)).bind fun t113 => (if t113 = true then ((text_Same.f (⟨#[65]⟩ : ByteArray) (⟨#[98]⟩ : ByteArray)).bind fun t114 => (if t114 = true then (some false) else ((text_Token.f (⟨#[97, 45, 98]⟩ : ByteArray)).bind fun t115 => (if t115 = true then ((text_Token.f (⟨#[97, 32, 98]⟩ : ByteArray)).bind fun t116 => (if t116 = true then (some false) else ((text_Value.f (⟨#[97, 32, 98]⟩ : ByteArray)).bind fun t117 => (if t117 = true then (if t110 = 120 then (if t111 = true then ((text_Number.f 12).bind fun t118 => (if t118.toList = ([49, 50] : List UInt8) then ((text_Media.f (⟨#[32, 84, 101, 120, 116, 47, 80, 108, 97, 105, 110, 32, 59, 32, 97, 61, 98]⟩ : ByteArray)).bind fun t119 => (some (t119.toList == ([116, 101, 120, 116, 47, 112, 108, 97, 105, 110] : List UInt8)))) else (some false))) else (some false)) else (some false)) else (some false))))) else (some false))))) else (some false))) else (some false))) = some r := H
  have A1 := Aside0.mk A10
  clear A10
  replace H := Option.bind_eq_some_iff.mp H
  obtain ⟨t112, A20, H⟩ := H
  replace H : (if t112.toList = ([119, 119, 119, 46, 101, 120] : List UInt8) then ((text_Same.f (⟨#[65]⟩ : ByteArray) (⟨#[97]⟩ : ByteArray)).bind fun t113 => (if t113 = true then ((text_Same.f (⟨#[65]⟩ : ByteArray) (⟨#[98]⟩ : ByteArray)).bind fun t114 => (if t114 = true then (some false) else ((text_Token.f (⟨#[97, 45, 98]⟩ : ByteArray)).bind fun t115 => (if t115 = true then ((text_Token.f (⟨#[97, 32, 98]⟩ : ByteArray)).bind fun t116 => (if t116 = true then (some false) else ((text_Value.f (⟨#[97, 32, 98]⟩ : ByteArray)).bind fun t117 => (if t117 = true then (if t110 = 120 then (if t111 = true then ((text_Number.f 12).bind fun t118 => (if t118.toList = ([49, 50] : List UInt8) then ((text_Media.f (⟨#[32, 84, 101, 120, 116, 47, 80, 108, 97, 105, 110, 32, 59, 32, 97, 61, 98]⟩ : ByteArray)).bind fun t119 => (some (t119.toList == ([116, 101, 120, 116, 47, 112, 108, 97, 105, 110] : List UInt8)))) else (some false))) else (some false)) else (some false)) else (some false))))) else (some false))))) else (some false))) else (some false)) = some r := H
  have A2 := Aside0.mk A20
  clear A20
  by_cases c3 : t112.toList = ([119, 119, 119, 46, 101, 120] : List UInt8)
  · rw [if_pos c3] at H
    have c3b0 : (t112.toList == ([119, 119, 119, 46, 101, 120] : List UInt8)) = true := beq_iff_eq.mpr c3
    have c3b1 : (t112.toList != ([119, 119, 119, 46, 101, 120] : List UInt8)) = false := bne_eq_false_iff_eq.mpr c3
    clear c3
    replace H := Option.bind_eq_some_iff.mp H
    obtain ⟨t113, A40, H⟩ := H
    replace H : (if t113 = true then ((text_Same.f (⟨#[65]⟩ : ByteArray) (⟨#[98]⟩ : ByteArray)).bind fun t114 => (if t114 = true then (some false) else ((text_Token.f (⟨#[97, 45, 98]⟩ : ByteArray)).bind fun t115 => (if t115 = true then ((text_Token.f (⟨#[97, 32, 98]⟩ : ByteArray)).bind fun t116 => (if t116 = true then (some false) else ((text_Value.f (⟨#[97, 32, 98]⟩ : ByteArray)).bind fun t117 => (if t117 = true then (if t110 = 120 then (if t111 = true then ((text_Number.f 12).bind fun t118 => (if t118.toList = ([49, 50] : List UInt8) then ((text_Media.f (⟨#[32, 84, 101, 120, 116, 47, 80, 108, 97, 105, 110, 32, 59, 32, 97, 61, 98]⟩ : ByteArray)).bind fun t119 => (some (t119.toList == ([116, 101, 120, 116, 47, 112, 108, 97, 105, 110] : List UInt8)))) else (some false))) else (some false)) else (some false)) else (some false))))) else (some false))))) else (some false)) = some r := H
    have A4 := Aside0.mk A40
    clear A40
    by_cases c5 : t113 = true
    · subst c5
      have H1 : ((text_Same.f (⟨#[65]⟩ : ByteArray) (⟨#[98]⟩ : ByteArray)).bind fun t114 => (if t114 = true then (some false) else ((text_Token.f (⟨#[97, 45, 98]⟩ : ByteArray)).bind fun t115 => (if t115 = true then ((text_Token.f (⟨#[97, 32, 98]⟩ : ByteArray)).bind fun t116 => (if t116 = true then (some false) else ((text_Value.f (⟨#[97, 32, 98]⟩ : ByteArray)).bind fun t117 => (if t117 = true then (if t110 = 120 then (if t111 = true then ((text_Number.f 12).bind fun t118 => (if t118.toList = ([49, 50] : List UInt8) then ((text_Media.f (⟨#[32, 84, 101, 120, 116, 47, 80, 108, 97, 105, 110, 32, 59, 32, 97, 61, 98]⟩ : ByteArray)).bind fun t119 => (some (t119.toList == ([116, 101, 120, 116, 47, 112, 108, 97, 105, 110] : List UInt8)))) else (some false))) else (some false)) else (some false)) else (some false))))) else (some false))))) = some r := by rw [if_pos rfl] at H; exact H
      clear H
      have H := H1
      clear H1
      replace H := Option.bind_eq_some_iff.mp H
      obtain ⟨t114, A60, H⟩ := H
      replace H : (if t114 = true then (some false) else ((text_Token.f (⟨#[97, 45, 98]⟩ : ByteArray)).bind fun t115 => (if t115 = true then ((text_Token.f (⟨#[97, 32, 98]⟩ : ByteArray)).bind fun t116 => (if t116 = true then (some false) else ((text_Value.f (⟨#[97, 32, 98]⟩ : ByteArray)).bind fun t117 => (if t117 = true then (if t110 = 120 then (if t111 = true then ((text_Number.f 12).bind fun t118 => (if t118.toList = ([49, 50] : List UInt8) then ((text_Media.f (⟨#[32, 84, 101, 120, 116, 47, 80, 108, 97, 105, 110, 32, 59, 32, 97, 61, 98]⟩ : ByteArray)).bind fun t119 => (some (t119.toList == ([116, 101, 120, 116, 47, 112, 108, 97, 105, 110] : List UInt8)))) else (some false))) else (some false)) else (some false)) else (some false))))) else (some false)))) = some r := H
      have A6 := Aside0.mk A60
      clear A60
      by_cases c7 : t114 = true
      · subst c7
        have H1 : (some false) = some r := by rw [if_pos rfl] at H; exact H
        clear H
        have H := H1
        clear H1
        obtain rfl := Option.some.inj H
        go_enter Tryd.func8, Tryd.ntmps8
        go_wp2_with (first | ((with_reducible refine gate_callee (f := 18) rfl ?_); refine goesL_ (some 4) rfl rfl Tryd.func18 (by kernel_rfl) rfl #[.string (⟨#[49, 50, 48]⟩ : ByteArray), .int .i64 120] rfl (by (try simp only [List.map_toArray, List.map_cons, List.map_nil]); first | done | rfl | (simp only [List.length_drop, List.length_take]; rfl)) ?_; (with_reducible refine (text_Decimal.calls (⟨#[49, 50, 48]⟩ : ByteArray) 120 t110 t111 _ A1.out).mono ?_); rintro e w8 ⟨rfl, hb⟩; refine ⟨_, rfl, ?_⟩; have n0_ := Aside0.mk (below_step (by repeat (first | (with_reducible first | exact HB.out | apply below_alloc | apply pw_below_drewN | apply below_drew1) | exact HB.out)) hb); clear HB; have HB := n0_; clear n0_; (try clear hb); (try clear hb2); (try clear hk); (try clear hi)) | ((with_reducible refine gate_callee (f := 9) rfl ?_); refine goesL_ (some 7) rfl rfl Tryd.func9 (by kernel_rfl) rfl #[.string (⟨#[87, 119, 87, 46, 69, 120]⟩ : ByteArray)] rfl (by (try simp only [List.map_toArray, List.map_cons, List.map_nil]); first | done | rfl | (simp only [List.length_drop, List.length_take]; rfl)) ?_; (with_reducible refine (text_Fold.calls (⟨#[87, 119, 87, 46, 69, 120]⟩ : ByteArray) t112 _ A2.out).mono ?_); rintro e w9 ⟨rfl, hb⟩; refine ⟨_, rfl, ?_⟩; have n0_ := Aside0.mk (below_step (by repeat (first | (with_reducible first | exact HB.out | apply below_alloc | apply pw_below_drewN | apply below_drew1) | exact HB.out)) hb); clear HB; have HB := n0_; clear n0_; (try clear hb); (try clear hb2); (try clear hk); (try clear hi); have tkA4 : True := trivial) | (go_at_call 11; have t_ := tkA4; clear t_ tkA4; (with_reducible refine (text_Same.calls (⟨#[65]⟩ : ByteArray) (⟨#[97]⟩ : ByteArray) true _ A4.out).mono ?_); rintro e w10 ⟨rfl, hb⟩; have n0_ := Aside0.mk (below_step (by repeat (first | (with_reducible first | exact HB.out | apply below_alloc | apply pw_below_drewN | apply below_drew1) | exact HB.out)) hb); clear HB; have HB := n0_; clear n0_; (try clear hb); (try clear hb2); (try clear hk); (try clear hi); have tkA6 : True := trivial) | (go_at_call 11; have t_ := tkA6; clear t_ tkA6; (with_reducible refine (text_Same.calls (⟨#[65]⟩ : ByteArray) (⟨#[98]⟩ : ByteArray) true _ A6.out).mono ?_); rintro e w11 ⟨rfl, hb⟩; have n0_ := Aside0.mk (below_step (by repeat (first | (with_reducible first | exact HB.out | apply below_alloc | apply pw_below_drewN | apply below_drew1) | exact HB.out)) hb); clear HB; have HB := n0_; clear n0_; (try clear hb); (try clear hb2); (try clear hk); (try clear hi)))
        go_ret
        exact ⟨by first | rfl | (simp [errW_none, errW_some] <;> rfl) | (simp [*, errW_none, errW_some] <;> rfl), by repeat (first | (with_reducible first | exact HB.out | apply below_alloc | apply pw_below_drewN | apply below_drew1) | exact HB.out)⟩
      · replace c7 := Bool.eq_false_iff.mpr c7
        subst c7
        have H1 : ((text_Token.f (⟨#[97, 45, 98]⟩ : ByteArray)).bind fun t115 => (if t115 = true then ((text_Token.f (⟨#[97, 32, 98]⟩ : ByteArray)).bind fun t116 => (if t116 = true then (some false) else ((text_Value.f (⟨#[97, 32, 98]⟩ : ByteArray)).bind fun t117 => (if t117 = true then (if t110 = 120 then (if t111 = true then ((text_Number.f 12).bind fun t118 => (if t118.toList = ([49, 50] : List UInt8) then ((text_Media.f (⟨#[32, 84, 101, 120, 116, 47, 80, 108, 97, 105, 110, 32, 59, 32, 97, 61, 98]⟩ : ByteArray)).bind fun t119 => (some (t119.toList == ([116, 101, 120, 116, 47, 112, 108, 97, 105, 110] : List UInt8)))) else (some false))) else (some false)) else (some false)) else (some false))))) else (some false))) = some r := by rw [if_neg (show ¬ (false = true) by decide)] at H; exact H
        clear H
        have H := H1
        clear H1
        replace H := Option.bind_eq_some_iff.mp H
        obtain ⟨t115, A120, H⟩ := H
        replace H : (if t115 = true then ((text_Token.f (⟨#[97, 32, 98]⟩ : ByteArray)).bind fun t116 => (if t116 = true then (some false) else ((text_Value.f (⟨#[97, 32, 98]⟩ : ByteArray)).bind fun t117 => (if t117 = true then (if t110 = 120 then (if t111 = true then ((text_Number.f 12).bind fun t118 => (if t118.toList = ([49, 50] : List UInt8) then ((text_Media.f (⟨#[32, 84, 101, 120, 116, 47, 80, 108, 97, 105, 110, 32, 59, 32, 97, 61, 98]⟩ : ByteArray)).bind fun t119 => (some (t119.toList == ([116, 101, 120, 116, 47, 112, 108, 97, 105, 110] : List UInt8)))) else (some false))) else (some false)) else (some false)) else (some false))))) else (some false)) = some r := H
        have A12 := Aside0.mk A120
        clear A120
        by_cases c13 : t115 = true
        · subst c13
          have H1 : ((text_Token.f (⟨#[97, 32, 98]⟩ : ByteArray)).bind fun t116 => (if t116 = true then (some false) else ((text_Value.f (⟨#[97, 32, 98]⟩ : ByteArray)).bind fun t117 => (if t117 = true then (if t110 = 120 then (if t111 = true then ((text_Number.f 12).bind fun t118 => (if t118.toList = ([49, 50] : List UInt8) then ((text_Media.f (⟨#[32, 84, 101, 120, 116, 47, 80, 108, 97, 105, 110, 32, 59, 32, 97, 61, 98]⟩ : ByteArray)).bind fun t119 => (some (t119.toList == ([116, 101, 120, 116, 47, 112, 108, 97, 105, 110] : List UInt8)))) else (some false))) else (some false)) else (some false)) else (some false))))) = some r := by rw [if_pos rfl] at H; exact H
          clear H
          have H := H1
          clear H1
          replace H := Option.bind_eq_some_iff.mp H
          obtain ⟨t116, A140, H⟩ := H
          replace H : (if t116 = true then (some false) else ((text_Value.f (⟨#[97, 32, 98]⟩ : ByteArray)).bind fun t117 => (if t117 = true then (if t110 = 120 then (if t111 = true then ((text_Number.f 12).bind fun t118 => (if t118.toList = ([49, 50] : List UInt8) then ((text_Media.f (⟨#[32, 84, 101, 120, 116, 47, 80, 108, 97, 105, 110, 32, 59, 32, 97, 61, 98]⟩ : ByteArray)).bind fun t119 => (some (t119.toList == ([116, 101, 120, 116, 47, 112, 108, 97, 105, 110] : List UInt8)))) else (some false))) else (some false)) else (some false)) else (some false)))) = some r := H
          have A14 := Aside0.mk A140
          clear A140
          by_cases c15 : t116 = true
          · subst c15
            have H1 : (some false) = some r := by rw [if_pos rfl] at H; exact H
            clear H
            have H := H1
            clear H1
            obtain rfl := Option.some.inj H
            go_enter Tryd.func8, Tryd.ntmps8
            go_wp2_with (first | ((with_reducible refine gate_callee (f := 18) rfl ?_); refine goesL_ (some 4) rfl rfl Tryd.func18 (by kernel_rfl) rfl #[.string (⟨#[49, 50, 48]⟩ : ByteArray), .int .i64 120] rfl (by (try simp only [List.map_toArray, List.map_cons, List.map_nil]); first | done | rfl | (simp only [List.length_drop, List.length_take]; rfl)) ?_; (with_reducible refine (text_Decimal.calls (⟨#[49, 50, 48]⟩ : ByteArray) 120 t110 t111 _ A1.out).mono ?_); rintro e w16 ⟨rfl, hb⟩; refine ⟨_, rfl, ?_⟩; have n0_ := Aside0.mk (below_step (by repeat (first | (with_reducible first | exact HB.out | apply below_alloc | apply pw_below_drewN | apply below_drew1) | exact HB.out)) hb); clear HB; have HB := n0_; clear n0_; (try clear hb); (try clear hb2); (try clear hk); (try clear hi)) | ((with_reducible refine gate_callee (f := 9) rfl ?_); refine goesL_ (some 7) rfl rfl Tryd.func9 (by kernel_rfl) rfl #[.string (⟨#[87, 119, 87, 46, 69, 120]⟩ : ByteArray)] rfl (by (try simp only [List.map_toArray, List.map_cons, List.map_nil]); first | done | rfl | (simp only [List.length_drop, List.length_take]; rfl)) ?_; (with_reducible refine (text_Fold.calls (⟨#[87, 119, 87, 46, 69, 120]⟩ : ByteArray) t112 _ A2.out).mono ?_); rintro e w17 ⟨rfl, hb⟩; refine ⟨_, rfl, ?_⟩; have n0_ := Aside0.mk (below_step (by repeat (first | (with_reducible first | exact HB.out | apply below_alloc | apply pw_below_drewN | apply below_drew1) | exact HB.out)) hb); clear HB; have HB := n0_; clear n0_; (try clear hb); (try clear hb2); (try clear hk); (try clear hi); have tkA4 : True := trivial) | (go_at_call 11; have t_ := tkA4; clear t_ tkA4; (with_reducible refine (text_Same.calls (⟨#[65]⟩ : ByteArray) (⟨#[97]⟩ : ByteArray) true _ A4.out).mono ?_); rintro e w18 ⟨rfl, hb⟩; have n0_ := Aside0.mk (below_step (by repeat (first | (with_reducible first | exact HB.out | apply below_alloc | apply pw_below_drewN | apply below_drew1) | exact HB.out)) hb); clear HB; have HB := n0_; clear n0_; (try clear hb); (try clear hb2); (try clear hk); (try clear hi); have tkA6 : True := trivial) | (go_at_call 11; have t_ := tkA6; clear t_ tkA6; (with_reducible refine (text_Same.calls (⟨#[65]⟩ : ByteArray) (⟨#[98]⟩ : ByteArray) false _ A6.out).mono ?_); rintro e w19 ⟨rfl, hb⟩; have n0_ := Aside0.mk (below_step (by repeat (first | (with_reducible first | exact HB.out | apply below_alloc | apply pw_below_drewN | apply below_drew1) | exact HB.out)) hb); clear HB; have HB := n0_; clear n0_; (try clear hb); (try clear hb2); (try clear hk); (try clear hi); have tkA12 : True := trivial) | (go_at_call 12; have t_ := tkA12; clear t_ tkA12; (with_reducible refine (text_Token.calls (⟨#[97, 45, 98]⟩ : ByteArray) true _ A12.out).mono ?_); rintro e w20 ⟨rfl, hb⟩; have n0_ := Aside0.mk (below_step (by repeat (first | (with_reducible first | exact HB.out | apply below_alloc | apply pw_below_drewN | apply below_drew1) | exact HB.out)) hb); clear HB; have HB := n0_; clear n0_; (try clear hb); (try clear hb2); (try clear hk); (try clear hi); have tkA14 : True := trivial) | (go_at_call 12; have t_ := tkA14; clear t_ tkA14; (with_reducible refine (text_Token.calls (⟨#[97, 32, 98]⟩ : ByteArray) true _ A14.out).mono ?_); rintro e w21 ⟨rfl, hb⟩; have n0_ := Aside0.mk (below_step (by repeat (first | (with_reducible first | exact HB.out | apply below_alloc | apply pw_below_drewN | apply below_drew1) | exact HB.out)) hb); clear HB; have HB := n0_; clear n0_; (try clear hb); (try clear hb2); (try clear hk); (try clear hi)))
            go_ret
            exact ⟨by first | rfl | (simp [errW_none, errW_some] <;> rfl) | (simp [*, errW_none, errW_some] <;> rfl), by repeat (first | (with_reducible first | exact HB.out | apply below_alloc | apply pw_below_drewN | apply below_drew1) | exact HB.out)⟩
          · replace c15 := Bool.eq_false_iff.mpr c15
            subst c15
            have H1 : ((text_Value.f (⟨#[97, 32, 98]⟩ : ByteArray)).bind fun t117 => (if t117 = true then (if t110 = 120 then (if t111 = true then ((text_Number.f 12).bind fun t118 => (if t118.toList = ([49, 50] : List UInt8) then ((text_Media.f (⟨#[32, 84, 101, 120, 116, 47, 80, 108, 97, 105, 110, 32, 59, 32, 97, 61, 98]⟩ : ByteArray)).bind fun t119 => (some (t119.toList == ([116, 101, 120, 116, 47, 112, 108, 97, 105, 110] : List UInt8)))) else (some false))) else (some false)) else (some false)) else (some false))) = some r := by rw [if_neg (show ¬ (false = true) by decide)] at H; exact H
            clear H
            have H := H1
            clear H1
            replace H := Option.bind_eq_some_iff.mp H
            obtain ⟨t117, A220, H⟩ := H
            replace H : (if t117 = true then (if t110 = 120 then (if t111 = true then ((text_Number.f 12).bind fun t118 => (if t118.toList = ([49, 50] : List UInt8) then ((text_Media.f (⟨#[32, 84, 101, 120, 116, 47, 80, 108, 97, 105, 110, 32, 59, 32, 97, 61, 98]⟩ : ByteArray)).bind fun t119 => (some (t119.toList == ([116, 101, 120, 116, 47, 112, 108, 97, 105, 110] : List UInt8)))) else (some false))) else (some false)) else (some false)) else (some false)) = some r := H
            have A22 := Aside0.mk A220
            clear A220
            by_cases c23 : t117 = true
            · subst c23
              have H1 : (if t110 = 120 then (if t111 = true then ((text_Number.f 12).bind fun t118 => (if t118.toList = ([49, 50] : List UInt8) then ((text_Media.f (⟨#[32, 84, 101, 120, 116, 47, 80, 108, 97, 105, 110, 32, 59, 32, 97, 61, 98]⟩ : ByteArray)).bind fun t119 => (some (t119.toList == ([116, 101, 120, 116, 47, 112, 108, 97, 105, 110] : List UInt8)))) else (some false))) else (some false)) else (some false)) = some r := by rw [if_pos rfl] at H; exact H
              clear H
              have H := H1
              clear H1
              by_cases c24 : t110 = 120
              · rw [if_pos c24] at H
                have c24b0 : (t110 == 120) = true := beq_iff_eq.mpr c24
                have c24b1 : (t110 != 120) = false := bne_eq_false_iff_eq.mpr c24
                clear c24
                by_cases c25 : t111 = true
                · subst c25
                  have H1 : ((text_Number.f 12).bind fun t118 => (if t118.toList = ([49, 50] : List UInt8) then ((text_Media.f (⟨#[32, 84, 101, 120, 116, 47, 80, 108, 97, 105, 110, 32, 59, 32, 97, 61, 98]⟩ : ByteArray)).bind fun t119 => (some (t119.toList == ([116, 101, 120, 116, 47, 112, 108, 97, 105, 110] : List UInt8)))) else (some false))) = some r := by rw [if_pos rfl] at H; exact H
                  clear H
                  have H := H1
                  clear H1
                  replace H := Option.bind_eq_some_iff.mp H
                  obtain ⟨t118, A260, H⟩ := H
                  replace H : (if t118.toList = ([49, 50] : List UInt8) then ((text_Media.f (⟨#[32, 84, 101, 120, 116, 47, 80, 108, 97, 105, 110, 32, 59, 32, 97, 61, 98]⟩ : ByteArray)).bind fun t119 => (some (t119.toList == ([116, 101, 120, 116, 47, 112, 108, 97, 105, 110] : List UInt8)))) else (some false)) = some r := H
                  have A26 := Aside0.mk A260
                  clear A260
                  by_cases c27 : t118.toList = ([49, 50] : List UInt8)
                  · rw [if_pos c27] at H
                    have c27b0 : (t118.toList == ([49, 50] : List UInt8)) = true := beq_iff_eq.mpr c27
                    have c27b1 : (t118.toList != ([49, 50] : List UInt8)) = false := bne_eq_false_iff_eq.mpr c27
                    clear c27
                    replace H := Option.bind_eq_some_iff.mp H
                    obtain ⟨t119, A280, H⟩ := H
                    replace H : (some (t119.toList == ([116, 101, 120, 116, 47, 112, 108, 97, 105, 110] : List UInt8))) = some r := H
                    have A28 := Aside0.mk A280
                    clear A280
                    obtain rfl := Option.some.inj H
                    go_enter Tryd.func8, Tryd.ntmps8
                    go_wp2_with (first | ((with_reducible refine gate_callee (f := 18) rfl ?_); refine goesL_ (some 4) rfl rfl Tryd.func18 (by kernel_rfl) rfl #[.string (⟨#[49, 50, 48]⟩ : ByteArray), .int .i64 120] rfl (by (try simp only [List.map_toArray, List.map_cons, List.map_nil]); first | done | rfl | (simp only [List.length_drop, List.length_take]; rfl)) ?_; (with_reducible refine (text_Decimal.calls (⟨#[49, 50, 48]⟩ : ByteArray) 120 t110 true _ A1.out).mono ?_); rintro e w29 ⟨rfl, hb⟩; refine ⟨_, rfl, ?_⟩; have n0_ := Aside0.mk (below_step (by repeat (first | (with_reducible first | exact HB.out | apply below_alloc | apply pw_below_drewN | apply below_drew1) | exact HB.out)) hb); clear HB; have HB := n0_; clear n0_; (try clear hb); (try clear hb2); (try clear hk); (try clear hi)) | ((with_reducible refine gate_callee (f := 9) rfl ?_); refine goesL_ (some 7) rfl rfl Tryd.func9 (by kernel_rfl) rfl #[.string (⟨#[87, 119, 87, 46, 69, 120]⟩ : ByteArray)] rfl (by (try simp only [List.map_toArray, List.map_cons, List.map_nil]); first | done | rfl | (simp only [List.length_drop, List.length_take]; rfl)) ?_; (with_reducible refine (text_Fold.calls (⟨#[87, 119, 87, 46, 69, 120]⟩ : ByteArray) t112 _ A2.out).mono ?_); rintro e w30 ⟨rfl, hb⟩; refine ⟨_, rfl, ?_⟩; have n0_ := Aside0.mk (below_step (by repeat (first | (with_reducible first | exact HB.out | apply below_alloc | apply pw_below_drewN | apply below_drew1) | exact HB.out)) hb); clear HB; have HB := n0_; clear n0_; (try clear hb); (try clear hb2); (try clear hk); (try clear hi); have tkA4 : True := trivial) | (go_at_call 11; have t_ := tkA4; clear t_ tkA4; (with_reducible refine (text_Same.calls (⟨#[65]⟩ : ByteArray) (⟨#[97]⟩ : ByteArray) true _ A4.out).mono ?_); rintro e w31 ⟨rfl, hb⟩; have n0_ := Aside0.mk (below_step (by repeat (first | (with_reducible first | exact HB.out | apply below_alloc | apply pw_below_drewN | apply below_drew1) | exact HB.out)) hb); clear HB; have HB := n0_; clear n0_; (try clear hb); (try clear hb2); (try clear hk); (try clear hi); have tkA6 : True := trivial) | (go_at_call 11; have t_ := tkA6; clear t_ tkA6; (with_reducible refine (text_Same.calls (⟨#[65]⟩ : ByteArray) (⟨#[98]⟩ : ByteArray) false _ A6.out).mono ?_); rintro e w32 ⟨rfl, hb⟩; have n0_ := Aside0.mk (below_step (by repeat (first | (with_reducible first | exact HB.out | apply below_alloc | apply pw_below_drewN | apply below_drew1) | exact HB.out)) hb); clear HB; have HB := n0_; clear n0_; (try clear hb); (try clear hb2); (try clear hk); (try clear hi); have tkA12 : True := trivial) | (go_at_call 12; have t_ := tkA12; clear t_ tkA12; (with_reducible refine (text_Token.calls (⟨#[97, 45, 98]⟩ : ByteArray) true _ A12.out).mono ?_); rintro e w33 ⟨rfl, hb⟩; have n0_ := Aside0.mk (below_step (by repeat (first | (with_reducible first | exact HB.out | apply below_alloc | apply pw_below_drewN | apply below_drew1) | exact HB.out)) hb); clear HB; have HB := n0_; clear n0_; (try clear hb); (try clear hb2); (try clear hk); (try clear hi); have tkA14 : True := trivial) | (go_at_call 12; have t_ := tkA14; clear t_ tkA14; (with_reducible refine (text_Token.calls (⟨#[97, 32, 98]⟩ : ByteArray) false _ A14.out).mono ?_); rintro e w34 ⟨rfl, hb⟩; have n0_ := Aside0.mk (below_step (by repeat (first | (with_reducible first | exact HB.out | apply below_alloc | apply pw_below_drewN | apply below_drew1) | exact HB.out)) hb); clear HB; have HB := n0_; clear n0_; (try clear hb); (try clear hb2); (try clear hk); (try clear hi); have tkA22 : True := trivial) | (go_at_call 14; have t_ := tkA22; clear t_ tkA22; (with_reducible refine (text_Value.calls (⟨#[97, 32, 98]⟩ : ByteArray) true _ A22.out).mono ?_); rintro e w35 ⟨rfl, hb⟩; have n0_ := Aside0.mk (below_step (by repeat (first | (with_reducible first | exact HB.out | apply below_alloc | apply pw_below_drewN | apply below_drew1) | exact HB.out)) hb); clear HB; have HB := n0_; clear n0_; (try clear hb); (try clear hb2); (try clear hk); (try clear hi); have tkA26 : True := trivial) | (go_at_call 20; have t_ := tkA26; clear t_ tkA26; (with_reducible refine (text_Number.calls 12 t118 _ A26.out (Glob.below hG rfl (by repeat (first | (with_reducible first | exact HB.out | apply below_alloc | apply pw_below_drewN | apply below_drew1) | exact HB.out)))).mono ?_); rintro e w36 ⟨rfl, hb⟩; have n0_ := Aside0.mk (below_step (by repeat (first | (with_reducible first | exact HB.out | apply below_alloc | apply pw_below_drewN | apply below_drew1) | exact HB.out)) hb); clear HB; have HB := n0_; clear n0_; (try clear hb); (try clear hb2); (try clear hk); (try clear hi); have tkA28 : True := trivial) | (go_at_call 16; have t_ := tkA28; clear t_ tkA28; (with_reducible refine (text_Media.calls (⟨#[32, 84, 101, 120, 116, 47, 80, 108, 97, 105, 110, 32, 59, 32, 97, 61, 98]⟩ : ByteArray) t119 _ A28.out).mono ?_); rintro e w37 ⟨rfl, hb⟩; have n0_ := Aside0.mk (below_step (by repeat (first | (with_reducible first | exact HB.out | apply below_alloc | apply pw_below_drewN | apply below_drew1) | exact HB.out)) hb); clear HB; have HB := n0_; clear n0_; (try clear hb); (try clear hb2); (try clear hk); (try clear hi)))
                    go_ret
                    exact ⟨by first | rfl | (simp [errW_none, errW_some] <;> rfl) | (simp [*, errW_none, errW_some] <;> rfl), by repeat (first | (with_reducible first | exact HB.out | apply below_alloc | apply pw_below_drewN | apply below_drew1) | exact HB.out)⟩
                  · rw [if_neg c27] at H
                    have c27b0 : (t118.toList == ([49, 50] : List UInt8)) = false := beq_eq_false_iff_ne.mpr c27
                    have c27b1 : (t118.toList != ([49, 50] : List UInt8)) = true := bne_iff_ne.mpr c27
                    obtain rfl := Option.some.inj H
                    go_enter Tryd.func8, Tryd.ntmps8
                    go_wp2_with (first | ((with_reducible refine gate_callee (f := 18) rfl ?_); refine goesL_ (some 4) rfl rfl Tryd.func18 (by kernel_rfl) rfl #[.string (⟨#[49, 50, 48]⟩ : ByteArray), .int .i64 120] rfl (by (try simp only [List.map_toArray, List.map_cons, List.map_nil]); first | done | rfl | (simp only [List.length_drop, List.length_take]; rfl)) ?_; (with_reducible refine (text_Decimal.calls (⟨#[49, 50, 48]⟩ : ByteArray) 120 t110 true _ A1.out).mono ?_); rintro e w38 ⟨rfl, hb⟩; refine ⟨_, rfl, ?_⟩; have n0_ := Aside0.mk (below_step (by repeat (first | (with_reducible first | exact HB.out | apply below_alloc | apply pw_below_drewN | apply below_drew1) | exact HB.out)) hb); clear HB; have HB := n0_; clear n0_; (try clear hb); (try clear hb2); (try clear hk); (try clear hi)) | ((with_reducible refine gate_callee (f := 9) rfl ?_); refine goesL_ (some 7) rfl rfl Tryd.func9 (by kernel_rfl) rfl #[.string (⟨#[87, 119, 87, 46, 69, 120]⟩ : ByteArray)] rfl (by (try simp only [List.map_toArray, List.map_cons, List.map_nil]); first | done | rfl | (simp only [List.length_drop, List.length_take]; rfl)) ?_; (with_reducible refine (text_Fold.calls (⟨#[87, 119, 87, 46, 69, 120]⟩ : ByteArray) t112 _ A2.out).mono ?_); rintro e w39 ⟨rfl, hb⟩; refine ⟨_, rfl, ?_⟩; have n0_ := Aside0.mk (below_step (by repeat (first | (with_reducible first | exact HB.out | apply below_alloc | apply pw_below_drewN | apply below_drew1) | exact HB.out)) hb); clear HB; have HB := n0_; clear n0_; (try clear hb); (try clear hb2); (try clear hk); (try clear hi); have tkA4 : True := trivial) | (go_at_call 11; have t_ := tkA4; clear t_ tkA4; (with_reducible refine (text_Same.calls (⟨#[65]⟩ : ByteArray) (⟨#[97]⟩ : ByteArray) true _ A4.out).mono ?_); rintro e w40 ⟨rfl, hb⟩; have n0_ := Aside0.mk (below_step (by repeat (first | (with_reducible first | exact HB.out | apply below_alloc | apply pw_below_drewN | apply below_drew1) | exact HB.out)) hb); clear HB; have HB := n0_; clear n0_; (try clear hb); (try clear hb2); (try clear hk); (try clear hi); have tkA6 : True := trivial) | (go_at_call 11; have t_ := tkA6; clear t_ tkA6; (with_reducible refine (text_Same.calls (⟨#[65]⟩ : ByteArray) (⟨#[98]⟩ : ByteArray) false _ A6.out).mono ?_); rintro e w41 ⟨rfl, hb⟩; have n0_ := Aside0.mk (below_step (by repeat (first | (with_reducible first | exact HB.out | apply below_alloc | apply pw_below_drewN | apply below_drew1) | exact HB.out)) hb); clear HB; have HB := n0_; clear n0_; (try clear hb); (try clear hb2); (try clear hk); (try clear hi); have tkA12 : True := trivial) | (go_at_call 12; have t_ := tkA12; clear t_ tkA12; (with_reducible refine (text_Token.calls (⟨#[97, 45, 98]⟩ : ByteArray) true _ A12.out).mono ?_); rintro e w42 ⟨rfl, hb⟩; have n0_ := Aside0.mk (below_step (by repeat (first | (with_reducible first | exact HB.out | apply below_alloc | apply pw_below_drewN | apply below_drew1) | exact HB.out)) hb); clear HB; have HB := n0_; clear n0_; (try clear hb); (try clear hb2); (try clear hk); (try clear hi); have tkA14 : True := trivial) | (go_at_call 12; have t_ := tkA14; clear t_ tkA14; (with_reducible refine (text_Token.calls (⟨#[97, 32, 98]⟩ : ByteArray) false _ A14.out).mono ?_); rintro e w43 ⟨rfl, hb⟩; have n0_ := Aside0.mk (below_step (by repeat (first | (with_reducible first | exact HB.out | apply below_alloc | apply pw_below_drewN | apply below_drew1) | exact HB.out)) hb); clear HB; have HB := n0_; clear n0_; (try clear hb); (try clear hb2); (try clear hk); (try clear hi); have tkA22 : True := trivial) | (go_at_call 14; have t_ := tkA22; clear t_ tkA22; (with_reducible refine (text_Value.calls (⟨#[97, 32, 98]⟩ : ByteArray) true _ A22.out).mono ?_); rintro e w44 ⟨rfl, hb⟩; have n0_ := Aside0.mk (below_step (by repeat (first | (with_reducible first | exact HB.out | apply below_alloc | apply pw_below_drewN | apply below_drew1) | exact HB.out)) hb); clear HB; have HB := n0_; clear n0_; (try clear hb); (try clear hb2); (try clear hk); (try clear hi); have tkA26 : True := trivial) | (go_at_call 20; have t_ := tkA26; clear t_ tkA26; (with_reducible refine (text_Number.calls 12 t118 _ A26.out (Glob.below hG rfl (by repeat (first | (with_reducible first | exact HB.out | apply below_alloc | apply pw_below_drewN | apply below_drew1) | exact HB.out)))).mono ?_); rintro e w45 ⟨rfl, hb⟩; have n0_ := Aside0.mk (below_step (by repeat (first | (with_reducible first | exact HB.out | apply below_alloc | apply pw_below_drewN | apply below_drew1) | exact HB.out)) hb); clear HB; have HB := n0_; clear n0_; (try clear hb); (try clear hb2); (try clear hk); (try clear hi)))
                    go_ret
                    exact ⟨by first | rfl | (simp [errW_none, errW_some] <;> rfl) | (simp [*, errW_none, errW_some] <;> rfl), by repeat (first | (with_reducible first | exact HB.out | apply below_alloc | apply pw_below_drewN | apply below_drew1) | exact HB.out)⟩
                · replace c25 := Bool.eq_false_iff.mpr c25
                  subst c25
                  have H1 : (some false) = some r := by rw [if_neg (show ¬ (false = true) by decide)] at H; exact H
                  clear H
                  have H := H1
                  clear H1
                  obtain rfl := Option.some.inj H
                  go_enter Tryd.func8, Tryd.ntmps8
                  go_wp2_with (first | ((with_reducible refine gate_callee (f := 18) rfl ?_); refine goesL_ (some 4) rfl rfl Tryd.func18 (by kernel_rfl) rfl #[.string (⟨#[49, 50, 48]⟩ : ByteArray), .int .i64 120] rfl (by (try simp only [List.map_toArray, List.map_cons, List.map_nil]); first | done | rfl | (simp only [List.length_drop, List.length_take]; rfl)) ?_; (with_reducible refine (text_Decimal.calls (⟨#[49, 50, 48]⟩ : ByteArray) 120 t110 false _ A1.out).mono ?_); rintro e w46 ⟨rfl, hb⟩; refine ⟨_, rfl, ?_⟩; have n0_ := Aside0.mk (below_step (by repeat (first | (with_reducible first | exact HB.out | apply below_alloc | apply pw_below_drewN | apply below_drew1) | exact HB.out)) hb); clear HB; have HB := n0_; clear n0_; (try clear hb); (try clear hb2); (try clear hk); (try clear hi)) | ((with_reducible refine gate_callee (f := 9) rfl ?_); refine goesL_ (some 7) rfl rfl Tryd.func9 (by kernel_rfl) rfl #[.string (⟨#[87, 119, 87, 46, 69, 120]⟩ : ByteArray)] rfl (by (try simp only [List.map_toArray, List.map_cons, List.map_nil]); first | done | rfl | (simp only [List.length_drop, List.length_take]; rfl)) ?_; (with_reducible refine (text_Fold.calls (⟨#[87, 119, 87, 46, 69, 120]⟩ : ByteArray) t112 _ A2.out).mono ?_); rintro e w47 ⟨rfl, hb⟩; refine ⟨_, rfl, ?_⟩; have n0_ := Aside0.mk (below_step (by repeat (first | (with_reducible first | exact HB.out | apply below_alloc | apply pw_below_drewN | apply below_drew1) | exact HB.out)) hb); clear HB; have HB := n0_; clear n0_; (try clear hb); (try clear hb2); (try clear hk); (try clear hi); have tkA4 : True := trivial) | (go_at_call 11; have t_ := tkA4; clear t_ tkA4; (with_reducible refine (text_Same.calls (⟨#[65]⟩ : ByteArray) (⟨#[97]⟩ : ByteArray) true _ A4.out).mono ?_); rintro e w48 ⟨rfl, hb⟩; have n0_ := Aside0.mk (below_step (by repeat (first | (with_reducible first | exact HB.out | apply below_alloc | apply pw_below_drewN | apply below_drew1) | exact HB.out)) hb); clear HB; have HB := n0_; clear n0_; (try clear hb); (try clear hb2); (try clear hk); (try clear hi); have tkA6 : True := trivial) | (go_at_call 11; have t_ := tkA6; clear t_ tkA6; (with_reducible refine (text_Same.calls (⟨#[65]⟩ : ByteArray) (⟨#[98]⟩ : ByteArray) false _ A6.out).mono ?_); rintro e w49 ⟨rfl, hb⟩; have n0_ := Aside0.mk (below_step (by repeat (first | (with_reducible first | exact HB.out | apply below_alloc | apply pw_below_drewN | apply below_drew1) | exact HB.out)) hb); clear HB; have HB := n0_; clear n0_; (try clear hb); (try clear hb2); (try clear hk); (try clear hi); have tkA12 : True := trivial) | (go_at_call 12; have t_ := tkA12; clear t_ tkA12; (with_reducible refine (text_Token.calls (⟨#[97, 45, 98]⟩ : ByteArray) true _ A12.out).mono ?_); rintro e w50 ⟨rfl, hb⟩; have n0_ := Aside0.mk (below_step (by repeat (first | (with_reducible first | exact HB.out | apply below_alloc | apply pw_below_drewN | apply below_drew1) | exact HB.out)) hb); clear HB; have HB := n0_; clear n0_; (try clear hb); (try clear hb2); (try clear hk); (try clear hi); have tkA14 : True := trivial) | (go_at_call 12; have t_ := tkA14; clear t_ tkA14; (with_reducible refine (text_Token.calls (⟨#[97, 32, 98]⟩ : ByteArray) false _ A14.out).mono ?_); rintro e w51 ⟨rfl, hb⟩; have n0_ := Aside0.mk (below_step (by repeat (first | (with_reducible first | exact HB.out | apply below_alloc | apply pw_below_drewN | apply below_drew1) | exact HB.out)) hb); clear HB; have HB := n0_; clear n0_; (try clear hb); (try clear hb2); (try clear hk); (try clear hi); have tkA22 : True := trivial) | (go_at_call 14; have t_ := tkA22; clear t_ tkA22; (with_reducible refine (text_Value.calls (⟨#[97, 32, 98]⟩ : ByteArray) true _ A22.out).mono ?_); rintro e w52 ⟨rfl, hb⟩; have n0_ := Aside0.mk (below_step (by repeat (first | (with_reducible first | exact HB.out | apply below_alloc | apply pw_below_drewN | apply below_drew1) | exact HB.out)) hb); clear HB; have HB := n0_; clear n0_; (try clear hb); (try clear hb2); (try clear hk); (try clear hi)))
                  go_ret
                  exact ⟨by first | rfl | (simp [errW_none, errW_some] <;> rfl) | (simp [*, errW_none, errW_some] <;> rfl), by repeat (first | (with_reducible first | exact HB.out | apply below_alloc | apply pw_below_drewN | apply below_drew1) | exact HB.out)⟩
              · rw [if_neg c24] at H
                have c24b0 : (t110 == 120) = false := beq_eq_false_iff_ne.mpr c24
                have c24b1 : (t110 != 120) = true := bne_iff_ne.mpr c24
                obtain rfl := Option.some.inj H
                go_enter Tryd.func8, Tryd.ntmps8
                go_wp2_with (first | ((with_reducible refine gate_callee (f := 18) rfl ?_); refine goesL_ (some 4) rfl rfl Tryd.func18 (by kernel_rfl) rfl #[.string (⟨#[49, 50, 48]⟩ : ByteArray), .int .i64 120] rfl (by (try simp only [List.map_toArray, List.map_cons, List.map_nil]); first | done | rfl | (simp only [List.length_drop, List.length_take]; rfl)) ?_; (with_reducible refine (text_Decimal.calls (⟨#[49, 50, 48]⟩ : ByteArray) 120 t110 t111 _ A1.out).mono ?_); rintro e w53 ⟨rfl, hb⟩; refine ⟨_, rfl, ?_⟩; have n0_ := Aside0.mk (below_step (by repeat (first | (with_reducible first | exact HB.out | apply below_alloc | apply pw_below_drewN | apply below_drew1) | exact HB.out)) hb); clear HB; have HB := n0_; clear n0_; (try clear hb); (try clear hb2); (try clear hk); (try clear hi)) | ((with_reducible refine gate_callee (f := 9) rfl ?_); refine goesL_ (some 7) rfl rfl Tryd.func9 (by kernel_rfl) rfl #[.string (⟨#[87, 119, 87, 46, 69, 120]⟩ : ByteArray)] rfl (by (try simp only [List.map_toArray, List.map_cons, List.map_nil]); first | done | rfl | (simp only [List.length_drop, List.length_take]; rfl)) ?_; (with_reducible refine (text_Fold.calls (⟨#[87, 119, 87, 46, 69, 120]⟩ : ByteArray) t112 _ A2.out).mono ?_); rintro e w54 ⟨rfl, hb⟩; refine ⟨_, rfl, ?_⟩; have n0_ := Aside0.mk (below_step (by repeat (first | (with_reducible first | exact HB.out | apply below_alloc | apply pw_below_drewN | apply below_drew1) | exact HB.out)) hb); clear HB; have HB := n0_; clear n0_; (try clear hb); (try clear hb2); (try clear hk); (try clear hi); have tkA4 : True := trivial) | (go_at_call 11; have t_ := tkA4; clear t_ tkA4; (with_reducible refine (text_Same.calls (⟨#[65]⟩ : ByteArray) (⟨#[97]⟩ : ByteArray) true _ A4.out).mono ?_); rintro e w55 ⟨rfl, hb⟩; have n0_ := Aside0.mk (below_step (by repeat (first | (with_reducible first | exact HB.out | apply below_alloc | apply pw_below_drewN | apply below_drew1) | exact HB.out)) hb); clear HB; have HB := n0_; clear n0_; (try clear hb); (try clear hb2); (try clear hk); (try clear hi); have tkA6 : True := trivial) | (go_at_call 11; have t_ := tkA6; clear t_ tkA6; (with_reducible refine (text_Same.calls (⟨#[65]⟩ : ByteArray) (⟨#[98]⟩ : ByteArray) false _ A6.out).mono ?_); rintro e w56 ⟨rfl, hb⟩; have n0_ := Aside0.mk (below_step (by repeat (first | (with_reducible first | exact HB.out | apply below_alloc | apply pw_below_drewN | apply below_drew1) | exact HB.out)) hb); clear HB; have HB := n0_; clear n0_; (try clear hb); (try clear hb2); (try clear hk); (try clear hi); have tkA12 : True := trivial) | (go_at_call 12; have t_ := tkA12; clear t_ tkA12; (with_reducible refine (text_Token.calls (⟨#[97, 45, 98]⟩ : ByteArray) true _ A12.out).mono ?_); rintro e w57 ⟨rfl, hb⟩; have n0_ := Aside0.mk (below_step (by repeat (first | (with_reducible first | exact HB.out | apply below_alloc | apply pw_below_drewN | apply below_drew1) | exact HB.out)) hb); clear HB; have HB := n0_; clear n0_; (try clear hb); (try clear hb2); (try clear hk); (try clear hi); have tkA14 : True := trivial) | (go_at_call 12; have t_ := tkA14; clear t_ tkA14; (with_reducible refine (text_Token.calls (⟨#[97, 32, 98]⟩ : ByteArray) false _ A14.out).mono ?_); rintro e w58 ⟨rfl, hb⟩; have n0_ := Aside0.mk (below_step (by repeat (first | (with_reducible first | exact HB.out | apply below_alloc | apply pw_below_drewN | apply below_drew1) | exact HB.out)) hb); clear HB; have HB := n0_; clear n0_; (try clear hb); (try clear hb2); (try clear hk); (try clear hi); have tkA22 : True := trivial) | (go_at_call 14; have t_ := tkA22; clear t_ tkA22; (with_reducible refine (text_Value.calls (⟨#[97, 32, 98]⟩ : ByteArray) true _ A22.out).mono ?_); rintro e w59 ⟨rfl, hb⟩; have n0_ := Aside0.mk (below_step (by repeat (first | (with_reducible first | exact HB.out | apply below_alloc | apply pw_below_drewN | apply below_drew1) | exact HB.out)) hb); clear HB; have HB := n0_; clear n0_; (try clear hb); (try clear hb2); (try clear hk); (try clear hi)))
                go_ret
                exact ⟨by first | rfl | (simp [errW_none, errW_some] <;> rfl) | (simp [*, errW_none, errW_some] <;> rfl), by repeat (first | (with_reducible first | exact HB.out | apply below_alloc | apply pw_below_drewN | apply below_drew1) | exact HB.out)⟩
            · replace c23 := Bool.eq_false_iff.mpr c23
              subst c23
              have H1 : (some false) = some r := by rw [if_neg (show ¬ (false = true) by decide)] at H; exact H
              clear H
              have H := H1
              clear H1
              obtain rfl := Option.some.inj H
              go_enter Tryd.func8, Tryd.ntmps8
              go_wp2_with (first | ((with_reducible refine gate_callee (f := 18) rfl ?_); refine goesL_ (some 4) rfl rfl Tryd.func18 (by kernel_rfl) rfl #[.string (⟨#[49, 50, 48]⟩ : ByteArray), .int .i64 120] rfl (by (try simp only [List.map_toArray, List.map_cons, List.map_nil]); first | done | rfl | (simp only [List.length_drop, List.length_take]; rfl)) ?_; (with_reducible refine (text_Decimal.calls (⟨#[49, 50, 48]⟩ : ByteArray) 120 t110 t111 _ A1.out).mono ?_); rintro e w60 ⟨rfl, hb⟩; refine ⟨_, rfl, ?_⟩; have n0_ := Aside0.mk (below_step (by repeat (first | (with_reducible first | exact HB.out | apply below_alloc | apply pw_below_drewN | apply below_drew1) | exact HB.out)) hb); clear HB; have HB := n0_; clear n0_; (try clear hb); (try clear hb2); (try clear hk); (try clear hi)) | ((with_reducible refine gate_callee (f := 9) rfl ?_); refine goesL_ (some 7) rfl rfl Tryd.func9 (by kernel_rfl) rfl #[.string (⟨#[87, 119, 87, 46, 69, 120]⟩ : ByteArray)] rfl (by (try simp only [List.map_toArray, List.map_cons, List.map_nil]); first | done | rfl | (simp only [List.length_drop, List.length_take]; rfl)) ?_; (with_reducible refine (text_Fold.calls (⟨#[87, 119, 87, 46, 69, 120]⟩ : ByteArray) t112 _ A2.out).mono ?_); rintro e w61 ⟨rfl, hb⟩; refine ⟨_, rfl, ?_⟩; have n0_ := Aside0.mk (below_step (by repeat (first | (with_reducible first | exact HB.out | apply below_alloc | apply pw_below_drewN | apply below_drew1) | exact HB.out)) hb); clear HB; have HB := n0_; clear n0_; (try clear hb); (try clear hb2); (try clear hk); (try clear hi); have tkA4 : True := trivial) | (go_at_call 11; have t_ := tkA4; clear t_ tkA4; (with_reducible refine (text_Same.calls (⟨#[65]⟩ : ByteArray) (⟨#[97]⟩ : ByteArray) true _ A4.out).mono ?_); rintro e w62 ⟨rfl, hb⟩; have n0_ := Aside0.mk (below_step (by repeat (first | (with_reducible first | exact HB.out | apply below_alloc | apply pw_below_drewN | apply below_drew1) | exact HB.out)) hb); clear HB; have HB := n0_; clear n0_; (try clear hb); (try clear hb2); (try clear hk); (try clear hi); have tkA6 : True := trivial) | (go_at_call 11; have t_ := tkA6; clear t_ tkA6; (with_reducible refine (text_Same.calls (⟨#[65]⟩ : ByteArray) (⟨#[98]⟩ : ByteArray) false _ A6.out).mono ?_); rintro e w63 ⟨rfl, hb⟩; have n0_ := Aside0.mk (below_step (by repeat (first | (with_reducible first | exact HB.out | apply below_alloc | apply pw_below_drewN | apply below_drew1) | exact HB.out)) hb); clear HB; have HB := n0_; clear n0_; (try clear hb); (try clear hb2); (try clear hk); (try clear hi); have tkA12 : True := trivial) | (go_at_call 12; have t_ := tkA12; clear t_ tkA12; (with_reducible refine (text_Token.calls (⟨#[97, 45, 98]⟩ : ByteArray) true _ A12.out).mono ?_); rintro e w64 ⟨rfl, hb⟩; have n0_ := Aside0.mk (below_step (by repeat (first | (with_reducible first | exact HB.out | apply below_alloc | apply pw_below_drewN | apply below_drew1) | exact HB.out)) hb); clear HB; have HB := n0_; clear n0_; (try clear hb); (try clear hb2); (try clear hk); (try clear hi); have tkA14 : True := trivial) | (go_at_call 12; have t_ := tkA14; clear t_ tkA14; (with_reducible refine (text_Token.calls (⟨#[97, 32, 98]⟩ : ByteArray) false _ A14.out).mono ?_); rintro e w65 ⟨rfl, hb⟩; have n0_ := Aside0.mk (below_step (by repeat (first | (with_reducible first | exact HB.out | apply below_alloc | apply pw_below_drewN | apply below_drew1) | exact HB.out)) hb); clear HB; have HB := n0_; clear n0_; (try clear hb); (try clear hb2); (try clear hk); (try clear hi); have tkA22 : True := trivial) | (go_at_call 14; have t_ := tkA22; clear t_ tkA22; (with_reducible refine (text_Value.calls (⟨#[97, 32, 98]⟩ : ByteArray) false _ A22.out).mono ?_); rintro e w66 ⟨rfl, hb⟩; have n0_ := Aside0.mk (below_step (by repeat (first | (with_reducible first | exact HB.out | apply below_alloc | apply pw_below_drewN | apply below_drew1) | exact HB.out)) hb); clear HB; have HB := n0_; clear n0_; (try clear hb); (try clear hb2); (try clear hk); (try clear hi)))
              go_ret
              exact ⟨by first | rfl | (simp [errW_none, errW_some] <;> rfl) | (simp [*, errW_none, errW_some] <;> rfl), by repeat (first | (with_reducible first | exact HB.out | apply below_alloc | apply pw_below_drewN | apply below_drew1) | exact HB.out)⟩
        · replace c13 := Bool.eq_false_iff.mpr c13
          subst c13
          have H1 : (some false) = some r := by rw [if_neg (show ¬ (false = true) by decide)] at H; exact H
          clear H
          have H := H1
          clear H1
          obtain rfl := Option.some.inj H
          go_enter Tryd.func8, Tryd.ntmps8
          go_wp2_with (first | ((with_reducible refine gate_callee (f := 18) rfl ?_); refine goesL_ (some 4) rfl rfl Tryd.func18 (by kernel_rfl) rfl #[.string (⟨#[49, 50, 48]⟩ : ByteArray), .int .i64 120] rfl (by (try simp only [List.map_toArray, List.map_cons, List.map_nil]); first | done | rfl | (simp only [List.length_drop, List.length_take]; rfl)) ?_; (with_reducible refine (text_Decimal.calls (⟨#[49, 50, 48]⟩ : ByteArray) 120 t110 t111 _ A1.out).mono ?_); rintro e w67 ⟨rfl, hb⟩; refine ⟨_, rfl, ?_⟩; have n0_ := Aside0.mk (below_step (by repeat (first | (with_reducible first | exact HB.out | apply below_alloc | apply pw_below_drewN | apply below_drew1) | exact HB.out)) hb); clear HB; have HB := n0_; clear n0_; (try clear hb); (try clear hb2); (try clear hk); (try clear hi)) | ((with_reducible refine gate_callee (f := 9) rfl ?_); refine goesL_ (some 7) rfl rfl Tryd.func9 (by kernel_rfl) rfl #[.string (⟨#[87, 119, 87, 46, 69, 120]⟩ : ByteArray)] rfl (by (try simp only [List.map_toArray, List.map_cons, List.map_nil]); first | done | rfl | (simp only [List.length_drop, List.length_take]; rfl)) ?_; (with_reducible refine (text_Fold.calls (⟨#[87, 119, 87, 46, 69, 120]⟩ : ByteArray) t112 _ A2.out).mono ?_); rintro e w68 ⟨rfl, hb⟩; refine ⟨_, rfl, ?_⟩; have n0_ := Aside0.mk (below_step (by repeat (first | (with_reducible first | exact HB.out | apply below_alloc | apply pw_below_drewN | apply below_drew1) | exact HB.out)) hb); clear HB; have HB := n0_; clear n0_; (try clear hb); (try clear hb2); (try clear hk); (try clear hi); have tkA4 : True := trivial) | (go_at_call 11; have t_ := tkA4; clear t_ tkA4; (with_reducible refine (text_Same.calls (⟨#[65]⟩ : ByteArray) (⟨#[97]⟩ : ByteArray) true _ A4.out).mono ?_); rintro e w69 ⟨rfl, hb⟩; have n0_ := Aside0.mk (below_step (by repeat (first | (with_reducible first | exact HB.out | apply below_alloc | apply pw_below_drewN | apply below_drew1) | exact HB.out)) hb); clear HB; have HB := n0_; clear n0_; (try clear hb); (try clear hb2); (try clear hk); (try clear hi); have tkA6 : True := trivial) | (go_at_call 11; have t_ := tkA6; clear t_ tkA6; (with_reducible refine (text_Same.calls (⟨#[65]⟩ : ByteArray) (⟨#[98]⟩ : ByteArray) false _ A6.out).mono ?_); rintro e w70 ⟨rfl, hb⟩; have n0_ := Aside0.mk (below_step (by repeat (first | (with_reducible first | exact HB.out | apply below_alloc | apply pw_below_drewN | apply below_drew1) | exact HB.out)) hb); clear HB; have HB := n0_; clear n0_; (try clear hb); (try clear hb2); (try clear hk); (try clear hi); have tkA12 : True := trivial) | (go_at_call 12; have t_ := tkA12; clear t_ tkA12; (with_reducible refine (text_Token.calls (⟨#[97, 45, 98]⟩ : ByteArray) false _ A12.out).mono ?_); rintro e w71 ⟨rfl, hb⟩; have n0_ := Aside0.mk (below_step (by repeat (first | (with_reducible first | exact HB.out | apply below_alloc | apply pw_below_drewN | apply below_drew1) | exact HB.out)) hb); clear HB; have HB := n0_; clear n0_; (try clear hb); (try clear hb2); (try clear hk); (try clear hi)))
          go_ret
          exact ⟨by first | rfl | (simp [errW_none, errW_some] <;> rfl) | (simp [*, errW_none, errW_some] <;> rfl), by repeat (first | (with_reducible first | exact HB.out | apply below_alloc | apply pw_below_drewN | apply below_drew1) | exact HB.out)⟩
    · replace c5 := Bool.eq_false_iff.mpr c5
      subst c5
      have H1 : (some false) = some r := by rw [if_neg (show ¬ (false = true) by decide)] at H; exact H
      clear H
      have H := H1
      clear H1
      obtain rfl := Option.some.inj H
      go_enter Tryd.func8, Tryd.ntmps8
      go_wp2_with (first | ((with_reducible refine gate_callee (f := 18) rfl ?_); refine goesL_ (some 4) rfl rfl Tryd.func18 (by kernel_rfl) rfl #[.string (⟨#[49, 50, 48]⟩ : ByteArray), .int .i64 120] rfl (by (try simp only [List.map_toArray, List.map_cons, List.map_nil]); first | done | rfl | (simp only [List.length_drop, List.length_take]; rfl)) ?_; (with_reducible refine (text_Decimal.calls (⟨#[49, 50, 48]⟩ : ByteArray) 120 t110 t111 _ A1.out).mono ?_); rintro e w72 ⟨rfl, hb⟩; refine ⟨_, rfl, ?_⟩; have n0_ := Aside0.mk (below_step (by repeat (first | (with_reducible first | exact HB.out | apply below_alloc | apply pw_below_drewN | apply below_drew1) | exact HB.out)) hb); clear HB; have HB := n0_; clear n0_; (try clear hb); (try clear hb2); (try clear hk); (try clear hi)) | ((with_reducible refine gate_callee (f := 9) rfl ?_); refine goesL_ (some 7) rfl rfl Tryd.func9 (by kernel_rfl) rfl #[.string (⟨#[87, 119, 87, 46, 69, 120]⟩ : ByteArray)] rfl (by (try simp only [List.map_toArray, List.map_cons, List.map_nil]); first | done | rfl | (simp only [List.length_drop, List.length_take]; rfl)) ?_; (with_reducible refine (text_Fold.calls (⟨#[87, 119, 87, 46, 69, 120]⟩ : ByteArray) t112 _ A2.out).mono ?_); rintro e w73 ⟨rfl, hb⟩; refine ⟨_, rfl, ?_⟩; have n0_ := Aside0.mk (below_step (by repeat (first | (with_reducible first | exact HB.out | apply below_alloc | apply pw_below_drewN | apply below_drew1) | exact HB.out)) hb); clear HB; have HB := n0_; clear n0_; (try clear hb); (try clear hb2); (try clear hk); (try clear hi); have tkA4 : True := trivial) | (go_at_call 11; have t_ := tkA4; clear t_ tkA4; (with_reducible refine (text_Same.calls (⟨#[65]⟩ : ByteArray) (⟨#[97]⟩ : ByteArray) false _ A4.out).mono ?_); rintro e w74 ⟨rfl, hb⟩; have n0_ := Aside0.mk (below_step (by repeat (first | (with_reducible first | exact HB.out | apply below_alloc | apply pw_below_drewN | apply below_drew1) | exact HB.out)) hb); clear HB; have HB := n0_; clear n0_; (try clear hb); (try clear hb2); (try clear hk); (try clear hi)))
      go_ret
      exact ⟨by first | rfl | (simp [errW_none, errW_some] <;> rfl) | (simp [*, errW_none, errW_some] <;> rfl), by repeat (first | (with_reducible first | exact HB.out | apply below_alloc | apply pw_below_drewN | apply below_drew1) | exact HB.out)⟩
  · rw [if_neg c3] at H
    have c3b0 : (t112.toList == ([119, 119, 119, 46, 101, 120] : List UInt8)) = false := beq_eq_false_iff_ne.mpr c3
    have c3b1 : (t112.toList != ([119, 119, 119, 46, 101, 120] : List UInt8)) = true := bne_iff_ne.mpr c3
    obtain rfl := Option.some.inj H
    go_enter Tryd.func8, Tryd.ntmps8
    go_wp2_with (first | ((with_reducible refine gate_callee (f := 18) rfl ?_); refine goesL_ (some 4) rfl rfl Tryd.func18 (by kernel_rfl) rfl #[.string (⟨#[49, 50, 48]⟩ : ByteArray), .int .i64 120] rfl (by (try simp only [List.map_toArray, List.map_cons, List.map_nil]); first | done | rfl | (simp only [List.length_drop, List.length_take]; rfl)) ?_; (with_reducible refine (text_Decimal.calls (⟨#[49, 50, 48]⟩ : ByteArray) 120 t110 t111 _ A1.out).mono ?_); rintro e w75 ⟨rfl, hb⟩; refine ⟨_, rfl, ?_⟩; have n0_ := Aside0.mk (below_step (by repeat (first | (with_reducible first | exact HB.out | apply below_alloc | apply pw_below_drewN | apply below_drew1) | exact HB.out)) hb); clear HB; have HB := n0_; clear n0_; (try clear hb); (try clear hb2); (try clear hk); (try clear hi)) | ((with_reducible refine gate_callee (f := 9) rfl ?_); refine goesL_ (some 7) rfl rfl Tryd.func9 (by kernel_rfl) rfl #[.string (⟨#[87, 119, 87, 46, 69, 120]⟩ : ByteArray)] rfl (by (try simp only [List.map_toArray, List.map_cons, List.map_nil]); first | done | rfl | (simp only [List.length_drop, List.length_take]; rfl)) ?_; (with_reducible refine (text_Fold.calls (⟨#[87, 119, 87, 46, 69, 120]⟩ : ByteArray) t112 _ A2.out).mono ?_); rintro e w76 ⟨rfl, hb⟩; refine ⟨_, rfl, ?_⟩; have n0_ := Aside0.mk (below_step (by repeat (first | (with_reducible first | exact HB.out | apply below_alloc | apply pw_below_drewN | apply below_drew1) | exact HB.out)) hb); clear HB; have HB := n0_; clear n0_; (try clear hb); (try clear hb2); (try clear hk); (try clear hi)))
    go_ret
    exact ⟨by first | rfl | (simp [errW_none, errW_some] <;> rfl) | (simp [*, errW_none, errW_some] <;> rfl), by repeat (first | (with_reducible first | exact HB.out | apply below_alloc | apply pw_below_drewN | apply below_drew1) | exact HB.out)⟩

/-! ### nuncioref02_in: function 22 -/
def nuncioref02_in.f (a0 : Int) (a1 : Int) (a2 : Int) : Option (Bool) := if a0 ≥ a1 then (some (decide (a0 ≤ a2))) else (some false)
set_option maxHeartbeats 8000000 in
set_option maxRecDepth 100000 in
theorem nuncioref02_in.calls (a0 : Int) (a1 : Int) (a2 : Int) (r : Bool) (w : World) (h : nuncioref02_in.f a0 a1 a2 = some r) :
    Calls Tryd.prog 22 #[.int .u8 a0, .int .u8 a1, .int .u8 a2] w fun e w' => e = .returned (.bool r) ∧ Drawn0 w w' := by
  have H : (if a0 ≥ a1 then (some (decide (a0 ≤ a2))) else (some false)) = some r := h
  clear h
  by_cases c4 : a0 ≥ a1
  · rw [if_pos c4] at H
    have c4b0 : decide (a1 ≤ a0) = true := decide_eq_true c4
    clear c4
    obtain rfl := Option.some.inj H
    go_enter Tryd.func22, Tryd.ntmps22
    go_wp2
    go_ret
    exact ⟨by first | rfl | (simp; done) | (simp [*]; done), by repeat (first | exact Drawn0.refl _ | apply Drawn0.step)⟩
  · rw [if_neg c4] at H
    have c4b0 : decide (a1 ≤ a0) = false := decide_eq_false c4
    clear c4
    obtain rfl := Option.some.inj H
    go_enter Tryd.func22, Tryd.ntmps22
    go_wp2
    go_ret
    exact ⟨by first | rfl | (simp; done) | (simp [*]; done), by repeat (first | exact Drawn0.refl _ | apply Drawn0.step)⟩

/-! ### nuncioref02_Fold: function 10 -/
def nuncioref02_Fold.l0 : Nat → ByteArray → List Int → Int → Option (ByteArray)
  | 0, _, _, _ => none
  | k + 1, x0, x3, x4 => if x4 < (x0.size : Int) then (if 0 ≤ x4 then ((nuncioref02_in.f (bt x0 x4) 65 90).bind fun t120 => (if t120 = true then (if x3.length < 140737488355328 then (nuncioref02_Fold.l0 k x0 (x3 ++ [((bt x0 x4) + 32) % 256]) (wrap64 (x4 + 1))) else (none)) else (if x3.length < 140737488355328 then (nuncioref02_Fold.l0 k x0 (x3 ++ [bt x0 x4]) (wrap64 (x4 + 1))) else (none)))) else (none)) else (some (strOfNums x3))
def nuncioref02_Fold.f (k : Nat) (a0 : ByteArray) : Option (ByteArray) := nuncioref02_Fold.l0 k a0 ([] : List Int) 0
theorem nuncioref02_Fold.mono_l : ∀ k, (∀ y0 y1 y2, LeO (nuncioref02_Fold.l0 k y0 y1 y2) (nuncioref02_Fold.l0 (k + 1) y0 y1 y2))
  | 0 => fun _ _ _ r h => by simp [nuncioref02_Fold.l0] at h
  | k + 1 => by
    have ih0 := nuncioref02_Fold.mono_l k
    · intro y0 y1 y2
      unfold nuncioref02_Fold.l0
      repeat' first
      | (with_reducible exact ih0 _ _ _)
      | (with_reducible exact LeO.refl _)
      | (with_reducible exact LeO.none _)
      | (with_reducible refine LeO.ite ?_ ?_)
      | (with_reducible refine LeO.bind ?_ (fun _ => ?_))
      | exact ih0 _ _ _
      | exact LeO.none _
      | refine LeO.ite ?_ ?_
      | refine LeO.bind ?_ (fun _ => ?_)
theorem nuncioref02_Fold.mono : ∀ a0 k, LeO (nuncioref02_Fold.f k a0) (nuncioref02_Fold.f (k + 1) a0) := by
  intro a0 k
  have ih0 := nuncioref02_Fold.mono_l k
  unfold nuncioref02_Fold.f
  repeat' first
      | (with_reducible exact ih0 _ _ _)
      | (with_reducible exact LeO.refl _)
      | (with_reducible exact LeO.none _)
      | (with_reducible refine LeO.ite ?_ ?_)
      | (with_reducible refine LeO.bind ?_ (fun _ => ?_))
      | exact ih0 _ _ _
      | exact LeO.none _
      | refine LeO.ite ?_ ?_
      | refine LeO.bind ?_ (fun _ => ?_)
set_option maxHeartbeats 8000000 in
set_option maxRecDepth 100000 in
theorem nuncioref02_Fold.calls (k : Nat) (a0 : ByteArray) (r : ByteArray) (w : World) (h : nuncioref02_Fold.f k a0 = some r) :
    Calls Tryd.prog 10 #[.string a0] w fun e w' => e = .returned (.string r) ∧ Below w.heap.size w w' := by
  have HB := Aside0.mk (Below.refl w.heap.size w)
  have H : (nuncioref02_Fold.l0 k a0 ([] : List Int) 0) = some r := h
  clear h
  have H' := Aside0.mk H
  clear H
  go_enter Tryd.func10, Tryd.ntmps10
  go_wp2
  go_loopg [3, 4] k (fun kq v3 v4 w' => ∃ (x3_1 : List Int) (x4_1 : Int), v4 = .int .i64 x4_1 ∧ Aside0 (nuncioref02_Fold.l0 kq a0 x3_1 x4_1 = some r) ∧ Aside0 (kq ≤ k) ∧ Aside0 (Kd.R (Kd.int .u8) 5 w' w.heap.size (fun _ => True) v3 x3_1) ∧ Aside0 (Below w.heap.size w w'))
  case atStart => exact ⟨(([] : List Int)), (0), (by first | rfl | (simp; done) | (simp [*]; done)), H', ⟨Nat.le_refl _⟩, ⟨by first | exact Kd.R_nil _ _ _ _ _ | exact Kd.N_nil _ _ _ _ _ | exact Kd.V_nil _ _ _ _ _ | exact Kd.Q_nil _ _ _ _ _ | exact Kd.S_nil _ _ _ _ _⟩, ⟨by repeat (first | (with_reducible first | exact HB.out | apply below_alloc | apply pw_below_drewN | apply below_drew1) | exact HB.out)⟩⟩
  case round =>
    clear H'
    try clear c1
    obtain ⟨x3_1, x4_1, rfl, HA, HK1, HO_3, HB⟩ := hrel
    cases gk with
    | zero => exact absurd HA.out (by simp [nuncioref02_Fold.l0])
    | succ k1 =>
      have H := HA.out
      clear HA
      simp only [nuncioref02_Fold.l0] at H
      by_cases c2 : x4_1 < (a0.size : Int)
      · rw [if_pos c2] at H
        have c2b0 : decide (x4_1 < (a0.size : Int)) = true := decide_eq_true c2
        clear c2
        by_cases c3 : 0 ≤ x4_1
        · rw [if_pos c3] at H
          have c3b0 : decide (0 ≤ x4_1) = true := decide_eq_true c3
          clear c3
          replace H := Option.bind_eq_some_iff.mp H
          obtain ⟨t120, A50, H⟩ := H
          replace H : (if t120 = true then (if x3_1.length < 140737488355328 then (nuncioref02_Fold.l0 k1 a0 (x3_1 ++ [((bt a0 x4_1) + 32) % 256]) (wrap64 (x4_1 + 1))) else (none)) else (if x3_1.length < 140737488355328 then (nuncioref02_Fold.l0 k1 a0 (x3_1 ++ [bt a0 x4_1]) (wrap64 (x4_1 + 1))) else (none))) = some r := H
          have A5 := Aside0.mk A50
          clear A50
          by_cases c6 : t120 = true
          · subst c6
            have H1 : (if x3_1.length < 140737488355328 then (nuncioref02_Fold.l0 k1 a0 (x3_1 ++ [((bt a0 x4_1) + 32) % 256]) (wrap64 (x4_1 + 1))) else (none)) = some r := by rw [if_pos rfl] at H; exact H
            clear H
            have H := H1
            clear H1
            by_cases c7 : x3_1.length < 140737488355328
            · rw [if_pos c7] at H
              have LMc7 := Aside0.mk c7
              clear c7
              obtain ⟨y121, hy121⟩ : ∃ y_ : List Int, y_ = (x3_1 ++ [((bt a0 x4_1) + 32) % 256]) := ⟨_, rfl⟩
              replace H : (nuncioref02_Fold.l0 k1 a0 y121 (wrap64 (x4_1 + 1))) = some r := by first | (rw [hy121]; with_reducible exact H) | (have H2_ := (Option.bind_some _ _).symm.trans H; rw [hy121]; with_reducible exact H2_) | (have H2_ := (Option.bind_some _ _).symm.trans H; with_reducible exact H2_) | with_reducible exact H | (rw [hy121]; exact H) | exact H
              have Ny121 := Aside0.mk hy121
              clear hy121
              have H' := Aside0.mk H
              clear H
              have p4 : 0 ≤ (x4_1 : Int) := of_decide_eq_true (by first | (with_reducible assumption) | assumption)
              have q4 : x4_1 < (a0.size : Int) := of_decide_eq_true (by first | (with_reducible assumption) | assumption)
              have hx4 := bt_at a0 x4_1
              replace p4 := eq_true p4
              replace q4 := eq_true q4
              go_wp2_with (first | ((with_reducible refine gate_callee (f := 22) rfl ?_); refine goesL_ (some 16) rfl rfl Tryd.func22 (by kernel_rfl) rfl #[.int .u8 (bt a0 x4_1), .int .u8 65, .int .u8 90] rfl (by (try simp only [List.map_toArray, List.map_cons, List.map_nil]); first | done | rfl | (simp only [List.length_drop, List.length_take]; rfl)) ?_; (with_reducible refine (nuncioref02_in.calls (bt a0 x4_1) 65 90 true _ A5.out).mono ?_); rintro e w' ⟨rfl, ⟨nd, rfl⟩⟩; refine ⟨_, rfl, ?_⟩) | ((with_reducible refine gate_builtin (b := .append) (xs := #[.tmp 19, .tmp 21]) rfl ?_); at_builtin; refine Kd.R_append (Kd.int .u8) (w0 := w) w.heap.size rfl (.tmp 19) (.tmp 21) 31 5 (.int .u8 0) 1 rfl Tryd.underlying31 info5 rfl (by decide) (by omega) u3 x3_1 (((bt a0 x4_1) + 32) % 256) [.int .u8 (((bt a0 x4_1) + 32) % 256)] (fun _ => True) (fun _ => False) rfl rfl ?aP (fun _ hk => hk.elim) ?aF ?aO ?aB ?aS ?aL ?_; (case aP => exact rfl); (case aB => exact (by repeat (first | (with_reducible first | exact HB.out | apply below_alloc | apply pw_below_drewN | apply below_drew1) | exact HB.out))); (case aF => exact (fun _ _ => trivial)); (case aO => exact (by (with_reducible repeat (first | apply Kd.R_alloc | apply Kd.R_drewN | apply Kd.R_drew)); exact HO_3.out)); (case aS => exact (below_size (by repeat (first | (with_reducible first | exact HB.out | apply below_alloc | apply pw_below_drewN | apply below_drew1) | exact HB.out)))); (case aL => have := LMc7.out; omega); intro v122 w8 ho hb hg hat; rw [← Ny121.out] at ho; have n0_ := Aside0.mk (hb); have n1_ := Aside0.mk (ho); clear HB; clear HO_3; have HB := n0_; have HO123 := n1_; clear n0_ n1_; clear ho hb hg hat))
              go_roundg k1
              case measure => have := HK1.out; omega
              case rel => exact ⟨(y121), (wrap64 (x4_1 + 1)), (by first | rfl | (simp; done) | (simp [*]; done)), H', ⟨by have := HK1.out; omega⟩, ⟨by (with_reducible repeat (first | apply Kd.R_alloc | apply Kd.R_drewN | apply Kd.R_drew)); exact HO123.out⟩, ⟨by repeat (first | (with_reducible first | exact HB.out | apply below_alloc | apply pw_below_drewN | apply below_drew1) | exact HB.out)⟩⟩
            · rw [if_neg c7] at H
              exact absurd H (by simp)
          · replace c6 := Bool.eq_false_iff.mpr c6
            subst c6
            have H1 : (if x3_1.length < 140737488355328 then (nuncioref02_Fold.l0 k1 a0 (x3_1 ++ [bt a0 x4_1]) (wrap64 (x4_1 + 1))) else (none)) = some r := by rw [if_neg (show ¬ (false = true) by decide)] at H; exact H
            clear H
            have H := H1
            clear H1
            by_cases c9 : x3_1.length < 140737488355328
            · rw [if_pos c9] at H
              have LMc9 := Aside0.mk c9
              clear c9
              obtain ⟨y124, hy124⟩ : ∃ y_ : List Int, y_ = (x3_1 ++ [bt a0 x4_1]) := ⟨_, rfl⟩
              replace H : (nuncioref02_Fold.l0 k1 a0 y124 (wrap64 (x4_1 + 1))) = some r := by first | (rw [hy124]; with_reducible exact H) | (have H2_ := (Option.bind_some _ _).symm.trans H; rw [hy124]; with_reducible exact H2_) | (have H2_ := (Option.bind_some _ _).symm.trans H; with_reducible exact H2_) | with_reducible exact H | (rw [hy124]; exact H) | exact H
              have Ny124 := Aside0.mk hy124
              clear hy124
              have H' := Aside0.mk H
              clear H
              have p4 : 0 ≤ (x4_1 : Int) := of_decide_eq_true (by first | (with_reducible assumption) | assumption)
              have q4 : x4_1 < (a0.size : Int) := of_decide_eq_true (by first | (with_reducible assumption) | assumption)
              have hx4 := bt_at a0 x4_1
              replace p4 := eq_true p4
              replace q4 := eq_true q4
              go_wp2_with (first | ((with_reducible refine gate_callee (f := 22) rfl ?_); refine goesL_ (some 16) rfl rfl Tryd.func22 (by kernel_rfl) rfl #[.int .u8 (bt a0 x4_1), .int .u8 65, .int .u8 90] rfl (by (try simp only [List.map_toArray, List.map_cons, List.map_nil]); first | done | rfl | (simp only [List.length_drop, List.length_take]; rfl)) ?_; (with_reducible refine (nuncioref02_in.calls (bt a0 x4_1) 65 90 false _ A5.out).mono ?_); rintro e w' ⟨rfl, ⟨nd, rfl⟩⟩; refine ⟨_, rfl, ?_⟩) | ((with_reducible refine gate_builtin (b := .append) (xs := #[.tmp 19, .tmp 21]) rfl ?_); at_builtin; refine Kd.R_append (Kd.int .u8) (w0 := w) w.heap.size rfl (.tmp 19) (.tmp 21) 31 5 (.int .u8 0) 1 rfl Tryd.underlying31 info5 rfl (by decide) (by omega) u3 x3_1 (bt a0 x4_1) [.int .u8 (bt a0 x4_1)] (fun _ => True) (fun _ => False) rfl rfl ?aP (fun _ hk => hk.elim) ?aF ?aO ?aB ?aS ?aL ?_; (case aP => exact rfl); (case aB => exact (by repeat (first | (with_reducible first | exact HB.out | apply below_alloc | apply pw_below_drewN | apply below_drew1) | exact HB.out))); (case aF => exact (fun _ _ => trivial)); (case aO => exact (by (with_reducible repeat (first | apply Kd.R_alloc | apply Kd.R_drewN | apply Kd.R_drew)); exact HO_3.out)); (case aS => exact (below_size (by repeat (first | (with_reducible first | exact HB.out | apply below_alloc | apply pw_below_drewN | apply below_drew1) | exact HB.out)))); (case aL => have := LMc9.out; omega); intro v125 w10 ho hb hg hat; rw [← Ny124.out] at ho; have n0_ := Aside0.mk (hb); have n1_ := Aside0.mk (ho); clear HB; clear HO_3; have HB := n0_; have HO126 := n1_; clear n0_ n1_; clear ho hb hg hat))
              go_roundg k1
              case measure => have := HK1.out; omega
              case rel => exact ⟨(y124), (wrap64 (x4_1 + 1)), (by first | rfl | (simp; done) | (simp [*]; done)), H', ⟨by have := HK1.out; omega⟩, ⟨by (with_reducible repeat (first | apply Kd.R_alloc | apply Kd.R_drewN | apply Kd.R_drew)); exact HO126.out⟩, ⟨by repeat (first | (with_reducible first | exact HB.out | apply below_alloc | apply pw_below_drewN | apply below_drew1) | exact HB.out)⟩⟩
            · rw [if_neg c9] at H
              exact absurd H (by simp)
        · rw [if_neg c3] at H
          exact absurd H (by simp)
      · rw [if_neg c2] at H
        have c2b0 : decide (x4_1 < (a0.size : Int)) = false := decide_eq_false c2
        clear c2
        obtain rfl := Option.some.inj H
        have hcv11 := own_string (P := Tryd.prog) Tryd.underlying31 Tryd.underlying5 Tryd.underlying9 (Kd.own_of_R HO_3.out)
        go_wp2
        go_ret
        exact ⟨by first | rfl | (simp [errW_none, errW_some] <;> rfl) | (simp [*, errW_none, errW_some] <;> rfl), by repeat (first | (with_reducible first | exact HB.out | apply below_alloc | apply pw_below_drewN | apply below_drew1) | exact HB.out)⟩

/-! ### nunciolaw02_TextFolds: function 3 -/
def nunciolaw02_TextFolds.j0 : Nat → ByteArray → ByteArray → Bool → Option (Bool)
  | 0, _, _, _ => none
  | k + 1, x0, x1, x15 => if x15 = true then (some true) else ((text_Fold.f x0).bind fun t128 => ((nuncioref02_Fold.f k x0).bind fun t129 => (if t128.toList = t129.toList then ((text_Fold.f t128).bind fun t130 => (if t130.toList = t128.toList then ((text_Same.f x0 x1).bind fun t131 => ((nuncioref02_Fold.f k x0).bind fun t132 => ((nuncioref02_Fold.f k x1).bind fun t133 => (if (t131 == (t132.toList == t133.toList)) = true then ((text_Same.f x0 t128).bind fun t134 => (if t134 = true then (if x0.size + x1.size ≤ 9223372036854775807 then ((text_Fold.f (x0 ++ x1)).bind fun t135 => ((text_Fold.f x1).bind fun t136 => (if t128.size + t136.size ≤ 9223372036854775807 then (some (t135.toList == (t128 ++ t136).toList)) else (none)))) else (none)) else (some false))) else (some false))))) else (some false))) else (some false))))
def nunciolaw02_TextFolds.f (k : Nat) (a0 : ByteArray) (a1 : ByteArray) : Option (Bool) := (nunciolaw02_awake.f).bind fun t127 => (if t127 = true then (if (a0.size : Int) > 20000 then (nunciolaw02_TextFolds.j0 k a0 a1 true) else (nunciolaw02_TextFolds.j0 k a0 a1 (decide ((a1.size : Int) > 20000)))) else (some false))
theorem nunciolaw02_TextFolds.mono_l : ∀ k, (∀ y0 y1 y2, LeO (nunciolaw02_TextFolds.j0 k y0 y1 y2) (nunciolaw02_TextFolds.j0 (k + 1) y0 y1 y2))
  | 0 => fun _ _ _ r h => by simp [nunciolaw02_TextFolds.j0] at h
  | k + 1 => by
    have ih0 := nunciolaw02_TextFolds.mono_l k
    · intro y0 y1 y2
      unfold nunciolaw02_TextFolds.j0
      repeat' first
      | (with_reducible exact ih0 _ _ _)
      | (with_reducible exact nuncioref02_Fold.mono _ _)
      | (with_reducible exact LeO.refl _)
      | (with_reducible exact LeO.none _)
      | (with_reducible refine LeO.ite ?_ ?_)
      | (with_reducible refine LeO.bind ?_ (fun _ => ?_))
      | exact ih0 _ _ _
      | exact nuncioref02_Fold.mono _ _
      | exact LeO.none _
      | refine LeO.ite ?_ ?_
      | refine LeO.bind ?_ (fun _ => ?_)
theorem nunciolaw02_TextFolds.mono : ∀ a0 a1 k, LeO (nunciolaw02_TextFolds.f k a0 a1) (nunciolaw02_TextFolds.f (k + 1) a0 a1) := by
  intro a0 a1 k
  have ih0 := nunciolaw02_TextFolds.mono_l k
  unfold nunciolaw02_TextFolds.f
  repeat' first
      | (with_reducible exact ih0 _ _ _)
      | (with_reducible exact nuncioref02_Fold.mono _ _)
      | (with_reducible exact LeO.refl _)
      | (with_reducible exact LeO.none _)
      | (with_reducible refine LeO.ite ?_ ?_)
      | (with_reducible refine LeO.bind ?_ (fun _ => ?_))
      | exact ih0 _ _ _
      | exact nuncioref02_Fold.mono _ _
      | exact LeO.none _
      | refine LeO.ite ?_ ?_
      | refine LeO.bind ?_ (fun _ => ?_)
set_option maxHeartbeats 8000000 in
set_option maxRecDepth 100000 in
theorem nunciolaw02_TextFolds.calls (k : Nat) (a0 : ByteArray) (a1 : ByteArray) (r : Bool) (w : World) (h : nunciolaw02_TextFolds.f k a0 a1 = some r) (hG : Aside0 (Glob w)) :
    Calls Tryd.prog 3 #[.string a0, .string a1] w fun e w' => e = .returned (.bool r) ∧ Below w.heap.size w w' := by
  have HB := Aside0.mk (Below.refl w.heap.size w)
  have H : ((nunciolaw02_awake.f).bind fun t127 => (if t127 = true then (if (a0.size : Int) > 20000 then (nunciolaw02_TextFolds.j0 k a0 a1 true) else (nunciolaw02_TextFolds.j0 k a0 a1 (decide ((a1.size : Int) > 20000)))) else (some false))) = some r := h
  clear h
  replace H := Option.bind_eq_some_iff.mp H
  obtain ⟨t127, A30, H⟩ := H
  replace H : (if t127 = true then (if (a0.size : Int) > 20000 then (nunciolaw02_TextFolds.j0 k a0 a1 true) else (nunciolaw02_TextFolds.j0 k a0 a1 (decide ((a1.size : Int) > 20000)))) else (some false)) = some r := H
  have A3 := Aside0.mk A30
  clear A30
  by_cases c4 : t127 = true
  · subst c4
    have H1 : (if (a0.size : Int) > 20000 then (nunciolaw02_TextFolds.j0 k a0 a1 true) else (nunciolaw02_TextFolds.j0 k a0 a1 (decide ((a1.size : Int) > 20000)))) = some r := by rw [if_pos rfl] at H; exact H
    clear H
    have H := H1
    clear H1
    have HC5 := Aside0.mk H
    clear H
    go_enter Tryd.func3, Tryd.ntmps3
    go_upto_region 3 with (first | ((with_reducible refine gate_callee (f := 8) rfl ?_); refine goesL_ (some 6) rfl rfl Tryd.func8 (by kernel_rfl) rfl #[] rfl (by (try simp only [List.map_toArray, List.map_cons, List.map_nil]); first | done | rfl | (simp only [List.length_drop, List.length_take]; rfl)) ?_; (with_reducible refine (nunciolaw02_awake.calls  true _ A3.out (Glob.below hG rfl (by repeat (first | (with_reducible first | exact HB.out | apply below_alloc | apply pw_below_drewN | apply below_drew1) | exact HB.out)))).mono ?_); rintro e w6 ⟨rfl, hb⟩; refine ⟨_, rfl, ?_⟩; have n0_ := Aside0.mk (below_step (by repeat (first | (with_reducible first | exact HB.out | apply below_alloc | apply pw_below_drewN | apply below_drew1) | exact HB.out)) hb); clear HB; have HB := n0_; clear n0_; (try clear hb); (try clear hb2); (try clear hk); (try clear hi)))
    (try simp only [Act.put, List.setIfInBounds_toArray, List.set_cons_zero, List.set_cons_succ])
    go_cut [15] (fun v15 wc => ∃ (kq : Nat) (x15_4 : Bool), v15 = .bool x15_4 ∧ Aside0 (nunciolaw02_TextFolds.j0 kq a0 a1 x15_4 = some r) ∧ Aside0 (kq ≤ k) ∧ Aside0 (Below w.heap.size w wc))
    case first =>
      have H := HC5.out
      clear HC5
      by_cases c7 : (a0.size : Int) > 20000
      · rw [if_pos c7] at H
        have c7b0 : decide (20000 < (a0.size : Int)) = true := decide_eq_true c7
        have c7b1 : decide (20000 < a0.size) = true := decide_eq_true (by omega)
        clear c7
        (first | rw [c7b0] | (simp only [i64_w, i32_w]; rw [c7b0]) | skip)
        have H' := Aside0.mk H
        clear H
        go_wp2
        go_meet
        case rel => exact ⟨_, (true), (by first | rfl | (simp; done) | (simp [*]; done)), H', ⟨by first | omega | exact Nat.le_refl _⟩, ⟨by repeat (first | (with_reducible first | exact HB.out | apply below_alloc | apply pw_below_drewN | apply below_drew1) | exact HB.out)⟩⟩
      · rw [if_neg c7] at H
        have c7b0 : decide (20000 < (a0.size : Int)) = false := decide_eq_false c7
        have c7b1 : decide (20000 < a0.size) = false := decide_eq_false (by omega)
        clear c7
        (first | rw [c7b0] | (simp only [i64_w, i32_w]; rw [c7b0]) | skip)
        have H' := Aside0.mk H
        clear H
        go_wp2
        go_meet
        case rel => exact ⟨_, (decide ((a1.size : Int) > 20000)), (by first | rfl | (simp; done) | (simp [*]; done)), H', ⟨by first | omega | exact Nat.le_refl _⟩, ⟨by repeat (first | (with_reducible first | exact HB.out | apply below_alloc | apply pw_below_drewN | apply below_drew1) | exact HB.out)⟩⟩
    case rest =>
      clear HC5
      try clear p2
      try clear c3
      try clear c4
      try clear c7
      try clear c7b0
      try clear c7b1
      obtain ⟨kq, x15_4, rfl, HA, HJ4, HB⟩ := hcut
      cases kq with
      | zero => exact absurd HA.out (by simp [nunciolaw02_TextFolds.j0])
      | succ kj4 =>
        have H := HA.out
        clear HA
        simp only [nunciolaw02_TextFolds.j0] at H
        by_cases c8 : x15_4 = true
        · subst c8
          have H1 : (some true) = some r := by rw [if_pos rfl] at H; exact H
          clear H
          have H := H1
          clear H1
          obtain rfl := Option.some.inj H
          go_wp2
          go_ret
          exact ⟨by first | rfl | (simp [errW_none, errW_some] <;> rfl) | (simp [*, errW_none, errW_some] <;> rfl), by repeat (first | (with_reducible first | exact HB.out | apply below_alloc | apply pw_below_drewN | apply below_drew1) | exact HB.out)⟩
        · replace c8 := Bool.eq_false_iff.mpr c8
          subst c8
          have H1 : ((text_Fold.f a0).bind fun t128 => ((nuncioref02_Fold.f kj4 a0).bind fun t129 => (if t128.toList = t129.toList then ((text_Fold.f t128).bind fun t130 => (if t130.toList = t128.toList then ((text_Same.f a0 a1).bind fun t131 => ((nuncioref02_Fold.f kj4 a0).bind fun t132 => ((nuncioref02_Fold.f kj4 a1).bind fun t133 => (if (t131 == (t132.toList == t133.toList)) = true then ((text_Same.f a0 t128).bind fun t134 => (if t134 = true then (if a0.size + a1.size ≤ 9223372036854775807 then ((text_Fold.f (a0 ++ a1)).bind fun t135 => ((text_Fold.f a1).bind fun t136 => (if t128.size + t136.size ≤ 9223372036854775807 then (some (t135.toList == (t128 ++ t136).toList)) else (none)))) else (none)) else (some false))) else (some false))))) else (some false))) else (some false)))) = some r := by rw [if_neg (show ¬ (false = true) by decide)] at H; exact H
          clear H
          have H := H1
          clear H1
          replace H := Option.bind_eq_some_iff.mp H
          obtain ⟨t128, A90, H⟩ := H
          replace H : ((nuncioref02_Fold.f kj4 a0).bind fun t129 => (if t128.toList = t129.toList then ((text_Fold.f t128).bind fun t130 => (if t130.toList = t128.toList then ((text_Same.f a0 a1).bind fun t131 => ((nuncioref02_Fold.f kj4 a0).bind fun t132 => ((nuncioref02_Fold.f kj4 a1).bind fun t133 => (if (t131 == (t132.toList == t133.toList)) = true then ((text_Same.f a0 t128).bind fun t134 => (if t134 = true then (if a0.size + a1.size ≤ 9223372036854775807 then ((text_Fold.f (a0 ++ a1)).bind fun t135 => ((text_Fold.f a1).bind fun t136 => (if t128.size + t136.size ≤ 9223372036854775807 then (some (t135.toList == (t128 ++ t136).toList)) else (none)))) else (none)) else (some false))) else (some false))))) else (some false))) else (some false))) = some r := H
          have A9 := Aside0.mk A90
          clear A90
          replace H := Option.bind_eq_some_iff.mp H
          obtain ⟨t129, A100, H⟩ := H
          replace H : (if t128.toList = t129.toList then ((text_Fold.f t128).bind fun t130 => (if t130.toList = t128.toList then ((text_Same.f a0 a1).bind fun t131 => ((nuncioref02_Fold.f kj4 a0).bind fun t132 => ((nuncioref02_Fold.f kj4 a1).bind fun t133 => (if (t131 == (t132.toList == t133.toList)) = true then ((text_Same.f a0 t128).bind fun t134 => (if t134 = true then (if a0.size + a1.size ≤ 9223372036854775807 then ((text_Fold.f (a0 ++ a1)).bind fun t135 => ((text_Fold.f a1).bind fun t136 => (if t128.size + t136.size ≤ 9223372036854775807 then (some (t135.toList == (t128 ++ t136).toList)) else (none)))) else (none)) else (some false))) else (some false))))) else (some false))) else (some false)) = some r := H
          have A10 := Aside0.mk A100
          clear A100
          by_cases c11 : t128.toList = t129.toList
          · rw [if_pos c11] at H
            have c11b0 : (t128.toList == t129.toList) = true := beq_iff_eq.mpr c11
            have c11b1 : (t128.toList != t129.toList) = false := bne_eq_false_iff_eq.mpr c11
            clear c11
            replace H := Option.bind_eq_some_iff.mp H
            obtain ⟨t130, A120, H⟩ := H
            replace H : (if t130.toList = t128.toList then ((text_Same.f a0 a1).bind fun t131 => ((nuncioref02_Fold.f kj4 a0).bind fun t132 => ((nuncioref02_Fold.f kj4 a1).bind fun t133 => (if (t131 == (t132.toList == t133.toList)) = true then ((text_Same.f a0 t128).bind fun t134 => (if t134 = true then (if a0.size + a1.size ≤ 9223372036854775807 then ((text_Fold.f (a0 ++ a1)).bind fun t135 => ((text_Fold.f a1).bind fun t136 => (if t128.size + t136.size ≤ 9223372036854775807 then (some (t135.toList == (t128 ++ t136).toList)) else (none)))) else (none)) else (some false))) else (some false))))) else (some false)) = some r := H
            have A12 := Aside0.mk A120
            clear A120
            by_cases c13 : t130.toList = t128.toList
            · rw [if_pos c13] at H
              have c13b0 : (t130.toList == t128.toList) = true := beq_iff_eq.mpr c13
              have c13b1 : (t130.toList != t128.toList) = false := bne_eq_false_iff_eq.mpr c13
              clear c13
              replace H := Option.bind_eq_some_iff.mp H
              obtain ⟨t131, A140, H⟩ := H
              replace H : ((nuncioref02_Fold.f kj4 a0).bind fun t132 => ((nuncioref02_Fold.f kj4 a1).bind fun t133 => (if (t131 == (t132.toList == t133.toList)) = true then ((text_Same.f a0 t128).bind fun t134 => (if t134 = true then (if a0.size + a1.size ≤ 9223372036854775807 then ((text_Fold.f (a0 ++ a1)).bind fun t135 => ((text_Fold.f a1).bind fun t136 => (if t128.size + t136.size ≤ 9223372036854775807 then (some (t135.toList == (t128 ++ t136).toList)) else (none)))) else (none)) else (some false))) else (some false)))) = some r := H
              have A14 := Aside0.mk A140
              clear A140
              replace H := Option.bind_eq_some_iff.mp H
              obtain ⟨t132, A150, H⟩ := H
              replace H : ((nuncioref02_Fold.f kj4 a1).bind fun t133 => (if (t131 == (t132.toList == t133.toList)) = true then ((text_Same.f a0 t128).bind fun t134 => (if t134 = true then (if a0.size + a1.size ≤ 9223372036854775807 then ((text_Fold.f (a0 ++ a1)).bind fun t135 => ((text_Fold.f a1).bind fun t136 => (if t128.size + t136.size ≤ 9223372036854775807 then (some (t135.toList == (t128 ++ t136).toList)) else (none)))) else (none)) else (some false))) else (some false))) = some r := H
              have A15 := Aside0.mk A150
              clear A150
              replace H := Option.bind_eq_some_iff.mp H
              obtain ⟨t133, A160, H⟩ := H
              replace H : (if (t131 == (t132.toList == t133.toList)) = true then ((text_Same.f a0 t128).bind fun t134 => (if t134 = true then (if a0.size + a1.size ≤ 9223372036854775807 then ((text_Fold.f (a0 ++ a1)).bind fun t135 => ((text_Fold.f a1).bind fun t136 => (if t128.size + t136.size ≤ 9223372036854775807 then (some (t135.toList == (t128 ++ t136).toList)) else (none)))) else (none)) else (some false))) else (some false)) = some r := H
              have A16 := Aside0.mk A160
              clear A160
              by_cases c17 : (t131 == (t132.toList == t133.toList)) = true
              · rw [if_pos c17] at H
                have c17b0 : (t131 == (t132.toList == t133.toList)) = true := c17
                (try (have c17b1 : decide (t131 = (t132.toList == t133.toList)) = true := by simpa using c17))
                (try (have c17b2 : (t131 == (t132.toList == t133.toList)) = true := by simpa using c17))
                clear c17
                replace H := Option.bind_eq_some_iff.mp H
                obtain ⟨t134, A180, H⟩ := H
                replace H : (if t134 = true then (if a0.size + a1.size ≤ 9223372036854775807 then ((text_Fold.f (a0 ++ a1)).bind fun t135 => ((text_Fold.f a1).bind fun t136 => (if t128.size + t136.size ≤ 9223372036854775807 then (some (t135.toList == (t128 ++ t136).toList)) else (none)))) else (none)) else (some false)) = some r := H
                have A18 := Aside0.mk A180
                clear A180
                by_cases c19 : t134 = true
                · subst c19
                  have H1 : (if a0.size + a1.size ≤ 9223372036854775807 then ((text_Fold.f (a0 ++ a1)).bind fun t135 => ((text_Fold.f a1).bind fun t136 => (if t128.size + t136.size ≤ 9223372036854775807 then (some (t135.toList == (t128 ++ t136).toList)) else (none)))) else (none)) = some r := by rw [if_pos rfl] at H; exact H
                  clear H
                  have H := H1
                  clear H1
                  by_cases c20 : a0.size + a1.size ≤ 9223372036854775807
                  · rw [if_pos c20] at H
                    have c20b0 := eq_true c20
                    have c20b1 : decide (a0.size + a1.size ≤ 9223372036854775807) = true := decide_eq_true c20
                    try have c20b2 : (9223372036854775807 < a0.size + a1.size) = False := eq_false (Nat.not_lt.2 c20)
                    replace H := Option.bind_eq_some_iff.mp H
                    obtain ⟨t135, A210, H⟩ := H
                    replace H : ((text_Fold.f a1).bind fun t136 => (if t128.size + t136.size ≤ 9223372036854775807 then (some (t135.toList == (t128 ++ t136).toList)) else (none))) = some r := H
                    have A21 := Aside0.mk A210
                    clear A210
                    replace H := Option.bind_eq_some_iff.mp H
                    obtain ⟨t136, A220, H⟩ := H
                    replace H : (if t128.size + t136.size ≤ 9223372036854775807 then (some (t135.toList == (t128 ++ t136).toList)) else (none)) = some r := H
                    have A22 := Aside0.mk A220
                    clear A220
                    by_cases c23 : t128.size + t136.size ≤ 9223372036854775807
                    · rw [if_pos c23] at H
                      have c23b0 := eq_true c23
                      have c23b1 : decide (t128.size + t136.size ≤ 9223372036854775807) = true := decide_eq_true c23
                      try have c23b2 : (9223372036854775807 < t128.size + t136.size) = False := eq_false (Nat.not_lt.2 c23)
                      obtain rfl := Option.some.inj H
                      go_wp2_with (first | ((with_reducible refine gate_callee (f := 9) rfl ?_); refine goesL_ (some 17) rfl rfl Tryd.func9 (by kernel_rfl) rfl #[.string a0] rfl (by (try simp only [List.map_toArray, List.map_cons, List.map_nil]); first | done | rfl | (simp only [List.length_drop, List.length_take]; rfl)) ?_; (with_reducible refine (text_Fold.calls a0 t128 _ A9.out).mono ?_); rintro e w24 ⟨rfl, hb⟩; refine ⟨_, rfl, ?_⟩; have n0_ := Aside0.mk (below_step (by repeat (first | (with_reducible first | exact HB.out | apply below_alloc | apply pw_below_drewN | apply below_drew1) | exact HB.out)) hb); clear HB; have HB := n0_; clear n0_; (try clear hb); (try clear hb2); (try clear hk); (try clear hi)) | ((with_reducible refine gate_callee (f := 10) rfl ?_); refine goesL_ (some 20) rfl rfl Tryd.func10 (by kernel_rfl) rfl #[.string a0] rfl (by (try simp only [List.map_toArray, List.map_cons, List.map_nil]); first | done | rfl | (simp only [List.length_drop, List.length_take]; rfl)) ?_; (with_reducible refine (nuncioref02_Fold.calls kj4 a0 t129 _ A10.out).mono ?_); rintro e w25 ⟨rfl, hb⟩; refine ⟨_, rfl, ?_⟩; have n0_ := Aside0.mk (below_step (by repeat (first | (with_reducible first | exact HB.out | apply below_alloc | apply pw_below_drewN | apply below_drew1) | exact HB.out)) hb); clear HB; have HB := n0_; clear n0_; (try clear hb); (try clear hb2); (try clear hk); (try clear hi); have tkA12 : True := trivial) | (go_at_call 9; have t_ := tkA12; clear t_ tkA12; (with_reducible refine (text_Fold.calls t128 t130 _ A12.out).mono ?_); rintro e w26 ⟨rfl, hb⟩; have n0_ := Aside0.mk (below_step (by repeat (first | (with_reducible first | exact HB.out | apply below_alloc | apply pw_below_drewN | apply below_drew1) | exact HB.out)) hb); clear HB; have HB := n0_; clear n0_; (try clear hb); (try clear hb2); (try clear hk); (try clear hi); have tkA14 : True := trivial) | (go_at_call 11; have t_ := tkA14; clear t_ tkA14; (with_reducible refine (text_Same.calls a0 a1 t131 _ A14.out).mono ?_); rintro e w27 ⟨rfl, hb⟩; have n0_ := Aside0.mk (below_step (by repeat (first | (with_reducible first | exact HB.out | apply below_alloc | apply pw_below_drewN | apply below_drew1) | exact HB.out)) hb); clear HB; have HB := n0_; clear n0_; (try clear hb); (try clear hb2); (try clear hk); (try clear hi); have tkA15 : True := trivial) | (go_at_call 10; have t_ := tkA15; clear t_ tkA15; (with_reducible refine (nuncioref02_Fold.calls kj4 a0 t132 _ A15.out).mono ?_); rintro e w28 ⟨rfl, hb⟩; have n0_ := Aside0.mk (below_step (by repeat (first | (with_reducible first | exact HB.out | apply below_alloc | apply pw_below_drewN | apply below_drew1) | exact HB.out)) hb); clear HB; have HB := n0_; clear n0_; (try clear hb); (try clear hb2); (try clear hk); (try clear hi); have tkA16 : True := trivial) | (go_at_call 10; have t_ := tkA16; clear t_ tkA16; (with_reducible refine (nuncioref02_Fold.calls kj4 a1 t133 _ A16.out).mono ?_); rintro e w29 ⟨rfl, hb⟩; have n0_ := Aside0.mk (below_step (by repeat (first | (with_reducible first | exact HB.out | apply below_alloc | apply pw_below_drewN | apply below_drew1) | exact HB.out)) hb); clear HB; have HB := n0_; clear n0_; (try clear hb); (try clear hb2); (try clear hk); (try clear hi); have tkA18 : True := trivial) | (go_at_call 11; have t_ := tkA18; clear t_ tkA18; (with_reducible refine (text_Same.calls a0 t128 true _ A18.out).mono ?_); rintro e w30 ⟨rfl, hb⟩; have n0_ := Aside0.mk (below_step (by repeat (first | (with_reducible first | exact HB.out | apply below_alloc | apply pw_below_drewN | apply below_drew1) | exact HB.out)) hb); clear HB; have HB := n0_; clear n0_; (try clear hb); (try clear hb2); (try clear hk); (try clear hi); have tkA21 : True := trivial) | (go_at_call 9; have t_ := tkA21; clear t_ tkA21; (with_reducible refine (text_Fold.calls (a0 ++ a1) t135 _ A21.out).mono ?_); rintro e w31 ⟨rfl, hb⟩; have n0_ := Aside0.mk (below_step (by repeat (first | (with_reducible first | exact HB.out | apply below_alloc | apply pw_below_drewN | apply below_drew1) | exact HB.out)) hb); clear HB; have HB := n0_; clear n0_; (try clear hb); (try clear hb2); (try clear hk); (try clear hi); have tkA22 : True := trivial) | (go_at_call 9; have t_ := tkA22; clear t_ tkA22; (with_reducible refine (text_Fold.calls a1 t136 _ A22.out).mono ?_); rintro e w32 ⟨rfl, hb⟩; have n0_ := Aside0.mk (below_step (by repeat (first | (with_reducible first | exact HB.out | apply below_alloc | apply pw_below_drewN | apply below_drew1) | exact HB.out)) hb); clear HB; have HB := n0_; clear n0_; (try clear hb); (try clear hb2); (try clear hk); (try clear hi)))
                      go_ret
                      exact ⟨by first | rfl | (simp [errW_none, errW_some] <;> rfl) | (simp [*, errW_none, errW_some] <;> rfl), by repeat (first | (with_reducible first | exact HB.out | apply below_alloc | apply pw_below_drewN | apply below_drew1) | exact HB.out)⟩
                    · rw [if_neg c23] at H
                      exact absurd H (by simp)
                  · rw [if_neg c20] at H
                    exact absurd H (by simp)
                · replace c19 := Bool.eq_false_iff.mpr c19
                  subst c19
                  have H1 : (some false) = some r := by rw [if_neg (show ¬ (false = true) by decide)] at H; exact H
                  clear H
                  have H := H1
                  clear H1
                  obtain rfl := Option.some.inj H
                  go_wp2_with (first | ((with_reducible refine gate_callee (f := 9) rfl ?_); refine goesL_ (some 17) rfl rfl Tryd.func9 (by kernel_rfl) rfl #[.string a0] rfl (by (try simp only [List.map_toArray, List.map_cons, List.map_nil]); first | done | rfl | (simp only [List.length_drop, List.length_take]; rfl)) ?_; (with_reducible refine (text_Fold.calls a0 t128 _ A9.out).mono ?_); rintro e w33 ⟨rfl, hb⟩; refine ⟨_, rfl, ?_⟩; have n0_ := Aside0.mk (below_step (by repeat (first | (with_reducible first | exact HB.out | apply below_alloc | apply pw_below_drewN | apply below_drew1) | exact HB.out)) hb); clear HB; have HB := n0_; clear n0_; (try clear hb); (try clear hb2); (try clear hk); (try clear hi)) | ((with_reducible refine gate_callee (f := 10) rfl ?_); refine goesL_ (some 20) rfl rfl Tryd.func10 (by kernel_rfl) rfl #[.string a0] rfl (by (try simp only [List.map_toArray, List.map_cons, List.map_nil]); first | done | rfl | (simp only [List.length_drop, List.length_take]; rfl)) ?_; (with_reducible refine (nuncioref02_Fold.calls kj4 a0 t129 _ A10.out).mono ?_); rintro e w34 ⟨rfl, hb⟩; refine ⟨_, rfl, ?_⟩; have n0_ := Aside0.mk (below_step (by repeat (first | (with_reducible first | exact HB.out | apply below_alloc | apply pw_below_drewN | apply below_drew1) | exact HB.out)) hb); clear HB; have HB := n0_; clear n0_; (try clear hb); (try clear hb2); (try clear hk); (try clear hi); have tkA12 : True := trivial) | (go_at_call 9; have t_ := tkA12; clear t_ tkA12; (with_reducible refine (text_Fold.calls t128 t130 _ A12.out).mono ?_); rintro e w35 ⟨rfl, hb⟩; have n0_ := Aside0.mk (below_step (by repeat (first | (with_reducible first | exact HB.out | apply below_alloc | apply pw_below_drewN | apply below_drew1) | exact HB.out)) hb); clear HB; have HB := n0_; clear n0_; (try clear hb); (try clear hb2); (try clear hk); (try clear hi); have tkA14 : True := trivial) | (go_at_call 11; have t_ := tkA14; clear t_ tkA14; (with_reducible refine (text_Same.calls a0 a1 t131 _ A14.out).mono ?_); rintro e w36 ⟨rfl, hb⟩; have n0_ := Aside0.mk (below_step (by repeat (first | (with_reducible first | exact HB.out | apply below_alloc | apply pw_below_drewN | apply below_drew1) | exact HB.out)) hb); clear HB; have HB := n0_; clear n0_; (try clear hb); (try clear hb2); (try clear hk); (try clear hi); have tkA15 : True := trivial) | (go_at_call 10; have t_ := tkA15; clear t_ tkA15; (with_reducible refine (nuncioref02_Fold.calls kj4 a0 t132 _ A15.out).mono ?_); rintro e w37 ⟨rfl, hb⟩; have n0_ := Aside0.mk (below_step (by repeat (first | (with_reducible first | exact HB.out | apply below_alloc | apply pw_below_drewN | apply below_drew1) | exact HB.out)) hb); clear HB; have HB := n0_; clear n0_; (try clear hb); (try clear hb2); (try clear hk); (try clear hi); have tkA16 : True := trivial) | (go_at_call 10; have t_ := tkA16; clear t_ tkA16; (with_reducible refine (nuncioref02_Fold.calls kj4 a1 t133 _ A16.out).mono ?_); rintro e w38 ⟨rfl, hb⟩; have n0_ := Aside0.mk (below_step (by repeat (first | (with_reducible first | exact HB.out | apply below_alloc | apply pw_below_drewN | apply below_drew1) | exact HB.out)) hb); clear HB; have HB := n0_; clear n0_; (try clear hb); (try clear hb2); (try clear hk); (try clear hi); have tkA18 : True := trivial) | (go_at_call 11; have t_ := tkA18; clear t_ tkA18; (with_reducible refine (text_Same.calls a0 t128 false _ A18.out).mono ?_); rintro e w39 ⟨rfl, hb⟩; have n0_ := Aside0.mk (below_step (by repeat (first | (with_reducible first | exact HB.out | apply below_alloc | apply pw_below_drewN | apply below_drew1) | exact HB.out)) hb); clear HB; have HB := n0_; clear n0_; (try clear hb); (try clear hb2); (try clear hk); (try clear hi)))
                  go_ret
                  exact ⟨by first | rfl | (simp [errW_none, errW_some] <;> rfl) | (simp [*, errW_none, errW_some] <;> rfl), by repeat (first | (with_reducible first | exact HB.out | apply below_alloc | apply pw_below_drewN | apply below_drew1) | exact HB.out)⟩
              · rw [if_neg c17] at H
                have c17b0 : (t131 == (t132.toList == t133.toList)) = false := by simpa using c17
                (try (have c17b1 : decide (t131 = (t132.toList == t133.toList)) = false := by simpa using c17))
                (try (have c17b2 : (t131 == (t132.toList == t133.toList)) = false := by simpa using c17))
                (try (have c17b3 : ¬ (t131 = (t132.toList == t133.toList)) := by simpa using c17))
                clear c17
                obtain rfl := Option.some.inj H
                go_wp2_with (first | ((with_reducible refine gate_callee (f := 9) rfl ?_); refine goesL_ (some 17) rfl rfl Tryd.func9 (by kernel_rfl) rfl #[.string a0] rfl (by (try simp only [List.map_toArray, List.map_cons, List.map_nil]); first | done | rfl | (simp only [List.length_drop, List.length_take]; rfl)) ?_; (with_reducible refine (text_Fold.calls a0 t128 _ A9.out).mono ?_); rintro e w40 ⟨rfl, hb⟩; refine ⟨_, rfl, ?_⟩; have n0_ := Aside0.mk (below_step (by repeat (first | (with_reducible first | exact HB.out | apply below_alloc | apply pw_below_drewN | apply below_drew1) | exact HB.out)) hb); clear HB; have HB := n0_; clear n0_; (try clear hb); (try clear hb2); (try clear hk); (try clear hi)) | ((with_reducible refine gate_callee (f := 10) rfl ?_); refine goesL_ (some 20) rfl rfl Tryd.func10 (by kernel_rfl) rfl #[.string a0] rfl (by (try simp only [List.map_toArray, List.map_cons, List.map_nil]); first | done | rfl | (simp only [List.length_drop, List.length_take]; rfl)) ?_; (with_reducible refine (nuncioref02_Fold.calls kj4 a0 t129 _ A10.out).mono ?_); rintro e w41 ⟨rfl, hb⟩; refine ⟨_, rfl, ?_⟩; have n0_ := Aside0.mk (below_step (by repeat (first | (with_reducible first | exact HB.out | apply below_alloc | apply pw_below_drewN | apply below_drew1) | exact HB.out)) hb); clear HB; have HB := n0_; clear n0_; (try clear hb); (try clear hb2); (try clear hk); (try clear hi); have tkA12 : True := trivial) | (go_at_call 9; have t_ := tkA12; clear t_ tkA12; (with_reducible refine (text_Fold.calls t128 t130 _ A12.out).mono ?_); rintro e w42 ⟨rfl, hb⟩; have n0_ := Aside0.mk (below_step (by repeat (first | (with_reducible first | exact HB.out | apply below_alloc | apply pw_below_drewN | apply below_drew1) | exact HB.out)) hb); clear HB; have HB := n0_; clear n0_; (try clear hb); (try clear hb2); (try clear hk); (try clear hi); have tkA14 : True := trivial) | (go_at_call 11; have t_ := tkA14; clear t_ tkA14; (with_reducible refine (text_Same.calls a0 a1 t131 _ A14.out).mono ?_); rintro e w43 ⟨rfl, hb⟩; have n0_ := Aside0.mk (below_step (by repeat (first | (with_reducible first | exact HB.out | apply below_alloc | apply pw_below_drewN | apply below_drew1) | exact HB.out)) hb); clear HB; have HB := n0_; clear n0_; (try clear hb); (try clear hb2); (try clear hk); (try clear hi); have tkA15 : True := trivial) | (go_at_call 10; have t_ := tkA15; clear t_ tkA15; (with_reducible refine (nuncioref02_Fold.calls kj4 a0 t132 _ A15.out).mono ?_); rintro e w44 ⟨rfl, hb⟩; have n0_ := Aside0.mk (below_step (by repeat (first | (with_reducible first | exact HB.out | apply below_alloc | apply pw_below_drewN | apply below_drew1) | exact HB.out)) hb); clear HB; have HB := n0_; clear n0_; (try clear hb); (try clear hb2); (try clear hk); (try clear hi); have tkA16 : True := trivial) | (go_at_call 10; have t_ := tkA16; clear t_ tkA16; (with_reducible refine (nuncioref02_Fold.calls kj4 a1 t133 _ A16.out).mono ?_); rintro e w45 ⟨rfl, hb⟩; have n0_ := Aside0.mk (below_step (by repeat (first | (with_reducible first | exact HB.out | apply below_alloc | apply pw_below_drewN | apply below_drew1) | exact HB.out)) hb); clear HB; have HB := n0_; clear n0_; (try clear hb); (try clear hb2); (try clear hk); (try clear hi)))
                go_ret
                exact ⟨by first | rfl | (simp [errW_none, errW_some] <;> rfl) | (simp [*, errW_none, errW_some] <;> rfl), by repeat (first | (with_reducible first | exact HB.out | apply below_alloc | apply pw_below_drewN | apply below_drew1) | exact HB.out)⟩
            · rw [if_neg c13] at H
              have c13b0 : (t130.toList == t128.toList) = false := beq_eq_false_iff_ne.mpr c13
              have c13b1 : (t130.toList != t128.toList) = true := bne_iff_ne.mpr c13
              obtain rfl := Option.some.inj H
              go_wp2_with (first | ((with_reducible refine gate_callee (f := 9) rfl ?_); refine goesL_ (some 17) rfl rfl Tryd.func9 (by kernel_rfl) rfl #[.string a0] rfl (by (try simp only [List.map_toArray, List.map_cons, List.map_nil]); first | done | rfl | (simp only [List.length_drop, List.length_take]; rfl)) ?_; (with_reducible refine (text_Fold.calls a0 t128 _ A9.out).mono ?_); rintro e w46 ⟨rfl, hb⟩; refine ⟨_, rfl, ?_⟩; have n0_ := Aside0.mk (below_step (by repeat (first | (with_reducible first | exact HB.out | apply below_alloc | apply pw_below_drewN | apply below_drew1) | exact HB.out)) hb); clear HB; have HB := n0_; clear n0_; (try clear hb); (try clear hb2); (try clear hk); (try clear hi)) | ((with_reducible refine gate_callee (f := 10) rfl ?_); refine goesL_ (some 20) rfl rfl Tryd.func10 (by kernel_rfl) rfl #[.string a0] rfl (by (try simp only [List.map_toArray, List.map_cons, List.map_nil]); first | done | rfl | (simp only [List.length_drop, List.length_take]; rfl)) ?_; (with_reducible refine (nuncioref02_Fold.calls kj4 a0 t129 _ A10.out).mono ?_); rintro e w47 ⟨rfl, hb⟩; refine ⟨_, rfl, ?_⟩; have n0_ := Aside0.mk (below_step (by repeat (first | (with_reducible first | exact HB.out | apply below_alloc | apply pw_below_drewN | apply below_drew1) | exact HB.out)) hb); clear HB; have HB := n0_; clear n0_; (try clear hb); (try clear hb2); (try clear hk); (try clear hi); have tkA12 : True := trivial) | (go_at_call 9; have t_ := tkA12; clear t_ tkA12; (with_reducible refine (text_Fold.calls t128 t130 _ A12.out).mono ?_); rintro e w48 ⟨rfl, hb⟩; have n0_ := Aside0.mk (below_step (by repeat (first | (with_reducible first | exact HB.out | apply below_alloc | apply pw_below_drewN | apply below_drew1) | exact HB.out)) hb); clear HB; have HB := n0_; clear n0_; (try clear hb); (try clear hb2); (try clear hk); (try clear hi)))
              go_ret
              exact ⟨by first | rfl | (simp [errW_none, errW_some] <;> rfl) | (simp [*, errW_none, errW_some] <;> rfl), by repeat (first | (with_reducible first | exact HB.out | apply below_alloc | apply pw_below_drewN | apply below_drew1) | exact HB.out)⟩
          · rw [if_neg c11] at H
            have c11b0 : (t128.toList == t129.toList) = false := beq_eq_false_iff_ne.mpr c11
            have c11b1 : (t128.toList != t129.toList) = true := bne_iff_ne.mpr c11
            obtain rfl := Option.some.inj H
            go_wp2_with (first | ((with_reducible refine gate_callee (f := 9) rfl ?_); refine goesL_ (some 17) rfl rfl Tryd.func9 (by kernel_rfl) rfl #[.string a0] rfl (by (try simp only [List.map_toArray, List.map_cons, List.map_nil]); first | done | rfl | (simp only [List.length_drop, List.length_take]; rfl)) ?_; (with_reducible refine (text_Fold.calls a0 t128 _ A9.out).mono ?_); rintro e w49 ⟨rfl, hb⟩; refine ⟨_, rfl, ?_⟩; have n0_ := Aside0.mk (below_step (by repeat (first | (with_reducible first | exact HB.out | apply below_alloc | apply pw_below_drewN | apply below_drew1) | exact HB.out)) hb); clear HB; have HB := n0_; clear n0_; (try clear hb); (try clear hb2); (try clear hk); (try clear hi)) | ((with_reducible refine gate_callee (f := 10) rfl ?_); refine goesL_ (some 20) rfl rfl Tryd.func10 (by kernel_rfl) rfl #[.string a0] rfl (by (try simp only [List.map_toArray, List.map_cons, List.map_nil]); first | done | rfl | (simp only [List.length_drop, List.length_take]; rfl)) ?_; (with_reducible refine (nuncioref02_Fold.calls kj4 a0 t129 _ A10.out).mono ?_); rintro e w50 ⟨rfl, hb⟩; refine ⟨_, rfl, ?_⟩; have n0_ := Aside0.mk (below_step (by repeat (first | (with_reducible first | exact HB.out | apply below_alloc | apply pw_below_drewN | apply below_drew1) | exact HB.out)) hb); clear HB; have HB := n0_; clear n0_; (try clear hb); (try clear hb2); (try clear hk); (try clear hi)))
            go_ret
            exact ⟨by first | rfl | (simp [errW_none, errW_some] <;> rfl) | (simp [*, errW_none, errW_some] <;> rfl), by repeat (first | (with_reducible first | exact HB.out | apply below_alloc | apply pw_below_drewN | apply below_drew1) | exact HB.out)⟩
  · replace c4 := Bool.eq_false_iff.mpr c4
    subst c4
    have H1 : (some false) = some r := by rw [if_neg (show ¬ (false = true) by decide)] at H; exact H
    clear H
    have H := H1
    clear H1
    obtain rfl := Option.some.inj H
    go_enter Tryd.func3, Tryd.ntmps3
    go_wp2_with (first | ((with_reducible refine gate_callee (f := 8) rfl ?_); refine goesL_ (some 6) rfl rfl Tryd.func8 (by kernel_rfl) rfl #[] rfl (by (try simp only [List.map_toArray, List.map_cons, List.map_nil]); first | done | rfl | (simp only [List.length_drop, List.length_take]; rfl)) ?_; (with_reducible refine (nunciolaw02_awake.calls  false _ A3.out (Glob.below hG rfl (by repeat (first | (with_reducible first | exact HB.out | apply below_alloc | apply pw_below_drewN | apply below_drew1) | exact HB.out)))).mono ?_); rintro e w51 ⟨rfl, hb⟩; refine ⟨_, rfl, ?_⟩; have n0_ := Aside0.mk (below_step (by repeat (first | (with_reducible first | exact HB.out | apply below_alloc | apply pw_below_drewN | apply below_drew1) | exact HB.out)) hb); clear HB; have HB := n0_; clear n0_; (try clear hb); (try clear hb2); (try clear hk); (try clear hi)))
    go_ret
    exact ⟨by first | rfl | (simp [errW_none, errW_some] <;> rfl) | (simp [*, errW_none, errW_some] <;> rfl), by repeat (first | (with_reducible first | exact HB.out | apply below_alloc | apply pw_below_drewN | apply below_drew1) | exact HB.out)⟩

/-- THE ONE PURE STATEMENT of nunciolaw02_TextFolds: yours. -/
def nunciolaw02_TextFolds.Pure : Prop := ∀ (a0 : ByteArray) (a1 : ByteArray), a0.size ≤ 140737488351232 → a1.size ≤ 140737488351232 → ∃ k, nunciolaw02_TextFolds.f k a0 a1 = some true
theorem nunciolaw02_TextFolds.walk (P : nunciolaw02_TextFolds.Pure) (a0 : ByteArray) (a1 : ByteArray) (w : World) (w0 : a0.size ≤ 140737488351232) (w1 : a1.size ≤ 140737488351232) (hG : Aside0 (Glob w)) :
    Calls Tryd.prog 3 #[.string a0, .string a1] w fun e w' => e = .returned (.bool true) ∧ Below w.heap.size w w' := by
  obtain ⟨k, h⟩ := P a0 a1 w0 w1
  refine (nunciolaw02_TextFolds.calls k a0 a1 true w h hG).mono ?_
  rintro e w' ⟨rfl, hd⟩
  exact ⟨rfl, hd⟩

/-! ### nunciolaw02_TextJoins: function 5 -/
mutual
def nunciolaw02_TextJoins.j0 : Nat → ByteArray → ByteArray → Bool → Option (Bool)
  | 0, _, _, _ => none
  | k + 1, x0, x1, x14 => if x14 = true then (some true) else (if x0.size + x1.size ≤ 9223372036854775807 then ((text_Token.f (x0 ++ x1)).bind fun t138 => ((text_Token.f x0).bind fun t139 => (if t139 = true then ((text_Token.f x1).bind fun t140 => (if t140 = true then (nunciolaw02_TextJoins.j1 k x0 (t138 != true)) else ((text_Token.f x0).bind fun t141 => (if t141 = true then (if x1.toList = ([] : List UInt8) then (nunciolaw02_TextJoins.j1 k x0 (t138 != true)) else (if x0.toList = ([] : List UInt8) then ((text_Token.f x1).bind fun t142 => (nunciolaw02_TextJoins.j1 k x0 (t138 != t142))) else (nunciolaw02_TextJoins.j1 k x0 (t138 != false)))) else (if x0.toList = ([] : List UInt8) then ((text_Token.f x1).bind fun t143 => (nunciolaw02_TextJoins.j1 k x0 (t138 != t143))) else (nunciolaw02_TextJoins.j1 k x0 (t138 != false))))))) else ((text_Token.f x0).bind fun t144 => (if t144 = true then (if x1.toList = ([] : List UInt8) then (nunciolaw02_TextJoins.j1 k x0 (t138 != true)) else (if x0.toList = ([] : List UInt8) then ((text_Token.f x1).bind fun t145 => (nunciolaw02_TextJoins.j1 k x0 (t138 != t145))) else (nunciolaw02_TextJoins.j1 k x0 (t138 != false)))) else (if x0.toList = ([] : List UInt8) then ((text_Token.f x1).bind fun t146 => (nunciolaw02_TextJoins.j1 k x0 (t138 != t146))) else (nunciolaw02_TextJoins.j1 k x0 (t138 != false)))))))) else (none))
def nunciolaw02_TextJoins.j1 : Nat → ByteArray → Bool → Option (Bool)
  | 0, _, _ => none
  | k + 1, x0, x41 => if x41 = true then (some false) else ((text_Value.f x0).bind fun t147 => (if t147 = true then (if 1 + x0.size ≤ 9223372036854775807 then (if 1 + x0.size + 1 ≤ 9223372036854775807 then ((text_Value.f (((⟨#[120]⟩ : ByteArray) ++ x0) ++ (⟨#[121]⟩ : ByteArray))).bind fun t148 => (if t148 = true then (if 2 + x0.size ≤ 9223372036854775807 then (if 2 + x0.size + 2 ≤ 9223372036854775807 then ((text_Value.f (((⟨#[120, 32]⟩ : ByteArray) ++ x0) ++ (⟨#[32, 121]⟩ : ByteArray))).bind fun t149 => (some t149)) else (none)) else (none)) else (some false))) else (none)) else (none)) else (some true)))
end
def nunciolaw02_TextJoins.f (k : Nat) (a0 : ByteArray) (a1 : ByteArray) : Option (Bool) := (nunciolaw02_awake.f).bind fun t137 => (if t137 = true then (if (a0.size : Int) > 20000 then (nunciolaw02_TextJoins.j0 k a0 a1 true) else (nunciolaw02_TextJoins.j0 k a0 a1 (decide ((a1.size : Int) > 20000)))) else (some false))
theorem nunciolaw02_TextJoins.mono_l : ∀ k, (∀ y0 y1 y2, LeO (nunciolaw02_TextJoins.j0 k y0 y1 y2) (nunciolaw02_TextJoins.j0 (k + 1) y0 y1 y2)) ∧ (∀ y0 y1, LeO (nunciolaw02_TextJoins.j1 k y0 y1) (nunciolaw02_TextJoins.j1 (k + 1) y0 y1))
  | 0 => ⟨fun _ _ _ r h => by simp [nunciolaw02_TextJoins.j0] at h, fun _ _ r h => by simp [nunciolaw02_TextJoins.j1] at h⟩
  | k + 1 => by
    obtain ⟨ih0, ih1⟩ := nunciolaw02_TextJoins.mono_l k
    refine ⟨?_, ?_⟩
    · intro y0 y1 y2
      unfold nunciolaw02_TextJoins.j0
      repeat' first
      | (with_reducible exact ih0 _ _ _)
      | (with_reducible exact ih1 _ _)
      | (with_reducible exact LeO.refl _)
      | (with_reducible exact LeO.none _)
      | (with_reducible refine LeO.ite ?_ ?_)
      | (with_reducible refine LeO.bind ?_ (fun _ => ?_))
      | exact ih0 _ _ _
      | exact ih1 _ _
      | exact LeO.none _
      | refine LeO.ite ?_ ?_
      | refine LeO.bind ?_ (fun _ => ?_)
    · intro y0 y1
      unfold nunciolaw02_TextJoins.j1
      repeat' first
      | (with_reducible exact ih0 _ _ _)
      | (with_reducible exact ih1 _ _)
      | (with_reducible exact LeO.refl _)
      | (with_reducible exact LeO.none _)
      | (with_reducible refine LeO.ite ?_ ?_)
      | (with_reducible refine LeO.bind ?_ (fun _ => ?_))
      | exact ih0 _ _ _
      | exact ih1 _ _
      | exact LeO.none _
      | refine LeO.ite ?_ ?_
      | refine LeO.bind ?_ (fun _ => ?_)
theorem nunciolaw02_TextJoins.mono : ∀ a0 a1 k, LeO (nunciolaw02_TextJoins.f k a0 a1) (nunciolaw02_TextJoins.f (k + 1) a0 a1) := by
  intro a0 a1 k
  obtain ⟨ih0, ih1⟩ := nunciolaw02_TextJoins.mono_l k
  unfold nunciolaw02_TextJoins.f
  repeat' first
      | (with_reducible exact ih0 _ _ _)
      | (with_reducible exact ih1 _ _)
      | (with_reducible exact LeO.refl _)
      | (with_reducible exact LeO.none _)
      | (with_reducible refine LeO.ite ?_ ?_)
      | (with_reducible refine LeO.bind ?_ (fun _ => ?_))
      | exact ih0 _ _ _
      | exact ih1 _ _
      | exact LeO.none _
      | refine LeO.ite ?_ ?_
      | refine LeO.bind ?_ (fun _ => ?_)
set_option maxHeartbeats 8000000 in
set_option maxRecDepth 100000 in
theorem nunciolaw02_TextJoins.calls (k : Nat) (a0 : ByteArray) (a1 : ByteArray) (r : Bool) (w : World) (h : nunciolaw02_TextJoins.f k a0 a1 = some r) (hG : Aside0 (Glob w)) :
    Calls Tryd.prog 5 #[.string a0, .string a1] w fun e w' => e = .returned (.bool r) ∧ Below w.heap.size w w' := by
  have HB := Aside0.mk (Below.refl w.heap.size w)
  have H : ((nunciolaw02_awake.f).bind fun t137 => (if t137 = true then (if (a0.size : Int) > 20000 then (nunciolaw02_TextJoins.j0 k a0 a1 true) else (nunciolaw02_TextJoins.j0 k a0 a1 (decide ((a1.size : Int) > 20000)))) else (some false))) = some r := h
  clear h
  replace H := Option.bind_eq_some_iff.mp H
  obtain ⟨t137, A30, H⟩ := H
  replace H : (if t137 = true then (if (a0.size : Int) > 20000 then (nunciolaw02_TextJoins.j0 k a0 a1 true) else (nunciolaw02_TextJoins.j0 k a0 a1 (decide ((a1.size : Int) > 20000)))) else (some false)) = some r := H
  have A3 := Aside0.mk A30
  clear A30
  by_cases c4 : t137 = true
  · subst c4
    have H1 : (if (a0.size : Int) > 20000 then (nunciolaw02_TextJoins.j0 k a0 a1 true) else (nunciolaw02_TextJoins.j0 k a0 a1 (decide ((a1.size : Int) > 20000)))) = some r := by rw [if_pos rfl] at H; exact H
    clear H
    have H := H1
    clear H1
    have HC5 := Aside0.mk H
    clear H
    go_enter Tryd.func5, Tryd.ntmps5
    go_upto_region 3 with (first | ((with_reducible refine gate_callee (f := 8) rfl ?_); refine goesL_ (some 5) rfl rfl Tryd.func8 (by kernel_rfl) rfl #[] rfl (by (try simp only [List.map_toArray, List.map_cons, List.map_nil]); first | done | rfl | (simp only [List.length_drop, List.length_take]; rfl)) ?_; (with_reducible refine (nunciolaw02_awake.calls  true _ A3.out (Glob.below hG rfl (by repeat (first | (with_reducible first | exact HB.out | apply below_alloc | apply pw_below_drewN | apply below_drew1) | exact HB.out)))).mono ?_); rintro e w6 ⟨rfl, hb⟩; refine ⟨_, rfl, ?_⟩; have n0_ := Aside0.mk (below_step (by repeat (first | (with_reducible first | exact HB.out | apply below_alloc | apply pw_below_drewN | apply below_drew1) | exact HB.out)) hb); clear HB; have HB := n0_; clear n0_; (try clear hb); (try clear hb2); (try clear hk); (try clear hi)))
    (try simp only [Act.put, List.setIfInBounds_toArray, List.set_cons_zero, List.set_cons_succ])
    go_cut [14] (fun v14 wc => ∃ (kq : Nat) (x14_4 : Bool), v14 = .bool x14_4 ∧ Aside0 (nunciolaw02_TextJoins.j0 kq a0 a1 x14_4 = some r) ∧ Aside0 (kq ≤ k) ∧ Aside0 (Below w.heap.size w wc))
    case first =>
      have H := HC5.out
      clear HC5
      by_cases c7 : (a0.size : Int) > 20000
      · rw [if_pos c7] at H
        have c7b0 : decide (20000 < (a0.size : Int)) = true := decide_eq_true c7
        have c7b1 : decide (20000 < a0.size) = true := decide_eq_true (by omega)
        clear c7
        (first | rw [c7b0] | (simp only [i64_w, i32_w]; rw [c7b0]) | skip)
        have H' := Aside0.mk H
        clear H
        go_wp2
        go_meet
        case rel => exact ⟨_, (true), (by first | rfl | (simp; done) | (simp [*]; done)), H', ⟨by first | omega | exact Nat.le_refl _⟩, ⟨by repeat (first | (with_reducible first | exact HB.out | apply below_alloc | apply pw_below_drewN | apply below_drew1) | exact HB.out)⟩⟩
      · rw [if_neg c7] at H
        have c7b0 : decide (20000 < (a0.size : Int)) = false := decide_eq_false c7
        have c7b1 : decide (20000 < a0.size) = false := decide_eq_false (by omega)
        clear c7
        (first | rw [c7b0] | (simp only [i64_w, i32_w]; rw [c7b0]) | skip)
        have H' := Aside0.mk H
        clear H
        go_wp2
        go_meet
        case rel => exact ⟨_, (decide ((a1.size : Int) > 20000)), (by first | rfl | (simp; done) | (simp [*]; done)), H', ⟨by first | omega | exact Nat.le_refl _⟩, ⟨by repeat (first | (with_reducible first | exact HB.out | apply below_alloc | apply pw_below_drewN | apply below_drew1) | exact HB.out)⟩⟩
    case rest =>
      clear HC5
      try clear p2
      try clear c4
      try clear c5
      try clear c7
      try clear c7b0
      try clear c7b1
      obtain ⟨kq, x14_4, rfl, HA, HJ4, HB⟩ := hcut
      cases kq with
      | zero => exact absurd HA.out (by simp [nunciolaw02_TextJoins.j0])
      | succ kj4 =>
        have H := HA.out
        clear HA
        simp only [nunciolaw02_TextJoins.j0] at H
        by_cases c8 : x14_4 = true
        · subst c8
          have H1 : (some true) = some r := by rw [if_pos rfl] at H; exact H
          clear H
          have H := H1
          clear H1
          obtain rfl := Option.some.inj H
          go_wp2
          go_ret
          exact ⟨by first | rfl | (simp [errW_none, errW_some] <;> rfl) | (simp [*, errW_none, errW_some] <;> rfl), by repeat (first | (with_reducible first | exact HB.out | apply below_alloc | apply pw_below_drewN | apply below_drew1) | exact HB.out)⟩
        · replace c8 := Bool.eq_false_iff.mpr c8
          subst c8
          have H1 : (if a0.size + a1.size ≤ 9223372036854775807 then ((text_Token.f (a0 ++ a1)).bind fun t138 => ((text_Token.f a0).bind fun t139 => (if t139 = true then ((text_Token.f a1).bind fun t140 => (if t140 = true then (nunciolaw02_TextJoins.j1 kj4 a0 (t138 != true)) else ((text_Token.f a0).bind fun t141 => (if t141 = true then (if a1.toList = ([] : List UInt8) then (nunciolaw02_TextJoins.j1 kj4 a0 (t138 != true)) else (if a0.toList = ([] : List UInt8) then ((text_Token.f a1).bind fun t142 => (nunciolaw02_TextJoins.j1 kj4 a0 (t138 != t142))) else (nunciolaw02_TextJoins.j1 kj4 a0 (t138 != false)))) else (if a0.toList = ([] : List UInt8) then ((text_Token.f a1).bind fun t143 => (nunciolaw02_TextJoins.j1 kj4 a0 (t138 != t143))) else (nunciolaw02_TextJoins.j1 kj4 a0 (t138 != false))))))) else ((text_Token.f a0).bind fun t144 => (if t144 = true then (if a1.toList = ([] : List UInt8) then (nunciolaw02_TextJoins.j1 kj4 a0 (t138 != true)) else (if a0.toList = ([] : List UInt8) then ((text_Token.f a1).bind fun t145 => (nunciolaw02_TextJoins.j1 kj4 a0 (t138 != t145))) else (nunciolaw02_TextJoins.j1 kj4 a0 (t138 != false)))) else (if a0.toList = ([] : List UInt8) then ((text_Token.f a1).bind fun t146 => (nunciolaw02_TextJoins.j1 kj4 a0 (t138 != t146))) else (nunciolaw02_TextJoins.j1 kj4 a0 (t138 != false)))))))) else (none)) = some r := by rw [if_neg (show ¬ (false = true) by decide)] at H; exact H
          clear H
          have H := H1
          clear H1
          have HC9 := Aside0.mk H
          clear H
          go_upto_region 5 with (fail)
          go_cut [41] (fun v41 wc => ∃ (kq : Nat) (x41_8 : Bool), v41 = .bool x41_8 ∧ Aside0 (nunciolaw02_TextJoins.j1 kq a0 x41_8 = some r) ∧ Aside0 (kq ≤ kj4) ∧ Aside0 (Below w.heap.size w wc))
          case first =>
            have H := HC9.out
            clear HC9
            by_cases c10 : a0.size + a1.size ≤ 9223372036854775807
            · rw [if_pos c10] at H
              have c10b0 := eq_true c10
              have c10b1 : decide (a0.size + a1.size ≤ 9223372036854775807) = true := decide_eq_true c10
              try have c10b2 : (9223372036854775807 < a0.size + a1.size) = False := eq_false (Nat.not_lt.2 c10)
              replace H := Option.bind_eq_some_iff.mp H
              obtain ⟨t138, A110, H⟩ := H
              replace H : ((text_Token.f a0).bind fun t139 => (if t139 = true then ((text_Token.f a1).bind fun t140 => (if t140 = true then (nunciolaw02_TextJoins.j1 kj4 a0 (t138 != true)) else ((text_Token.f a0).bind fun t141 => (if t141 = true then (if a1.toList = ([] : List UInt8) then (nunciolaw02_TextJoins.j1 kj4 a0 (t138 != true)) else (if a0.toList = ([] : List UInt8) then ((text_Token.f a1).bind fun t142 => (nunciolaw02_TextJoins.j1 kj4 a0 (t138 != t142))) else (nunciolaw02_TextJoins.j1 kj4 a0 (t138 != false)))) else (if a0.toList = ([] : List UInt8) then ((text_Token.f a1).bind fun t143 => (nunciolaw02_TextJoins.j1 kj4 a0 (t138 != t143))) else (nunciolaw02_TextJoins.j1 kj4 a0 (t138 != false))))))) else ((text_Token.f a0).bind fun t144 => (if t144 = true then (if a1.toList = ([] : List UInt8) then (nunciolaw02_TextJoins.j1 kj4 a0 (t138 != true)) else (if a0.toList = ([] : List UInt8) then ((text_Token.f a1).bind fun t145 => (nunciolaw02_TextJoins.j1 kj4 a0 (t138 != t145))) else (nunciolaw02_TextJoins.j1 kj4 a0 (t138 != false)))) else (if a0.toList = ([] : List UInt8) then ((text_Token.f a1).bind fun t146 => (nunciolaw02_TextJoins.j1 kj4 a0 (t138 != t146))) else (nunciolaw02_TextJoins.j1 kj4 a0 (t138 != false))))))) = some r := H
              have A11 := Aside0.mk A110
              clear A110
              replace H := Option.bind_eq_some_iff.mp H
              obtain ⟨t139, A120, H⟩ := H
              replace H : (if t139 = true then ((text_Token.f a1).bind fun t140 => (if t140 = true then (nunciolaw02_TextJoins.j1 kj4 a0 (t138 != true)) else ((text_Token.f a0).bind fun t141 => (if t141 = true then (if a1.toList = ([] : List UInt8) then (nunciolaw02_TextJoins.j1 kj4 a0 (t138 != true)) else (if a0.toList = ([] : List UInt8) then ((text_Token.f a1).bind fun t142 => (nunciolaw02_TextJoins.j1 kj4 a0 (t138 != t142))) else (nunciolaw02_TextJoins.j1 kj4 a0 (t138 != false)))) else (if a0.toList = ([] : List UInt8) then ((text_Token.f a1).bind fun t143 => (nunciolaw02_TextJoins.j1 kj4 a0 (t138 != t143))) else (nunciolaw02_TextJoins.j1 kj4 a0 (t138 != false))))))) else ((text_Token.f a0).bind fun t144 => (if t144 = true then (if a1.toList = ([] : List UInt8) then (nunciolaw02_TextJoins.j1 kj4 a0 (t138 != true)) else (if a0.toList = ([] : List UInt8) then ((text_Token.f a1).bind fun t145 => (nunciolaw02_TextJoins.j1 kj4 a0 (t138 != t145))) else (nunciolaw02_TextJoins.j1 kj4 a0 (t138 != false)))) else (if a0.toList = ([] : List UInt8) then ((text_Token.f a1).bind fun t146 => (nunciolaw02_TextJoins.j1 kj4 a0 (t138 != t146))) else (nunciolaw02_TextJoins.j1 kj4 a0 (t138 != false)))))) = some r := H
              have A12 := Aside0.mk A120
              clear A120
              by_cases c13 : t139 = true
              · subst c13
                have H1 : ((text_Token.f a1).bind fun t140 => (if t140 = true then (nunciolaw02_TextJoins.j1 kj4 a0 (t138 != true)) else ((text_Token.f a0).bind fun t141 => (if t141 = true then (if a1.toList = ([] : List UInt8) then (nunciolaw02_TextJoins.j1 kj4 a0 (t138 != true)) else (if a0.toList = ([] : List UInt8) then ((text_Token.f a1).bind fun t142 => (nunciolaw02_TextJoins.j1 kj4 a0 (t138 != t142))) else (nunciolaw02_TextJoins.j1 kj4 a0 (t138 != false)))) else (if a0.toList = ([] : List UInt8) then ((text_Token.f a1).bind fun t143 => (nunciolaw02_TextJoins.j1 kj4 a0 (t138 != t143))) else (nunciolaw02_TextJoins.j1 kj4 a0 (t138 != false))))))) = some r := by rw [if_pos rfl] at H; exact H
                clear H
                have H := H1
                clear H1
                replace H := Option.bind_eq_some_iff.mp H
                obtain ⟨t140, A140, H⟩ := H
                replace H : (if t140 = true then (nunciolaw02_TextJoins.j1 kj4 a0 (t138 != true)) else ((text_Token.f a0).bind fun t141 => (if t141 = true then (if a1.toList = ([] : List UInt8) then (nunciolaw02_TextJoins.j1 kj4 a0 (t138 != true)) else (if a0.toList = ([] : List UInt8) then ((text_Token.f a1).bind fun t142 => (nunciolaw02_TextJoins.j1 kj4 a0 (t138 != t142))) else (nunciolaw02_TextJoins.j1 kj4 a0 (t138 != false)))) else (if a0.toList = ([] : List UInt8) then ((text_Token.f a1).bind fun t143 => (nunciolaw02_TextJoins.j1 kj4 a0 (t138 != t143))) else (nunciolaw02_TextJoins.j1 kj4 a0 (t138 != false)))))) = some r := H
                have A14 := Aside0.mk A140
                clear A140
                by_cases c15 : t140 = true
                · subst c15
                  have H1 : (nunciolaw02_TextJoins.j1 kj4 a0 (t138 != true)) = some r := by rw [if_pos rfl] at H; exact H
                  clear H
                  have H := H1
                  clear H1
                  have H' := Aside0.mk H
                  clear H
                  go_wp2_with (first | ((with_reducible refine gate_callee (f := 12) rfl ?_); refine goesL_ (some 18) rfl rfl Tryd.func12 (by kernel_rfl) rfl #[.string (a0 ++ a1)] rfl (by (try simp only [List.map_toArray, List.map_cons, List.map_nil]); first | done | rfl | (simp only [List.length_drop, List.length_take]; rfl)) ?_; (with_reducible refine (text_Token.calls (a0 ++ a1) t138 _ A11.out).mono ?_); rintro e w16 ⟨rfl, hb⟩; refine ⟨_, rfl, ?_⟩; have n0_ := Aside0.mk (below_step (by repeat (first | (with_reducible first | exact HB.out | apply below_alloc | apply pw_below_drewN | apply below_drew1) | exact HB.out)) hb); clear HB; have HB := n0_; clear n0_; (try clear hb); (try clear hb2); (try clear hk); (try clear hi)) | ((with_reducible refine gate_callee (f := 12) rfl ?_); refine goesL_ (some 20) rfl rfl Tryd.func12 (by kernel_rfl) rfl #[.string a0] rfl (by (try simp only [List.map_toArray, List.map_cons, List.map_nil]); first | done | rfl | (simp only [List.length_drop, List.length_take]; rfl)) ?_; (with_reducible refine (text_Token.calls a0 true _ A12.out).mono ?_); rintro e w17 ⟨rfl, hb⟩; refine ⟨_, rfl, ?_⟩; have n0_ := Aside0.mk (below_step (by repeat (first | (with_reducible first | exact HB.out | apply below_alloc | apply pw_below_drewN | apply below_drew1) | exact HB.out)) hb); clear HB; have HB := n0_; clear n0_; (try clear hb); (try clear hb2); (try clear hk); (try clear hi); have tkA14 : True := trivial) | (go_at_call 12; have t_ := tkA14; clear t_ tkA14; (with_reducible refine (text_Token.calls a1 true _ A14.out).mono ?_); rintro e w18 ⟨rfl, hb⟩; have n0_ := Aside0.mk (below_step (by repeat (first | (with_reducible first | exact HB.out | apply below_alloc | apply pw_below_drewN | apply below_drew1) | exact HB.out)) hb); clear HB; have HB := n0_; clear n0_; (try clear hb); (try clear hb2); (try clear hk); (try clear hi)))
                  go_meet
                  case rel => exact ⟨_, ((t138 != true)), (by first | rfl | (simp; done) | (simp [*]; done)), H', ⟨by have := HJ4.out; first | omega | exact Nat.le_refl _⟩, ⟨by repeat (first | (with_reducible first | exact HB.out | apply below_alloc | apply pw_below_drewN | apply below_drew1) | exact HB.out)⟩⟩
                · replace c15 := Bool.eq_false_iff.mpr c15
                  subst c15
                  have H1 : ((text_Token.f a0).bind fun t141 => (if t141 = true then (if a1.toList = ([] : List UInt8) then (nunciolaw02_TextJoins.j1 kj4 a0 (t138 != true)) else (if a0.toList = ([] : List UInt8) then ((text_Token.f a1).bind fun t142 => (nunciolaw02_TextJoins.j1 kj4 a0 (t138 != t142))) else (nunciolaw02_TextJoins.j1 kj4 a0 (t138 != false)))) else (if a0.toList = ([] : List UInt8) then ((text_Token.f a1).bind fun t143 => (nunciolaw02_TextJoins.j1 kj4 a0 (t138 != t143))) else (nunciolaw02_TextJoins.j1 kj4 a0 (t138 != false))))) = some r := by rw [if_neg (show ¬ (false = true) by decide)] at H; exact H
                  clear H
                  have H := H1
                  clear H1
                  replace H := Option.bind_eq_some_iff.mp H
                  obtain ⟨t141, A190, H⟩ := H
                  replace H : (if t141 = true then (if a1.toList = ([] : List UInt8) then (nunciolaw02_TextJoins.j1 kj4 a0 (t138 != true)) else (if a0.toList = ([] : List UInt8) then ((text_Token.f a1).bind fun t142 => (nunciolaw02_TextJoins.j1 kj4 a0 (t138 != t142))) else (nunciolaw02_TextJoins.j1 kj4 a0 (t138 != false)))) else (if a0.toList = ([] : List UInt8) then ((text_Token.f a1).bind fun t143 => (nunciolaw02_TextJoins.j1 kj4 a0 (t138 != t143))) else (nunciolaw02_TextJoins.j1 kj4 a0 (t138 != false)))) = some r := H
                  have A19 := Aside0.mk A190
                  clear A190
                  by_cases c20 : t141 = true
                  · subst c20
                    have H1 : (if a1.toList = ([] : List UInt8) then (nunciolaw02_TextJoins.j1 kj4 a0 (t138 != true)) else (if a0.toList = ([] : List UInt8) then ((text_Token.f a1).bind fun t142 => (nunciolaw02_TextJoins.j1 kj4 a0 (t138 != t142))) else (nunciolaw02_TextJoins.j1 kj4 a0 (t138 != false)))) = some r := by rw [if_pos rfl] at H; exact H
                    clear H
                    have H := H1
                    clear H1
                    by_cases c21 : a1.toList = ([] : List UInt8)
                    · rw [if_pos c21] at H
                      have c21b0 : (a1.toList == ([] : List UInt8)) = true := beq_iff_eq.mpr c21
                      have c21b1 : (a1.toList != ([] : List UInt8)) = false := bne_eq_false_iff_eq.mpr c21
                      have c21b2 : a1.toList.isEmpty = true := List.isEmpty_iff.mpr c21
                      (try (have c21b3 : (a1.toList = []) = True := eq_true c21))
                      clear c21
                      (first | rw [c21b0] | (simp only [i64_w, i32_w]; rw [c21b0]) | skip)
                      have H' := Aside0.mk H
                      clear H
                      go_wp2_with (first | ((with_reducible refine gate_callee (f := 12) rfl ?_); refine goesL_ (some 18) rfl rfl Tryd.func12 (by kernel_rfl) rfl #[.string (a0 ++ a1)] rfl (by (try simp only [List.map_toArray, List.map_cons, List.map_nil]); first | done | rfl | (simp only [List.length_drop, List.length_take]; rfl)) ?_; (with_reducible refine (text_Token.calls (a0 ++ a1) t138 _ A11.out).mono ?_); rintro e w22 ⟨rfl, hb⟩; refine ⟨_, rfl, ?_⟩; have n0_ := Aside0.mk (below_step (by repeat (first | (with_reducible first | exact HB.out | apply below_alloc | apply pw_below_drewN | apply below_drew1) | exact HB.out)) hb); clear HB; have HB := n0_; clear n0_; (try clear hb); (try clear hb2); (try clear hk); (try clear hi)) | ((with_reducible refine gate_callee (f := 12) rfl ?_); refine goesL_ (some 20) rfl rfl Tryd.func12 (by kernel_rfl) rfl #[.string a0] rfl (by (try simp only [List.map_toArray, List.map_cons, List.map_nil]); first | done | rfl | (simp only [List.length_drop, List.length_take]; rfl)) ?_; (with_reducible refine (text_Token.calls a0 true _ A12.out).mono ?_); rintro e w23 ⟨rfl, hb⟩; refine ⟨_, rfl, ?_⟩; have n0_ := Aside0.mk (below_step (by repeat (first | (with_reducible first | exact HB.out | apply below_alloc | apply pw_below_drewN | apply below_drew1) | exact HB.out)) hb); clear HB; have HB := n0_; clear n0_; (try clear hb); (try clear hb2); (try clear hk); (try clear hi); have tkA14 : True := trivial) | (go_at_call 12; have t_ := tkA14; clear t_ tkA14; (with_reducible refine (text_Token.calls a1 false _ A14.out).mono ?_); rintro e w24 ⟨rfl, hb⟩; have n0_ := Aside0.mk (below_step (by repeat (first | (with_reducible first | exact HB.out | apply below_alloc | apply pw_below_drewN | apply below_drew1) | exact HB.out)) hb); clear HB; have HB := n0_; clear n0_; (try clear hb); (try clear hb2); (try clear hk); (try clear hi); have tkA19 : True := trivial) | (go_at_call 12; have t_ := tkA19; clear t_ tkA19; (with_reducible refine (text_Token.calls a0 true _ A19.out).mono ?_); rintro e w25 ⟨rfl, hb⟩; have n0_ := Aside0.mk (below_step (by repeat (first | (with_reducible first | exact HB.out | apply below_alloc | apply pw_below_drewN | apply below_drew1) | exact HB.out)) hb); clear HB; have HB := n0_; clear n0_; (try clear hb); (try clear hb2); (try clear hk); (try clear hi)))
                      go_meet
                      case rel => exact ⟨_, ((t138 != true)), (by first | rfl | (simp; done) | (simp [*]; done)), H', ⟨by have := HJ4.out; first | omega | exact Nat.le_refl _⟩, ⟨by repeat (first | (with_reducible first | exact HB.out | apply below_alloc | apply pw_below_drewN | apply below_drew1) | exact HB.out)⟩⟩
                    · rw [if_neg c21] at H
                      have c21b0 : (a1.toList == ([] : List UInt8)) = false := beq_eq_false_iff_ne.mpr c21
                      have c21b1 : (a1.toList != ([] : List UInt8)) = true := bne_iff_ne.mpr c21
                      have c21b2 : a1.toList.isEmpty = false := List.isEmpty_eq_false_iff.mpr c21
                      (try (have c21b3 : (a1.toList = []) = False := eq_false c21))
                      (first | rw [c21b0] | (simp only [i64_w, i32_w]; rw [c21b0]) | skip)
                      by_cases c26 : a0.toList = ([] : List UInt8)
                      · rw [if_pos c26] at H
                        have c26b0 : (a0.toList == ([] : List UInt8)) = true := beq_iff_eq.mpr c26
                        have c26b1 : (a0.toList != ([] : List UInt8)) = false := bne_eq_false_iff_eq.mpr c26
                        have c26b2 : a0.toList.isEmpty = true := List.isEmpty_iff.mpr c26
                        (try (have c26b3 : (a0.toList = []) = True := eq_true c26))
                        clear c26
                        replace H := Option.bind_eq_some_iff.mp H
                        obtain ⟨t142, A270, H⟩ := H
                        replace H : (nunciolaw02_TextJoins.j1 kj4 a0 (t138 != t142)) = some r := H
                        have A27 := Aside0.mk A270
                        clear A270
                        have H' := Aside0.mk H
                        clear H
                        go_wp2_with (first | ((with_reducible refine gate_callee (f := 12) rfl ?_); refine goesL_ (some 18) rfl rfl Tryd.func12 (by kernel_rfl) rfl #[.string (a0 ++ a1)] rfl (by (try simp only [List.map_toArray, List.map_cons, List.map_nil]); first | done | rfl | (simp only [List.length_drop, List.length_take]; rfl)) ?_; (with_reducible refine (text_Token.calls (a0 ++ a1) t138 _ A11.out).mono ?_); rintro e w28 ⟨rfl, hb⟩; refine ⟨_, rfl, ?_⟩; have n0_ := Aside0.mk (below_step (by repeat (first | (with_reducible first | exact HB.out | apply below_alloc | apply pw_below_drewN | apply below_drew1) | exact HB.out)) hb); clear HB; have HB := n0_; clear n0_; (try clear hb); (try clear hb2); (try clear hk); (try clear hi)) | ((with_reducible refine gate_callee (f := 12) rfl ?_); refine goesL_ (some 20) rfl rfl Tryd.func12 (by kernel_rfl) rfl #[.string a0] rfl (by (try simp only [List.map_toArray, List.map_cons, List.map_nil]); first | done | rfl | (simp only [List.length_drop, List.length_take]; rfl)) ?_; (with_reducible refine (text_Token.calls a0 true _ A12.out).mono ?_); rintro e w29 ⟨rfl, hb⟩; refine ⟨_, rfl, ?_⟩; have n0_ := Aside0.mk (below_step (by repeat (first | (with_reducible first | exact HB.out | apply below_alloc | apply pw_below_drewN | apply below_drew1) | exact HB.out)) hb); clear HB; have HB := n0_; clear n0_; (try clear hb); (try clear hb2); (try clear hk); (try clear hi); have tkA14 : True := trivial) | (go_at_call 12; have t_ := tkA14; clear t_ tkA14; (with_reducible refine (text_Token.calls a1 false _ A14.out).mono ?_); rintro e w30 ⟨rfl, hb⟩; have n0_ := Aside0.mk (below_step (by repeat (first | (with_reducible first | exact HB.out | apply below_alloc | apply pw_below_drewN | apply below_drew1) | exact HB.out)) hb); clear HB; have HB := n0_; clear n0_; (try clear hb); (try clear hb2); (try clear hk); (try clear hi); have tkA19 : True := trivial) | (go_at_call 12; have t_ := tkA19; clear t_ tkA19; (with_reducible refine (text_Token.calls a0 true _ A19.out).mono ?_); rintro e w31 ⟨rfl, hb⟩; have n0_ := Aside0.mk (below_step (by repeat (first | (with_reducible first | exact HB.out | apply below_alloc | apply pw_below_drewN | apply below_drew1) | exact HB.out)) hb); clear HB; have HB := n0_; clear n0_; (try clear hb); (try clear hb2); (try clear hk); (try clear hi); have tkA27 : True := trivial) | (go_at_call 12; have t_ := tkA27; clear t_ tkA27; (with_reducible refine (text_Token.calls a1 t142 _ A27.out).mono ?_); rintro e w32 ⟨rfl, hb⟩; have n0_ := Aside0.mk (below_step (by repeat (first | (with_reducible first | exact HB.out | apply below_alloc | apply pw_below_drewN | apply below_drew1) | exact HB.out)) hb); clear HB; have HB := n0_; clear n0_; (try clear hb); (try clear hb2); (try clear hk); (try clear hi)))
                        go_meet
                        case rel => exact ⟨_, ((t138 != t142)), (by first | rfl | (simp; done) | (simp [*]; done)), H', ⟨by have := HJ4.out; first | omega | exact Nat.le_refl _⟩, ⟨by repeat (first | (with_reducible first | exact HB.out | apply below_alloc | apply pw_below_drewN | apply below_drew1) | exact HB.out)⟩⟩
                      · rw [if_neg c26] at H
                        have c26b0 : (a0.toList == ([] : List UInt8)) = false := beq_eq_false_iff_ne.mpr c26
                        have c26b1 : (a0.toList != ([] : List UInt8)) = true := bne_iff_ne.mpr c26
                        have c26b2 : a0.toList.isEmpty = false := List.isEmpty_eq_false_iff.mpr c26
                        (try (have c26b3 : (a0.toList = []) = False := eq_false c26))
                        have H' := Aside0.mk H
                        clear H
                        go_wp2_with (first | ((with_reducible refine gate_callee (f := 12) rfl ?_); refine goesL_ (some 18) rfl rfl Tryd.func12 (by kernel_rfl) rfl #[.string (a0 ++ a1)] rfl (by (try simp only [List.map_toArray, List.map_cons, List.map_nil]); first | done | rfl | (simp only [List.length_drop, List.length_take]; rfl)) ?_; (with_reducible refine (text_Token.calls (a0 ++ a1) t138 _ A11.out).mono ?_); rintro e w33 ⟨rfl, hb⟩; refine ⟨_, rfl, ?_⟩; have n0_ := Aside0.mk (below_step (by repeat (first | (with_reducible first | exact HB.out | apply below_alloc | apply pw_below_drewN | apply below_drew1) | exact HB.out)) hb); clear HB; have HB := n0_; clear n0_; (try clear hb); (try clear hb2); (try clear hk); (try clear hi)) | ((with_reducible refine gate_callee (f := 12) rfl ?_); refine goesL_ (some 20) rfl rfl Tryd.func12 (by kernel_rfl) rfl #[.string a0] rfl (by (try simp only [List.map_toArray, List.map_cons, List.map_nil]); first | done | rfl | (simp only [List.length_drop, List.length_take]; rfl)) ?_; (with_reducible refine (text_Token.calls a0 true _ A12.out).mono ?_); rintro e w34 ⟨rfl, hb⟩; refine ⟨_, rfl, ?_⟩; have n0_ := Aside0.mk (below_step (by repeat (first | (with_reducible first | exact HB.out | apply below_alloc | apply pw_below_drewN | apply below_drew1) | exact HB.out)) hb); clear HB; have HB := n0_; clear n0_; (try clear hb); (try clear hb2); (try clear hk); (try clear hi); have tkA14 : True := trivial) | (go_at_call 12; have t_ := tkA14; clear t_ tkA14; (with_reducible refine (text_Token.calls a1 false _ A14.out).mono ?_); rintro e w35 ⟨rfl, hb⟩; have n0_ := Aside0.mk (below_step (by repeat (first | (with_reducible first | exact HB.out | apply below_alloc | apply pw_below_drewN | apply below_drew1) | exact HB.out)) hb); clear HB; have HB := n0_; clear n0_; (try clear hb); (try clear hb2); (try clear hk); (try clear hi); have tkA19 : True := trivial) | (go_at_call 12; have t_ := tkA19; clear t_ tkA19; (with_reducible refine (text_Token.calls a0 true _ A19.out).mono ?_); rintro e w36 ⟨rfl, hb⟩; have n0_ := Aside0.mk (below_step (by repeat (first | (with_reducible first | exact HB.out | apply below_alloc | apply pw_below_drewN | apply below_drew1) | exact HB.out)) hb); clear HB; have HB := n0_; clear n0_; (try clear hb); (try clear hb2); (try clear hk); (try clear hi)))
                        go_meet
                        case rel => exact ⟨_, ((t138 != false)), (by first | rfl | (simp; done) | (simp [*]; done)), H', ⟨by have := HJ4.out; first | omega | exact Nat.le_refl _⟩, ⟨by repeat (first | (with_reducible first | exact HB.out | apply below_alloc | apply pw_below_drewN | apply below_drew1) | exact HB.out)⟩⟩
                  · replace c20 := Bool.eq_false_iff.mpr c20
                    subst c20
                    have H1 : (if a0.toList = ([] : List UInt8) then ((text_Token.f a1).bind fun t143 => (nunciolaw02_TextJoins.j1 kj4 a0 (t138 != t143))) else (nunciolaw02_TextJoins.j1 kj4 a0 (t138 != false))) = some r := by rw [if_neg (show ¬ (false = true) by decide)] at H; exact H
                    clear H
                    have H := H1
                    clear H1
                    by_cases c37 : a0.toList = ([] : List UInt8)
                    · rw [if_pos c37] at H
                      have c37b0 : (a0.toList == ([] : List UInt8)) = true := beq_iff_eq.mpr c37
                      have c37b1 : (a0.toList != ([] : List UInt8)) = false := bne_eq_false_iff_eq.mpr c37
                      have c37b2 : a0.toList.isEmpty = true := List.isEmpty_iff.mpr c37
                      (try (have c37b3 : (a0.toList = []) = True := eq_true c37))
                      clear c37
                      replace H := Option.bind_eq_some_iff.mp H
                      obtain ⟨t143, A380, H⟩ := H
                      replace H : (nunciolaw02_TextJoins.j1 kj4 a0 (t138 != t143)) = some r := H
                      have A38 := Aside0.mk A380
                      clear A380
                      have H' := Aside0.mk H
                      clear H
                      go_wp2_with (first | ((with_reducible refine gate_callee (f := 12) rfl ?_); refine goesL_ (some 18) rfl rfl Tryd.func12 (by kernel_rfl) rfl #[.string (a0 ++ a1)] rfl (by (try simp only [List.map_toArray, List.map_cons, List.map_nil]); first | done | rfl | (simp only [List.length_drop, List.length_take]; rfl)) ?_; (with_reducible refine (text_Token.calls (a0 ++ a1) t138 _ A11.out).mono ?_); rintro e w39 ⟨rfl, hb⟩; refine ⟨_, rfl, ?_⟩; have n0_ := Aside0.mk (below_step (by repeat (first | (with_reducible first | exact HB.out | apply below_alloc | apply pw_below_drewN | apply below_drew1) | exact HB.out)) hb); clear HB; have HB := n0_; clear n0_; (try clear hb); (try clear hb2); (try clear hk); (try clear hi)) | ((with_reducible refine gate_callee (f := 12) rfl ?_); refine goesL_ (some 20) rfl rfl Tryd.func12 (by kernel_rfl) rfl #[.string a0] rfl (by (try simp only [List.map_toArray, List.map_cons, List.map_nil]); first | done | rfl | (simp only [List.length_drop, List.length_take]; rfl)) ?_; (with_reducible refine (text_Token.calls a0 true _ A12.out).mono ?_); rintro e w40 ⟨rfl, hb⟩; refine ⟨_, rfl, ?_⟩; have n0_ := Aside0.mk (below_step (by repeat (first | (with_reducible first | exact HB.out | apply below_alloc | apply pw_below_drewN | apply below_drew1) | exact HB.out)) hb); clear HB; have HB := n0_; clear n0_; (try clear hb); (try clear hb2); (try clear hk); (try clear hi); have tkA14 : True := trivial) | (go_at_call 12; have t_ := tkA14; clear t_ tkA14; (with_reducible refine (text_Token.calls a1 false _ A14.out).mono ?_); rintro e w41 ⟨rfl, hb⟩; have n0_ := Aside0.mk (below_step (by repeat (first | (with_reducible first | exact HB.out | apply below_alloc | apply pw_below_drewN | apply below_drew1) | exact HB.out)) hb); clear HB; have HB := n0_; clear n0_; (try clear hb); (try clear hb2); (try clear hk); (try clear hi); have tkA19 : True := trivial) | (go_at_call 12; have t_ := tkA19; clear t_ tkA19; (with_reducible refine (text_Token.calls a0 false _ A19.out).mono ?_); rintro e w42 ⟨rfl, hb⟩; have n0_ := Aside0.mk (below_step (by repeat (first | (with_reducible first | exact HB.out | apply below_alloc | apply pw_below_drewN | apply below_drew1) | exact HB.out)) hb); clear HB; have HB := n0_; clear n0_; (try clear hb); (try clear hb2); (try clear hk); (try clear hi); have tkA38 : True := trivial) | (go_at_call 12; have t_ := tkA38; clear t_ tkA38; (with_reducible refine (text_Token.calls a1 t143 _ A38.out).mono ?_); rintro e w43 ⟨rfl, hb⟩; have n0_ := Aside0.mk (below_step (by repeat (first | (with_reducible first | exact HB.out | apply below_alloc | apply pw_below_drewN | apply below_drew1) | exact HB.out)) hb); clear HB; have HB := n0_; clear n0_; (try clear hb); (try clear hb2); (try clear hk); (try clear hi)))
                      go_meet
                      case rel => exact ⟨_, ((t138 != t143)), (by first | rfl | (simp; done) | (simp [*]; done)), H', ⟨by have := HJ4.out; first | omega | exact Nat.le_refl _⟩, ⟨by repeat (first | (with_reducible first | exact HB.out | apply below_alloc | apply pw_below_drewN | apply below_drew1) | exact HB.out)⟩⟩
                    · rw [if_neg c37] at H
                      have c37b0 : (a0.toList == ([] : List UInt8)) = false := beq_eq_false_iff_ne.mpr c37
                      have c37b1 : (a0.toList != ([] : List UInt8)) = true := bne_iff_ne.mpr c37
                      have c37b2 : a0.toList.isEmpty = false := List.isEmpty_eq_false_iff.mpr c37
                      (try (have c37b3 : (a0.toList = []) = False := eq_false c37))
                      have H' := Aside0.mk H
                      clear H
                      go_wp2_with (first | ((with_reducible refine gate_callee (f := 12) rfl ?_); refine goesL_ (some 18) rfl rfl Tryd.func12 (by kernel_rfl) rfl #[.string (a0 ++ a1)] rfl (by (try simp only [List.map_toArray, List.map_cons, List.map_nil]); first | done | rfl | (simp only [List.length_drop, List.length_take]; rfl)) ?_; (with_reducible refine (text_Token.calls (a0 ++ a1) t138 _ A11.out).mono ?_); rintro e w44 ⟨rfl, hb⟩; refine ⟨_, rfl, ?_⟩; have n0_ := Aside0.mk (below_step (by repeat (first | (with_reducible first | exact HB.out | apply below_alloc | apply pw_below_drewN | apply below_drew1) | exact HB.out)) hb); clear HB; have HB := n0_; clear n0_; (try clear hb); (try clear hb2); (try clear hk); (try clear hi)) | ((with_reducible refine gate_callee (f := 12) rfl ?_); refine goesL_ (some 20) rfl rfl Tryd.func12 (by kernel_rfl) rfl #[.string a0] rfl (by (try simp only [List.map_toArray, List.map_cons, List.map_nil]); first | done | rfl | (simp only [List.length_drop, List.length_take]; rfl)) ?_; (with_reducible refine (text_Token.calls a0 true _ A12.out).mono ?_); rintro e w45 ⟨rfl, hb⟩; refine ⟨_, rfl, ?_⟩; have n0_ := Aside0.mk (below_step (by repeat (first | (with_reducible first | exact HB.out | apply below_alloc | apply pw_below_drewN | apply below_drew1) | exact HB.out)) hb); clear HB; have HB := n0_; clear n0_; (try clear hb); (try clear hb2); (try clear hk); (try clear hi); have tkA14 : True := trivial) | (go_at_call 12; have t_ := tkA14; clear t_ tkA14; (with_reducible refine (text_Token.calls a1 false _ A14.out).mono ?_); rintro e w46 ⟨rfl, hb⟩; have n0_ := Aside0.mk (below_step (by repeat (first | (with_reducible first | exact HB.out | apply below_alloc | apply pw_below_drewN | apply below_drew1) | exact HB.out)) hb); clear HB; have HB := n0_; clear n0_; (try clear hb); (try clear hb2); (try clear hk); (try clear hi); have tkA19 : True := trivial) | (go_at_call 12; have t_ := tkA19; clear t_ tkA19; (with_reducible refine (text_Token.calls a0 false _ A19.out).mono ?_); rintro e w47 ⟨rfl, hb⟩; have n0_ := Aside0.mk (below_step (by repeat (first | (with_reducible first | exact HB.out | apply below_alloc | apply pw_below_drewN | apply below_drew1) | exact HB.out)) hb); clear HB; have HB := n0_; clear n0_; (try clear hb); (try clear hb2); (try clear hk); (try clear hi)))
                      go_meet
                      case rel => exact ⟨_, ((t138 != false)), (by first | rfl | (simp; done) | (simp [*]; done)), H', ⟨by have := HJ4.out; first | omega | exact Nat.le_refl _⟩, ⟨by repeat (first | (with_reducible first | exact HB.out | apply below_alloc | apply pw_below_drewN | apply below_drew1) | exact HB.out)⟩⟩
              · replace c13 := Bool.eq_false_iff.mpr c13
                subst c13
                have H1 : ((text_Token.f a0).bind fun t144 => (if t144 = true then (if a1.toList = ([] : List UInt8) then (nunciolaw02_TextJoins.j1 kj4 a0 (t138 != true)) else (if a0.toList = ([] : List UInt8) then ((text_Token.f a1).bind fun t145 => (nunciolaw02_TextJoins.j1 kj4 a0 (t138 != t145))) else (nunciolaw02_TextJoins.j1 kj4 a0 (t138 != false)))) else (if a0.toList = ([] : List UInt8) then ((text_Token.f a1).bind fun t146 => (nunciolaw02_TextJoins.j1 kj4 a0 (t138 != t146))) else (nunciolaw02_TextJoins.j1 kj4 a0 (t138 != false))))) = some r := by rw [if_neg (show ¬ (false = true) by decide)] at H; exact H
                clear H
                have H := H1
                clear H1
                replace H := Option.bind_eq_some_iff.mp H
                obtain ⟨t144, A480, H⟩ := H
                replace H : (if t144 = true then (if a1.toList = ([] : List UInt8) then (nunciolaw02_TextJoins.j1 kj4 a0 (t138 != true)) else (if a0.toList = ([] : List UInt8) then ((text_Token.f a1).bind fun t145 => (nunciolaw02_TextJoins.j1 kj4 a0 (t138 != t145))) else (nunciolaw02_TextJoins.j1 kj4 a0 (t138 != false)))) else (if a0.toList = ([] : List UInt8) then ((text_Token.f a1).bind fun t146 => (nunciolaw02_TextJoins.j1 kj4 a0 (t138 != t146))) else (nunciolaw02_TextJoins.j1 kj4 a0 (t138 != false)))) = some r := H
                have A48 := Aside0.mk A480
                clear A480
                by_cases c49 : t144 = true
                · subst c49
                  have H1 : (if a1.toList = ([] : List UInt8) then (nunciolaw02_TextJoins.j1 kj4 a0 (t138 != true)) else (if a0.toList = ([] : List UInt8) then ((text_Token.f a1).bind fun t145 => (nunciolaw02_TextJoins.j1 kj4 a0 (t138 != t145))) else (nunciolaw02_TextJoins.j1 kj4 a0 (t138 != false)))) = some r := by rw [if_pos rfl] at H; exact H
                  clear H
                  have H := H1
                  clear H1
                  by_cases c50 : a1.toList = ([] : List UInt8)
                  · rw [if_pos c50] at H
                    have c50b0 : (a1.toList == ([] : List UInt8)) = true := beq_iff_eq.mpr c50
                    have c50b1 : (a1.toList != ([] : List UInt8)) = false := bne_eq_false_iff_eq.mpr c50
                    have c50b2 : a1.toList.isEmpty = true := List.isEmpty_iff.mpr c50
                    (try (have c50b3 : (a1.toList = []) = True := eq_true c50))
                    clear c50
                    have H' := Aside0.mk H
                    clear H
                    go_wp2_with (first | ((with_reducible refine gate_callee (f := 12) rfl ?_); refine goesL_ (some 18) rfl rfl Tryd.func12 (by kernel_rfl) rfl #[.string (a0 ++ a1)] rfl (by (try simp only [List.map_toArray, List.map_cons, List.map_nil]); first | done | rfl | (simp only [List.length_drop, List.length_take]; rfl)) ?_; (with_reducible refine (text_Token.calls (a0 ++ a1) t138 _ A11.out).mono ?_); rintro e w51 ⟨rfl, hb⟩; refine ⟨_, rfl, ?_⟩; have n0_ := Aside0.mk (below_step (by repeat (first | (with_reducible first | exact HB.out | apply below_alloc | apply pw_below_drewN | apply below_drew1) | exact HB.out)) hb); clear HB; have HB := n0_; clear n0_; (try clear hb); (try clear hb2); (try clear hk); (try clear hi)) | ((with_reducible refine gate_callee (f := 12) rfl ?_); refine goesL_ (some 20) rfl rfl Tryd.func12 (by kernel_rfl) rfl #[.string a0] rfl (by (try simp only [List.map_toArray, List.map_cons, List.map_nil]); first | done | rfl | (simp only [List.length_drop, List.length_take]; rfl)) ?_; (with_reducible refine (text_Token.calls a0 false _ A12.out).mono ?_); rintro e w52 ⟨rfl, hb⟩; refine ⟨_, rfl, ?_⟩; have n0_ := Aside0.mk (below_step (by repeat (first | (with_reducible first | exact HB.out | apply below_alloc | apply pw_below_drewN | apply below_drew1) | exact HB.out)) hb); clear HB; have HB := n0_; clear n0_; (try clear hb); (try clear hb2); (try clear hk); (try clear hi); have tkA48 : True := trivial) | (go_at_call 12; have t_ := tkA48; clear t_ tkA48; (with_reducible refine (text_Token.calls a0 true _ A48.out).mono ?_); rintro e w53 ⟨rfl, hb⟩; have n0_ := Aside0.mk (below_step (by repeat (first | (with_reducible first | exact HB.out | apply below_alloc | apply pw_below_drewN | apply below_drew1) | exact HB.out)) hb); clear HB; have HB := n0_; clear n0_; (try clear hb); (try clear hb2); (try clear hk); (try clear hi)))
                    go_meet
                    case rel => exact ⟨_, ((t138 != true)), (by first | rfl | (simp; done) | (simp [*]; done)), H', ⟨by have := HJ4.out; first | omega | exact Nat.le_refl _⟩, ⟨by repeat (first | (with_reducible first | exact HB.out | apply below_alloc | apply pw_below_drewN | apply below_drew1) | exact HB.out)⟩⟩
                  · rw [if_neg c50] at H
                    have c50b0 : (a1.toList == ([] : List UInt8)) = false := beq_eq_false_iff_ne.mpr c50
                    have c50b1 : (a1.toList != ([] : List UInt8)) = true := bne_iff_ne.mpr c50
                    have c50b2 : a1.toList.isEmpty = false := List.isEmpty_eq_false_iff.mpr c50
                    (try (have c50b3 : (a1.toList = []) = False := eq_false c50))
                    by_cases c54 : a0.toList = ([] : List UInt8)
                    · rw [if_pos c54] at H
                      have c54b0 : (a0.toList == ([] : List UInt8)) = true := beq_iff_eq.mpr c54
                      have c54b1 : (a0.toList != ([] : List UInt8)) = false := bne_eq_false_iff_eq.mpr c54
                      have c54b2 : a0.toList.isEmpty = true := List.isEmpty_iff.mpr c54
                      (try (have c54b3 : (a0.toList = []) = True := eq_true c54))
                      clear c54
                      replace H := Option.bind_eq_some_iff.mp H
                      obtain ⟨t145, A550, H⟩ := H
                      replace H : (nunciolaw02_TextJoins.j1 kj4 a0 (t138 != t145)) = some r := H
                      have A55 := Aside0.mk A550
                      clear A550
                      have H' := Aside0.mk H
                      clear H
                      go_wp2_with (first | ((with_reducible refine gate_callee (f := 12) rfl ?_); refine goesL_ (some 18) rfl rfl Tryd.func12 (by kernel_rfl) rfl #[.string (a0 ++ a1)] rfl (by (try simp only [List.map_toArray, List.map_cons, List.map_nil]); first | done | rfl | (simp only [List.length_drop, List.length_take]; rfl)) ?_; (with_reducible refine (text_Token.calls (a0 ++ a1) t138 _ A11.out).mono ?_); rintro e w56 ⟨rfl, hb⟩; refine ⟨_, rfl, ?_⟩; have n0_ := Aside0.mk (below_step (by repeat (first | (with_reducible first | exact HB.out | apply below_alloc | apply pw_below_drewN | apply below_drew1) | exact HB.out)) hb); clear HB; have HB := n0_; clear n0_; (try clear hb); (try clear hb2); (try clear hk); (try clear hi)) | ((with_reducible refine gate_callee (f := 12) rfl ?_); refine goesL_ (some 20) rfl rfl Tryd.func12 (by kernel_rfl) rfl #[.string a0] rfl (by (try simp only [List.map_toArray, List.map_cons, List.map_nil]); first | done | rfl | (simp only [List.length_drop, List.length_take]; rfl)) ?_; (with_reducible refine (text_Token.calls a0 false _ A12.out).mono ?_); rintro e w57 ⟨rfl, hb⟩; refine ⟨_, rfl, ?_⟩; have n0_ := Aside0.mk (below_step (by repeat (first | (with_reducible first | exact HB.out | apply below_alloc | apply pw_below_drewN | apply below_drew1) | exact HB.out)) hb); clear HB; have HB := n0_; clear n0_; (try clear hb); (try clear hb2); (try clear hk); (try clear hi); have tkA48 : True := trivial) | (go_at_call 12; have t_ := tkA48; clear t_ tkA48; (with_reducible refine (text_Token.calls a0 true _ A48.out).mono ?_); rintro e w58 ⟨rfl, hb⟩; have n0_ := Aside0.mk (below_step (by repeat (first | (with_reducible first | exact HB.out | apply below_alloc | apply pw_below_drewN | apply below_drew1) | exact HB.out)) hb); clear HB; have HB := n0_; clear n0_; (try clear hb); (try clear hb2); (try clear hk); (try clear hi); have tkA55 : True := trivial) | (go_at_call 12; have t_ := tkA55; clear t_ tkA55; (with_reducible refine (text_Token.calls a1 t145 _ A55.out).mono ?_); rintro e w59 ⟨rfl, hb⟩; have n0_ := Aside0.mk (below_step (by repeat (first | (with_reducible first | exact HB.out | apply below_alloc | apply pw_below_drewN | apply below_drew1) | exact HB.out)) hb); clear HB; have HB := n0_; clear n0_; (try clear hb); (try clear hb2); (try clear hk); (try clear hi)))
                      go_meet
                      case rel => exact ⟨_, ((t138 != t145)), (by first | rfl | (simp; done) | (simp [*]; done)), H', ⟨by have := HJ4.out; first | omega | exact Nat.le_refl _⟩, ⟨by repeat (first | (with_reducible first | exact HB.out | apply below_alloc | apply pw_below_drewN | apply below_drew1) | exact HB.out)⟩⟩
                    · rw [if_neg c54] at H
                      have c54b0 : (a0.toList == ([] : List UInt8)) = false := beq_eq_false_iff_ne.mpr c54
                      have c54b1 : (a0.toList != ([] : List UInt8)) = true := bne_iff_ne.mpr c54
                      have c54b2 : a0.toList.isEmpty = false := List.isEmpty_eq_false_iff.mpr c54
                      (try (have c54b3 : (a0.toList = []) = False := eq_false c54))
                      have H' := Aside0.mk H
                      clear H
                      go_wp2_with (first | ((with_reducible refine gate_callee (f := 12) rfl ?_); refine goesL_ (some 18) rfl rfl Tryd.func12 (by kernel_rfl) rfl #[.string (a0 ++ a1)] rfl (by (try simp only [List.map_toArray, List.map_cons, List.map_nil]); first | done | rfl | (simp only [List.length_drop, List.length_take]; rfl)) ?_; (with_reducible refine (text_Token.calls (a0 ++ a1) t138 _ A11.out).mono ?_); rintro e w60 ⟨rfl, hb⟩; refine ⟨_, rfl, ?_⟩; have n0_ := Aside0.mk (below_step (by repeat (first | (with_reducible first | exact HB.out | apply below_alloc | apply pw_below_drewN | apply below_drew1) | exact HB.out)) hb); clear HB; have HB := n0_; clear n0_; (try clear hb); (try clear hb2); (try clear hk); (try clear hi)) | ((with_reducible refine gate_callee (f := 12) rfl ?_); refine goesL_ (some 20) rfl rfl Tryd.func12 (by kernel_rfl) rfl #[.string a0] rfl (by (try simp only [List.map_toArray, List.map_cons, List.map_nil]); first | done | rfl | (simp only [List.length_drop, List.length_take]; rfl)) ?_; (with_reducible refine (text_Token.calls a0 false _ A12.out).mono ?_); rintro e w61 ⟨rfl, hb⟩; refine ⟨_, rfl, ?_⟩; have n0_ := Aside0.mk (below_step (by repeat (first | (with_reducible first | exact HB.out | apply below_alloc | apply pw_below_drewN | apply below_drew1) | exact HB.out)) hb); clear HB; have HB := n0_; clear n0_; (try clear hb); (try clear hb2); (try clear hk); (try clear hi); have tkA48 : True := trivial) | (go_at_call 12; have t_ := tkA48; clear t_ tkA48; (with_reducible refine (text_Token.calls a0 true _ A48.out).mono ?_); rintro e w62 ⟨rfl, hb⟩; have n0_ := Aside0.mk (below_step (by repeat (first | (with_reducible first | exact HB.out | apply below_alloc | apply pw_below_drewN | apply below_drew1) | exact HB.out)) hb); clear HB; have HB := n0_; clear n0_; (try clear hb); (try clear hb2); (try clear hk); (try clear hi)))
                      go_meet
                      case rel => exact ⟨_, ((t138 != false)), (by first | rfl | (simp; done) | (simp [*]; done)), H', ⟨by have := HJ4.out; first | omega | exact Nat.le_refl _⟩, ⟨by repeat (first | (with_reducible first | exact HB.out | apply below_alloc | apply pw_below_drewN | apply below_drew1) | exact HB.out)⟩⟩
                · replace c49 := Bool.eq_false_iff.mpr c49
                  subst c49
                  have H1 : (if a0.toList = ([] : List UInt8) then ((text_Token.f a1).bind fun t146 => (nunciolaw02_TextJoins.j1 kj4 a0 (t138 != t146))) else (nunciolaw02_TextJoins.j1 kj4 a0 (t138 != false))) = some r := by rw [if_neg (show ¬ (false = true) by decide)] at H; exact H
                  clear H
                  have H := H1
                  clear H1
                  by_cases c63 : a0.toList = ([] : List UInt8)
                  · rw [if_pos c63] at H
                    have c63b0 : (a0.toList == ([] : List UInt8)) = true := beq_iff_eq.mpr c63
                    have c63b1 : (a0.toList != ([] : List UInt8)) = false := bne_eq_false_iff_eq.mpr c63
                    have c63b2 : a0.toList.isEmpty = true := List.isEmpty_iff.mpr c63
                    (try (have c63b3 : (a0.toList = []) = True := eq_true c63))
                    clear c63
                    replace H := Option.bind_eq_some_iff.mp H
                    obtain ⟨t146, A640, H⟩ := H
                    replace H : (nunciolaw02_TextJoins.j1 kj4 a0 (t138 != t146)) = some r := H
                    have A64 := Aside0.mk A640
                    clear A640
                    have H' := Aside0.mk H
                    clear H
                    go_wp2_with (first | ((with_reducible refine gate_callee (f := 12) rfl ?_); refine goesL_ (some 18) rfl rfl Tryd.func12 (by kernel_rfl) rfl #[.string (a0 ++ a1)] rfl (by (try simp only [List.map_toArray, List.map_cons, List.map_nil]); first | done | rfl | (simp only [List.length_drop, List.length_take]; rfl)) ?_; (with_reducible refine (text_Token.calls (a0 ++ a1) t138 _ A11.out).mono ?_); rintro e w65 ⟨rfl, hb⟩; refine ⟨_, rfl, ?_⟩; have n0_ := Aside0.mk (below_step (by repeat (first | (with_reducible first | exact HB.out | apply below_alloc | apply pw_below_drewN | apply below_drew1) | exact HB.out)) hb); clear HB; have HB := n0_; clear n0_; (try clear hb); (try clear hb2); (try clear hk); (try clear hi)) | ((with_reducible refine gate_callee (f := 12) rfl ?_); refine goesL_ (some 20) rfl rfl Tryd.func12 (by kernel_rfl) rfl #[.string a0] rfl (by (try simp only [List.map_toArray, List.map_cons, List.map_nil]); first | done | rfl | (simp only [List.length_drop, List.length_take]; rfl)) ?_; (with_reducible refine (text_Token.calls a0 false _ A12.out).mono ?_); rintro e w66 ⟨rfl, hb⟩; refine ⟨_, rfl, ?_⟩; have n0_ := Aside0.mk (below_step (by repeat (first | (with_reducible first | exact HB.out | apply below_alloc | apply pw_below_drewN | apply below_drew1) | exact HB.out)) hb); clear HB; have HB := n0_; clear n0_; (try clear hb); (try clear hb2); (try clear hk); (try clear hi); have tkA48 : True := trivial) | (go_at_call 12; have t_ := tkA48; clear t_ tkA48; (with_reducible refine (text_Token.calls a0 false _ A48.out).mono ?_); rintro e w67 ⟨rfl, hb⟩; have n0_ := Aside0.mk (below_step (by repeat (first | (with_reducible first | exact HB.out | apply below_alloc | apply pw_below_drewN | apply below_drew1) | exact HB.out)) hb); clear HB; have HB := n0_; clear n0_; (try clear hb); (try clear hb2); (try clear hk); (try clear hi); have tkA64 : True := trivial) | (go_at_call 12; have t_ := tkA64; clear t_ tkA64; (with_reducible refine (text_Token.calls a1 t146 _ A64.out).mono ?_); rintro e w68 ⟨rfl, hb⟩; have n0_ := Aside0.mk (below_step (by repeat (first | (with_reducible first | exact HB.out | apply below_alloc | apply pw_below_drewN | apply below_drew1) | exact HB.out)) hb); clear HB; have HB := n0_; clear n0_; (try clear hb); (try clear hb2); (try clear hk); (try clear hi)))
                    go_meet
                    case rel => exact ⟨_, ((t138 != t146)), (by first | rfl | (simp; done) | (simp [*]; done)), H', ⟨by have := HJ4.out; first | omega | exact Nat.le_refl _⟩, ⟨by repeat (first | (with_reducible first | exact HB.out | apply below_alloc | apply pw_below_drewN | apply below_drew1) | exact HB.out)⟩⟩
                  · rw [if_neg c63] at H
                    have c63b0 : (a0.toList == ([] : List UInt8)) = false := beq_eq_false_iff_ne.mpr c63
                    have c63b1 : (a0.toList != ([] : List UInt8)) = true := bne_iff_ne.mpr c63
                    have c63b2 : a0.toList.isEmpty = false := List.isEmpty_eq_false_iff.mpr c63
                    (try (have c63b3 : (a0.toList = []) = False := eq_false c63))
                    have H' := Aside0.mk H
                    clear H
                    go_wp2_with (first | ((with_reducible refine gate_callee (f := 12) rfl ?_); refine goesL_ (some 18) rfl rfl Tryd.func12 (by kernel_rfl) rfl #[.string (a0 ++ a1)] rfl (by (try simp only [List.map_toArray, List.map_cons, List.map_nil]); first | done | rfl | (simp only [List.length_drop, List.length_take]; rfl)) ?_; (with_reducible refine (text_Token.calls (a0 ++ a1) t138 _ A11.out).mono ?_); rintro e w69 ⟨rfl, hb⟩; refine ⟨_, rfl, ?_⟩; have n0_ := Aside0.mk (below_step (by repeat (first | (with_reducible first | exact HB.out | apply below_alloc | apply pw_below_drewN | apply below_drew1) | exact HB.out)) hb); clear HB; have HB := n0_; clear n0_; (try clear hb); (try clear hb2); (try clear hk); (try clear hi)) | ((with_reducible refine gate_callee (f := 12) rfl ?_); refine goesL_ (some 20) rfl rfl Tryd.func12 (by kernel_rfl) rfl #[.string a0] rfl (by (try simp only [List.map_toArray, List.map_cons, List.map_nil]); first | done | rfl | (simp only [List.length_drop, List.length_take]; rfl)) ?_; (with_reducible refine (text_Token.calls a0 false _ A12.out).mono ?_); rintro e w70 ⟨rfl, hb⟩; refine ⟨_, rfl, ?_⟩; have n0_ := Aside0.mk (below_step (by repeat (first | (with_reducible first | exact HB.out | apply below_alloc | apply pw_below_drewN | apply below_drew1) | exact HB.out)) hb); clear HB; have HB := n0_; clear n0_; (try clear hb); (try clear hb2); (try clear hk); (try clear hi); have tkA48 : True := trivial) | (go_at_call 12; have t_ := tkA48; clear t_ tkA48; (with_reducible refine (text_Token.calls a0 false _ A48.out).mono ?_); rintro e w71 ⟨rfl, hb⟩; have n0_ := Aside0.mk (below_step (by repeat (first | (with_reducible first | exact HB.out | apply below_alloc | apply pw_below_drewN | apply below_drew1) | exact HB.out)) hb); clear HB; have HB := n0_; clear n0_; (try clear hb); (try clear hb2); (try clear hk); (try clear hi)))
                    go_meet
                    case rel => exact ⟨_, ((t138 != false)), (by first | rfl | (simp; done) | (simp [*]; done)), H', ⟨by have := HJ4.out; first | omega | exact Nat.le_refl _⟩, ⟨by repeat (first | (with_reducible first | exact HB.out | apply below_alloc | apply pw_below_drewN | apply below_drew1) | exact HB.out)⟩⟩
            · rw [if_neg c10] at H
              exact absurd H (by simp)
          case rest =>
            clear HC9
            try clear c1
            try clear c2
            try clear p2
            try clear c3
            try clear c4
            try clear c5
            try clear c6
            try clear c7
            try clear c7b0
            try clear c7b1
            try clear c8
            try clear c10
            try clear c10b0
            try clear c10b1
            try clear c10b2
            try clear c12
            try clear c13
            try clear c15
            try clear c20
            try clear c21
            try clear c21b0
            try clear c21b1
            try clear c21b2
            try clear c26
            try clear c26b0
            try clear c26b1
            try clear c26b2
            try clear c37
            try clear c37b0
            try clear c37b1
            try clear c37b2
            try clear c49
            try clear c50
            try clear c50b0
            try clear c50b1
            try clear c50b2
            try clear c54
            try clear c54b0
            try clear c54b1
            try clear c54b2
            try clear c63
            try clear c63b0
            try clear c63b1
            try clear c63b2
            try clear p2
            obtain ⟨kq, x41_8, rfl, HA, HJ8, HB⟩ := hcut
            cases kq with
            | zero => exact absurd HA.out (by simp [nunciolaw02_TextJoins.j1])
            | succ kj8 =>
              have H := HA.out
              clear HA
              simp only [nunciolaw02_TextJoins.j1] at H
              by_cases c72 : x41_8 = true
              · subst c72
                have H1 : (some false) = some r := by rw [if_pos rfl] at H; exact H
                clear H
                have H := H1
                clear H1
                obtain rfl := Option.some.inj H
                go_wp2
                go_ret
                exact ⟨by first | rfl | (simp [errW_none, errW_some] <;> rfl) | (simp [*, errW_none, errW_some] <;> rfl), by repeat (first | (with_reducible first | exact HB.out | apply below_alloc | apply pw_below_drewN | apply below_drew1) | exact HB.out)⟩
              · replace c72 := Bool.eq_false_iff.mpr c72
                subst c72
                have H1 : ((text_Value.f a0).bind fun t147 => (if t147 = true then (if 1 + a0.size ≤ 9223372036854775807 then (if 1 + a0.size + 1 ≤ 9223372036854775807 then ((text_Value.f (((⟨#[120]⟩ : ByteArray) ++ a0) ++ (⟨#[121]⟩ : ByteArray))).bind fun t148 => (if t148 = true then (if 2 + a0.size ≤ 9223372036854775807 then (if 2 + a0.size + 2 ≤ 9223372036854775807 then ((text_Value.f (((⟨#[120, 32]⟩ : ByteArray) ++ a0) ++ (⟨#[32, 121]⟩ : ByteArray))).bind fun t149 => (some t149)) else (none)) else (none)) else (some false))) else (none)) else (none)) else (some true))) = some r := by rw [if_neg (show ¬ (false = true) by decide)] at H; exact H
                clear H
                have H := H1
                clear H1
                replace H := Option.bind_eq_some_iff.mp H
                obtain ⟨t147, A730, H⟩ := H
                replace H : (if t147 = true then (if 1 + a0.size ≤ 9223372036854775807 then (if 1 + a0.size + 1 ≤ 9223372036854775807 then ((text_Value.f (((⟨#[120]⟩ : ByteArray) ++ a0) ++ (⟨#[121]⟩ : ByteArray))).bind fun t148 => (if t148 = true then (if 2 + a0.size ≤ 9223372036854775807 then (if 2 + a0.size + 2 ≤ 9223372036854775807 then ((text_Value.f (((⟨#[120, 32]⟩ : ByteArray) ++ a0) ++ (⟨#[32, 121]⟩ : ByteArray))).bind fun t149 => (some t149)) else (none)) else (none)) else (some false))) else (none)) else (none)) else (some true)) = some r := H
                have A73 := Aside0.mk A730
                clear A730
                by_cases c74 : t147 = true
                · subst c74
                  have H1 : (if 1 + a0.size ≤ 9223372036854775807 then (if 1 + a0.size + 1 ≤ 9223372036854775807 then ((text_Value.f (((⟨#[120]⟩ : ByteArray) ++ a0) ++ (⟨#[121]⟩ : ByteArray))).bind fun t148 => (if t148 = true then (if 2 + a0.size ≤ 9223372036854775807 then (if 2 + a0.size + 2 ≤ 9223372036854775807 then ((text_Value.f (((⟨#[120, 32]⟩ : ByteArray) ++ a0) ++ (⟨#[32, 121]⟩ : ByteArray))).bind fun t149 => (some t149)) else (none)) else (none)) else (some false))) else (none)) else (none)) = some r := by rw [if_pos rfl] at H; exact H
                  clear H
                  have H := H1
                  clear H1
                  by_cases c75 : 1 + a0.size ≤ 9223372036854775807
                  · rw [if_pos c75] at H
                    have c75b0 := eq_true c75
                    have c75b1 : decide (1 + a0.size ≤ 9223372036854775807) = true := decide_eq_true c75
                    try have c75b2 : (9223372036854775807 < 1 + a0.size) = False := eq_false (Nat.not_lt.2 c75)
                    by_cases c76 : 1 + a0.size + 1 ≤ 9223372036854775807
                    · rw [if_pos c76] at H
                      have c76b0 := eq_true c76
                      have c76b1 : decide (1 + a0.size + 1 ≤ 9223372036854775807) = true := decide_eq_true c76
                      try have c76b2 : (9223372036854775807 < 1 + a0.size + 1) = False := eq_false (Nat.not_lt.2 c76)
                      replace H := Option.bind_eq_some_iff.mp H
                      obtain ⟨t148, A770, H⟩ := H
                      replace H : (if t148 = true then (if 2 + a0.size ≤ 9223372036854775807 then (if 2 + a0.size + 2 ≤ 9223372036854775807 then ((text_Value.f (((⟨#[120, 32]⟩ : ByteArray) ++ a0) ++ (⟨#[32, 121]⟩ : ByteArray))).bind fun t149 => (some t149)) else (none)) else (none)) else (some false)) = some r := H
                      have A77 := Aside0.mk A770
                      clear A770
                      by_cases c78 : t148 = true
                      · subst c78
                        have H1 : (if 2 + a0.size ≤ 9223372036854775807 then (if 2 + a0.size + 2 ≤ 9223372036854775807 then ((text_Value.f (((⟨#[120, 32]⟩ : ByteArray) ++ a0) ++ (⟨#[32, 121]⟩ : ByteArray))).bind fun t149 => (some t149)) else (none)) else (none)) = some r := by rw [if_pos rfl] at H; exact H
                        clear H
                        have H := H1
                        clear H1
                        by_cases c79 : 2 + a0.size ≤ 9223372036854775807
                        · rw [if_pos c79] at H
                          have c79b0 := eq_true c79
                          have c79b1 : decide (2 + a0.size ≤ 9223372036854775807) = true := decide_eq_true c79
                          try have c79b2 : (9223372036854775807 < 2 + a0.size) = False := eq_false (Nat.not_lt.2 c79)
                          by_cases c80 : 2 + a0.size + 2 ≤ 9223372036854775807
                          · rw [if_pos c80] at H
                            have c80b0 := eq_true c80
                            have c80b1 : decide (2 + a0.size + 2 ≤ 9223372036854775807) = true := decide_eq_true c80
                            try have c80b2 : (9223372036854775807 < 2 + a0.size + 2) = False := eq_false (Nat.not_lt.2 c80)
                            replace H := Option.bind_eq_some_iff.mp H
                            obtain ⟨t149, A810, H⟩ := H
                            replace H : (some t149) = some r := H
                            have A81 := Aside0.mk A810
                            clear A810
                            obtain rfl := Option.some.inj H
                            go_wp2_with (first | ((with_reducible refine gate_callee (f := 14) rfl ?_); refine goesL_ (some 43) rfl rfl Tryd.func14 (by kernel_rfl) rfl #[.string a0] rfl (by (try simp only [List.map_toArray, List.map_cons, List.map_nil]); first | done | rfl | (simp only [List.length_drop, List.length_take]; rfl)) ?_; (with_reducible refine (text_Value.calls a0 true _ A73.out).mono ?_); rintro e w82 ⟨rfl, hb⟩; refine ⟨_, rfl, ?_⟩; have n0_ := Aside0.mk (below_step (by repeat (first | (with_reducible first | exact HB.out | apply below_alloc | apply pw_below_drewN | apply below_drew1) | exact HB.out)) hb); clear HB; have HB := n0_; clear n0_; (try clear hb); (try clear hb2); (try clear hk); (try clear hi); have tkA77 : True := trivial) | (go_at_call 14; have t_ := tkA77; clear t_ tkA77; (with_reducible refine (text_Value.calls (((⟨#[120]⟩ : ByteArray) ++ a0) ++ (⟨#[121]⟩ : ByteArray)) true _ A77.out).mono ?_); rintro e w83 ⟨rfl, hb⟩; have n0_ := Aside0.mk (below_step (by repeat (first | (with_reducible first | exact HB.out | apply below_alloc | apply pw_below_drewN | apply below_drew1) | exact HB.out)) hb); clear HB; have HB := n0_; clear n0_; (try clear hb); (try clear hb2); (try clear hk); (try clear hi); have tkA81 : True := trivial) | (go_at_call 14; have t_ := tkA81; clear t_ tkA81; (with_reducible refine (text_Value.calls (((⟨#[120, 32]⟩ : ByteArray) ++ a0) ++ (⟨#[32, 121]⟩ : ByteArray)) t149 _ A81.out).mono ?_); rintro e w84 ⟨rfl, hb⟩; have n0_ := Aside0.mk (below_step (by repeat (first | (with_reducible first | exact HB.out | apply below_alloc | apply pw_below_drewN | apply below_drew1) | exact HB.out)) hb); clear HB; have HB := n0_; clear n0_; (try clear hb); (try clear hb2); (try clear hk); (try clear hi)))
                            go_ret
                            exact ⟨by first | rfl | (simp [errW_none, errW_some] <;> rfl) | (simp [*, errW_none, errW_some] <;> rfl), by repeat (first | (with_reducible first | exact HB.out | apply below_alloc | apply pw_below_drewN | apply below_drew1) | exact HB.out)⟩
                          · rw [if_neg c80] at H
                            exact absurd H (by simp)
                        · rw [if_neg c79] at H
                          exact absurd H (by simp)
                      · replace c78 := Bool.eq_false_iff.mpr c78
                        subst c78
                        have H1 : (some false) = some r := by rw [if_neg (show ¬ (false = true) by decide)] at H; exact H
                        clear H
                        have H := H1
                        clear H1
                        obtain rfl := Option.some.inj H
                        go_wp2_with (first | ((with_reducible refine gate_callee (f := 14) rfl ?_); refine goesL_ (some 43) rfl rfl Tryd.func14 (by kernel_rfl) rfl #[.string a0] rfl (by (try simp only [List.map_toArray, List.map_cons, List.map_nil]); first | done | rfl | (simp only [List.length_drop, List.length_take]; rfl)) ?_; (with_reducible refine (text_Value.calls a0 true _ A73.out).mono ?_); rintro e w85 ⟨rfl, hb⟩; refine ⟨_, rfl, ?_⟩; have n0_ := Aside0.mk (below_step (by repeat (first | (with_reducible first | exact HB.out | apply below_alloc | apply pw_below_drewN | apply below_drew1) | exact HB.out)) hb); clear HB; have HB := n0_; clear n0_; (try clear hb); (try clear hb2); (try clear hk); (try clear hi); have tkA77 : True := trivial) | (go_at_call 14; have t_ := tkA77; clear t_ tkA77; (with_reducible refine (text_Value.calls (((⟨#[120]⟩ : ByteArray) ++ a0) ++ (⟨#[121]⟩ : ByteArray)) false _ A77.out).mono ?_); rintro e w86 ⟨rfl, hb⟩; have n0_ := Aside0.mk (below_step (by repeat (first | (with_reducible first | exact HB.out | apply below_alloc | apply pw_below_drewN | apply below_drew1) | exact HB.out)) hb); clear HB; have HB := n0_; clear n0_; (try clear hb); (try clear hb2); (try clear hk); (try clear hi)))
                        go_ret
                        exact ⟨by first | rfl | (simp [errW_none, errW_some] <;> rfl) | (simp [*, errW_none, errW_some] <;> rfl), by repeat (first | (with_reducible first | exact HB.out | apply below_alloc | apply pw_below_drewN | apply below_drew1) | exact HB.out)⟩
                    · rw [if_neg c76] at H
                      exact absurd H (by simp)
                  · rw [if_neg c75] at H
                    exact absurd H (by simp)
                · replace c74 := Bool.eq_false_iff.mpr c74
                  subst c74
                  have H1 : (some true) = some r := by rw [if_neg (show ¬ (false = true) by decide)] at H; exact H
                  clear H
                  have H := H1
                  clear H1
                  obtain rfl := Option.some.inj H
                  go_wp2_with (first | ((with_reducible refine gate_callee (f := 14) rfl ?_); refine goesL_ (some 43) rfl rfl Tryd.func14 (by kernel_rfl) rfl #[.string a0] rfl (by (try simp only [List.map_toArray, List.map_cons, List.map_nil]); first | done | rfl | (simp only [List.length_drop, List.length_take]; rfl)) ?_; (with_reducible refine (text_Value.calls a0 false _ A73.out).mono ?_); rintro e w87 ⟨rfl, hb⟩; refine ⟨_, rfl, ?_⟩; have n0_ := Aside0.mk (below_step (by repeat (first | (with_reducible first | exact HB.out | apply below_alloc | apply pw_below_drewN | apply below_drew1) | exact HB.out)) hb); clear HB; have HB := n0_; clear n0_; (try clear hb); (try clear hb2); (try clear hk); (try clear hi)))
                  go_ret
                  exact ⟨by first | rfl | (simp [errW_none, errW_some] <;> rfl) | (simp [*, errW_none, errW_some] <;> rfl), by repeat (first | (with_reducible first | exact HB.out | apply below_alloc | apply pw_below_drewN | apply below_drew1) | exact HB.out)⟩
  · replace c4 := Bool.eq_false_iff.mpr c4
    subst c4
    have H1 : (some false) = some r := by rw [if_neg (show ¬ (false = true) by decide)] at H; exact H
    clear H
    have H := H1
    clear H1
    obtain rfl := Option.some.inj H
    go_enter Tryd.func5, Tryd.ntmps5
    go_wp2_with (first | ((with_reducible refine gate_callee (f := 8) rfl ?_); refine goesL_ (some 5) rfl rfl Tryd.func8 (by kernel_rfl) rfl #[] rfl (by (try simp only [List.map_toArray, List.map_cons, List.map_nil]); first | done | rfl | (simp only [List.length_drop, List.length_take]; rfl)) ?_; (with_reducible refine (nunciolaw02_awake.calls  false _ A3.out (Glob.below hG rfl (by repeat (first | (with_reducible first | exact HB.out | apply below_alloc | apply pw_below_drewN | apply below_drew1) | exact HB.out)))).mono ?_); rintro e w88 ⟨rfl, hb⟩; refine ⟨_, rfl, ?_⟩; have n0_ := Aside0.mk (below_step (by repeat (first | (with_reducible first | exact HB.out | apply below_alloc | apply pw_below_drewN | apply below_drew1) | exact HB.out)) hb); clear HB; have HB := n0_; clear n0_; (try clear hb); (try clear hb2); (try clear hk); (try clear hi)))
    go_ret
    exact ⟨by first | rfl | (simp [errW_none, errW_some] <;> rfl) | (simp [*, errW_none, errW_some] <;> rfl), by repeat (first | (with_reducible first | exact HB.out | apply below_alloc | apply pw_below_drewN | apply below_drew1) | exact HB.out)⟩

/-- THE ONE PURE STATEMENT of nunciolaw02_TextJoins: yours. -/
def nunciolaw02_TextJoins.Pure : Prop := ∀ (a0 : ByteArray) (a1 : ByteArray), a0.size ≤ 140737488351232 → a1.size ≤ 140737488351232 → ∃ k, nunciolaw02_TextJoins.f k a0 a1 = some true
theorem nunciolaw02_TextJoins.walk (P : nunciolaw02_TextJoins.Pure) (a0 : ByteArray) (a1 : ByteArray) (w : World) (w0 : a0.size ≤ 140737488351232) (w1 : a1.size ≤ 140737488351232) (hG : Aside0 (Glob w)) :
    Calls Tryd.prog 5 #[.string a0, .string a1] w fun e w' => e = .returned (.bool true) ∧ Below w.heap.size w w' := by
  obtain ⟨k, h⟩ := P a0 a1 w0 w1
  refine (nunciolaw02_TextJoins.calls k a0 a1 true w h hG).mono ?_
  rintro e w' ⟨rfl, hd⟩
  exact ⟨rfl, hd⟩

end Go.Proofs.YtkcliilifdcbbaaDoor.P
