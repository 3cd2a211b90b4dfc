/- Functions of the program as plain functions, and the contract of each: written by a program of this session over the seat's translation. Conditions: those that each theorem names. -/
import Derived.Test.YtgfdmaohnngpjaaDoorPx0
import Derived.Test.YtgfdmaohnngpjaaDoorPx4
import Derived.Test.YtgfdmaohnngpjaaDoorPx7
namespace Go.Proofs.YtgfdmaohnngpjaaDoor.P
open Go.RowKit Go.Proofs.YtgfdmaohnngpjaaDoorW.PrintWords Go.Proofs.YtgfdmaohnngpjaaDoorW.PrintLast Go.Proofs.YtgfdmaohnngpjaaDoorW.PrintMore
attribute [local go_sem] max2_int min2_int max_two min_two max_three min_three max_four min_four   -- for this text's walks alone
set_option linter.unusedVariables false
set_option linter.unusedSimpArgs false

/-! ### text_Value: function 26: given -/
def text_Value.f (a0 : ByteArray) : Option Bool := if a0.size ≤ 9223372036854775807 then some (a0.data.toList.all shownB && decide (Lib.trimS a0.data.toList [9, 32] = a0.data.toList)) else none
theorem text_Value.calls (a0 : ByteArray) (r : Bool) (w : World) (h : text_Value.f a0 = some r) :
    Calls Tryd.prog 26 #[.string a0] w fun e w' => e = .returned (.bool r) ∧ Below w.heap.size w w' := by
  unfold text_Value.f at h
  split at h
  · rename_i hs
    obtain rfl := Option.some.inj h
    have H := all_shownB a0
    have hT : strings_Trim.f a0 ⟨#[9, 32]⟩ = some ⟨(Lib.trimS a0.data.toList [9, 32]).toArray⟩ := by
      unfold strings_Trim.f
      rw [if_pos ⟨hs, by decide, by decide⟩]
    have H2 := fun w => H w hs
    clear h H
    have HT := Lib.hid hT
    clear hT
    cases hA : a0.data.toList.all shownB with
    | false =>
      rw [hA] at H2
      clear hA
      go_enter Tryd.func26, Tryd.ntmps26
      go_wp2_with (go_at_call 40; refine (H2 _).mono ?_; rintro e w' ⟨rfl, hb⟩)
      go_ret
      exact ⟨rfl, hb⟩
    | true =>
      rw [hA] at H2
      clear hA
      generalize hq : decide (Lib.trimS a0.data.toList [9, 32] = a0.data.toList) = q
      have Hq := Lib.hid hq
      clear hq
      go_enter Tryd.func26, Tryd.ntmps26
      go_wp2_with (first | (go_at_call 40; refine (H2 _).mono ?_; rintro e w' ⟨rfl, hb⟩) | (go_at_call 22; refine (strings_Trim.calls a0 ⟨#[9, 32]⟩ _ _ HT.out).mono ?_; rintro e w2 ⟨rfl, hb2⟩))
      go_ret
      refine ⟨?_, below_step hb hb2⟩
      show Ending.returned (.bool _) = _
      rw [Bool.true_and, ← Hq.out, Lib.toList_data]
      exact congrArg (fun b => Ending.returned (Value.bool b)) (by rw [Bool.eq_iff_iff]; simp)
  · cases h

end Go.Proofs.YtgfdmaohnngpjaaDoor.P
