/- Functions of the program as plain functions, and the contract of each: written by a program of this session over the seat's translation. Conditions: those that each theorem names. -/
import Derived.Test.YtgfdmaohnngpjaaDoorPx0
import Derived.Test.YtgfdmaohnngpjaaDoorShelf
import Derived.RegionTactic
namespace Go.Proofs.YtgfdmaohnngpjaaDoor.P
open Go.RowKit Go.Proofs.YtgfdmaohnngpjaaDoorW.PrintWords Go.Proofs.YtgfdmaohnngpjaaDoorW.PrintLast Go.Proofs.YtgfdmaohnngpjaaDoorW.PrintMore
attribute [local go_sem] max2_int min2_int max_two min_two max_three min_three max_four min_four   -- for this text's walks alone
set_option linter.unusedVariables false
set_option linter.unusedSimpArgs false

/-! ### strings_Cut: function 20: given -/
/-- strings.Cut at a sign of one byte. -/
def strings_Cut.f (a0 a1 : ByteArray) : Option (ByteArray × ByteArray × Bool) :=
  if a0.size ≤ 9223372036854775807 ∧ a1.size = 1 then some (⟨(Lib.cut a0.data.toList a1.data.toList).1.toArray⟩, ⟨(Lib.cut a0.data.toList a1.data.toList).2.1.toArray⟩, (Lib.cut a0.data.toList a1.data.toList).2.2) else none
set_option maxHeartbeats 1000000 in
theorem stringslite_Cut_one (s : ByteArray) (c : UInt8) (w : World) (hs : s.size ≤ 9223372036854775807) :
    Calls Tryd.prog 27 #[.string s, .string ⟨#[c]⟩] w fun e w' => e = .returned (.tuple #[.string ⟨(Lib.cut s.data.toList [c]).1.toArray⟩, .string ⟨(Lib.cut s.data.toList [c]).2.1.toArray⟩, .bool (Lib.cut s.data.toList [c]).2.2]) ∧ Drawn0 w w' := by
  rcases Lib.indexB_cases s ⟨#[c]⟩ with hix | ⟨i, hix, hroom⟩
  · obtain ⟨e1, e2, e3⟩ := Lib.cutB_miss s ⟨#[c]⟩ hix
    simp only at e1 e2 e3
    rw [e1, e2, e3]
    rw [show Lib.indexB s ⟨#[c]⟩ = Lib.indexByte s.data.toList c from Lib.index_one _ _] at hix
    have HI := Lib.hid hix
    clear hix e1 e2 e3
    go_enter Tryd.func27, Tryd.ntmps27
    go_wp2_with (go_at_call 43; refine (Tryd.stringslite_Index_one _ _ _).mono ?_; rintro e w' ⟨rfl, rfl⟩; rw [HI.out])
    go_ret3
    exact ⟨rfl, Drawn0.refl _⟩
  · obtain ⟨e1, e2, e3⟩ := Lib.cutB_hit s ⟨#[c]⟩ i hix
    simp only at e1 e2 e3
    rw [e1, e2, e3]
    rw [show Lib.indexB s ⟨#[c]⟩ = Lib.indexByte s.data.toList c from Lib.index_one _ _] at hix
    have hz : (ByteArray.mk #[c]).size = 1 := rfl
    rw [hz] at hroom ⊢
    have c1 : (0 : Int) ≤ ↑i := by omega
    have c2 : (↑i : Int) ≤ ↑s.size := by omega
    have c3 : (0 : Int) ≤ ↑i + 1 := by omega
    have c4 : (↑i + 1 : Int) ≤ ↑s.size := by omega
    have HI := Lib.hid hix
    clear hix e1 e2 e3 hz
    go_enter Tryd.func27, Tryd.ntmps27
    go_wp2_with (go_at_call 43; refine (Tryd.stringslite_Index_one _ _ _).mono ?_; rintro e w' ⟨rfl, rfl⟩; rw [HI.out])
    go_quiet (fail)
    go_wp2
    go_ret3
    exact ⟨rfl, by repeat (first | exact Drawn0.refl _ | apply Drawn0.step)⟩
theorem strings_Cut_one (s : ByteArray) (c : UInt8) (w : World) (hs : s.size ≤ 9223372036854775807) :
    Calls Tryd.prog 20 #[.string s, .string ⟨#[c]⟩] w fun e w' => e = .returned (.tuple #[.string ⟨(Lib.cut s.data.toList [c]).1.toArray⟩, .string ⟨(Lib.cut s.data.toList [c]).2.1.toArray⟩, .bool (Lib.cut s.data.toList [c]).2.2]) ∧ Drawn0 w w' := by
  go_enter Tryd.func20, Tryd.ntmps20
  go_wp2_with (go_at_call 27; refine (stringslite_Cut_one s c _ hs).mono ?_; rintro e w' ⟨rfl, ⟨nd, rfl⟩⟩)
  go_ret3
  exact ⟨rfl, by repeat (first | exact Drawn0.refl _ | apply Drawn0.step)⟩
theorem strings_Cut.calls (a0 a1 : ByteArray) (r1 r2 : ByteArray) (r3 : Bool) (w : World) (h : strings_Cut.f a0 a1 = some (r1, r2, r3)) :
    Calls Tryd.prog 20 #[.string a0, .string a1] w fun e w' => e = .returned (.tuple #[.string r1, .string r2, .bool r3]) ∧ Drawn0 w w' := by
  unfold strings_Cut.f at h
  split at h
  · rename_i hs
    obtain ⟨c, rfl⟩ : ∃ c, a1 = ⟨#[c]⟩ := by
      obtain ⟨_, h1⟩ := hs
      cases a1 with | mk d => cases d with | mk l => match l, h1 with
        | [c], _ => exact ⟨c, rfl⟩
    have e2 := Option.some.inj h
    simp only [Prod.mk.injEq] at e2
    obtain ⟨rfl, rfl, rfl⟩ := e2
    exact strings_Cut_one a0 c w hs.1
  · cases h

end Go.Proofs.YtgfdmaohnngpjaaDoor.P
