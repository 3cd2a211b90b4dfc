/- Functions of the program as plain functions, and the contract of each: written by a program of this session over the seat's translation. Conditions: those that each theorem names. -/
import Derived.Test.YtgfdmaohnngpjaaDoorPx0
import Derived.Test.YtgfdmaohnngpjaaDoorPx13
import Derived.Test.YtgfdmaohnngpjaaDoorHeadOne
import Derived.Outline
import Derived.StillTailTactics
import Derived.Deep.RegionHeld3
namespace Go.Proofs.YtgfdmaohnngpjaaDoor.P
open Go.RowKit Go.Proofs.YtgfdmaohnngpjaaDoorW.PrintWords Go.Proofs.YtgfdmaohnngpjaaDoorW.PrintLast Go.Proofs.YtgfdmaohnngpjaaDoorW.PrintMore
attribute [local go_sem] max2_int min2_int max_two min_two max_three min_three max_four min_four   -- for this text's walks alone
set_option linter.unusedVariables false
set_option linter.unusedSimpArgs false

/-! ### head_Trailers: function 9: given -/
/-- what trailers are, out of what a head tells -/
def trailT (h : Option (Told × ByteArray × Int)) : Int :=
  match h with
  | none => 100
  | some (T, _, _) => if T.ps > 0 then 100 else 0
def head_Trailers.f (l0 : List S32) : Option Int := if (∀ x ∈ l0, okS x) ∧ l0.length ≤ 1000000000 then some (trailT (headT l0)) else none
set_option maxRecDepth 100000
set_option maxHeartbeats 4000000 in
theorem head_Trailers.calls (A0 : Option Addr) (c0 : Nat) (l0 : List S32) (r : Int) (w : World) (hr0 : Kd.C k32 w A0 l0.length l0) (hc0 : l0.length ≤ c0) (h : head_Trailers.f l0 = some r) :
    Calls Tryd.prog 9 #[.slice A0 l0.length c0] w fun e w' => e = .returned (.int .i64 r) ∧ Below w.heap.size w w' := by
  unfold head_Trailers.f at h
  split at h
  · rename_i hok
    have h := Option.some.inj h
    cases hh : headT l0 with
    | none =>
      rw [hh] at h
      subst h
      have HC := Lib.hid (fun W hr => head_calls A0 c0 l0 W hr hc0 hok.1 hok.2 _ hh)
      have HR := Lib.hid hr0
      clear hh hok hr0 hc0
      go_enter Tryd.func9, Tryd.ntmps9
      go_wp2_with (go_at_call 12; refine (HC.out _ HR.out).mono ?_; rintro e w2 ⟨hb2, rfl⟩)
      go_ret
      exact ⟨rfl, hb2⟩
    | some q =>
      obtain ⟨T, md, ln⟩ := q
      rw [hh] at h
      have HC := Lib.hid (fun W hr => head_calls A0 c0 l0 W hr hc0 hok.1 hok.2 _ hh)
      have HR := Lib.hid hr0
      unfold trailT at h
      simp only at h
      clear hh hok hr0 hc0
      by_cases hp : T.ps > 0
      · rw [if_pos hp] at h
        subst h
        have hd : decide (0 < T.ps) = true := decide_eq_true hp
        go_enter Tryd.func9, Tryd.ntmps9
        go_wp2_with (go_at_call 12; refine (HC.out _ HR.out).mono ?_; rintro e w2 ⟨hb2, B, bm, bv, rfl, ht⟩; have HT := Lib.hid ht; clear ht; obtain ⟨t0, t1, t2, t3⟩ := HT.out.cells)
        go_ret
        exact ⟨rfl, hb2⟩
      · rw [if_neg hp] at h
        subst h
        have hd : decide (0 < T.ps) = false := decide_eq_false hp
        go_enter Tryd.func9, Tryd.ntmps9
        go_wp2_with (go_at_call 12; refine (HC.out _ HR.out).mono ?_; rintro e w2 ⟨hb2, B, bm, bv, rfl, ht⟩; have HT := Lib.hid ht; clear ht; obtain ⟨t0, t1, t2, t3⟩ := HT.out.cells)
        go_ret
        exact ⟨rfl, hb2⟩
  · cases h

end Go.Proofs.YtgfdmaohnngpjaaDoor.P
