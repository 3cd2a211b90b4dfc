/- The law HeadWrong, walked and told: it returns true. Conditions: those of a slice that came in. -/
import Derived.Test.YtgfdmaohnngpjaaDoorHeadWrong
import Derived.Test.YtgfdmaohnngpjaaDoorHWCalls
namespace Go.Proofs.YtgfdmaohnngpjaaDoor.P
open Go.RowKit Go.Proofs.YtgfdmaohnngpjaaDoorW.PrintWords
theorem run_HeadWrong (w : World) (A0 : Option Addr) (c0 : Nat) (l0 : List S32) (hr0 : Kd.C k32 w A0 l0.length l0) (hc0 : l0.length ≤ c0) (_ : ∀ x ∈ l0, x.f0.size ≤ maxLen ∧ x.f1.size ≤ maxLen ∧ True)
    (a1 : Int) (_ : (Lit.int .i64 a1).wf = true) :
    Calls Tryd.prog 4 #[.slice A0 l0.length c0, .int .i64 a1] w fun e w' => e = .returned (.bool true) ∧ Below w.heap.size w w' := by
  obtain ⟨k, hk⟩ := HeadWrong l0 a1 (by obtain ⟨_, h, _⟩ := hr0; exact h)
  exact HW.calls k A0 c0 l0 a1 true w hr0 hc0 hk
end Go.Proofs.YtgfdmaohnngpjaaDoor.P
