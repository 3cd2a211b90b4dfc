/- The law HeadOther, walked and told: it returns true. Conditions: those of a slice that came in. -/
import Derived.Test.YtgfdmaohnngpjaaDoorHeadOther2
import Derived.Test.YtgfdmaohnngpjaaDoorHOCalls
namespace Go.Proofs.YtgfdmaohnngpjaaDoor.P
open Go.RowKit Go.Proofs.YtgfdmaohnngpjaaDoorW.PrintWords
theorem run_HeadOther (w : World) (A0 : Option Addr) (c0 : Nat) (l0 : List S32) (hr0 : Kd.C k32 w A0 l0.length l0) (hc0 : l0.length ≤ c0) (_ : ∀ x ∈ l0, x.f0.size ≤ maxLen ∧ x.f1.size ≤ maxLen ∧ True)
    (a1 : ByteArray) (_ : a1.size ≤ 140737488351232) (a2 : ByteArray) (_ : a2.size ≤ 140737488351232) :
    Calls Tryd.prog 3 #[.slice A0 l0.length c0, .string a1, .string a2] w fun e w' => e = .returned (.bool true) ∧ Below w.heap.size w w' := by
  obtain ⟨k, hk⟩ := HeadOther l0 a1 a2 (by obtain ⟨_, h, _⟩ := hr0; exact h)
  exact nunciolaw20_HeadOther.calls k A0 c0 l0 a1 a2 true w hr0 hc0 hk
end Go.Proofs.YtgfdmaohnngpjaaDoor.P
