/- What came in as a law's argument is of the kinds that the walks tell. -/
import Derived.Test.YtgfdmaohnngpjaaDoorPx0
import Derived.Test.YtgfdmaohnngpjaaDoorOpen
namespace Go.Proofs.YtgfdmaohnngpjaaDoor.P
open Go.RowKit Go.Proofs.YtgfdmaohnngpjaaDoorW.PrintWords
def ok32 (x : S32) : Prop := (x.f0.size ≤ maxLen) ∧ (x.f1.size ≤ maxLen) ∧ (True)
theorem open32 : Opens Tryd.prog 32 k32 ok32 := opens_struct Tryd.underlying32 (by kernel_rfl) (opensF_cons (opens_string Tryd.underlying9 (by kernel_rfl)) (opensF_cons (opens_string Tryd.underlying9 (by kernel_rfl)) (opensF_one (opens_bool Tryd.underlying4 (by kernel_rfl))))) _ (fun y => ⟨y.1, y.2.1, y.2.2⟩) (fun _ => rfl)
end Go.Proofs.YtgfdmaohnngpjaaDoor.P
