/- What the program's package-level tables hold: a fact of a world, that stays behind whatever leaves old memory alone. -/
import Derived.Test.YtgfdmaohnngpjaaDoorProg
import Derived.Test.YtgfdmaohnngpjaaDoorWWords
import Derived.Lib.LaidTab
import Derived.Lib.ItoaNum
namespace Go.Proofs.YtgfdmaohnngpjaaDoor.P
open Go.RowKit Go.Proofs.YtgfdmaohnngpjaaDoorW.PrintWords
/-- strconv's table of powers lies as its initialiser lays it. -/
def Glob (w : World) : Prop := Lib.TabIs Tryd.prog w "internal/strconv.uint64pow10" .u64 Lib.pow10Tab
theorem Glob.below {B : Nat} {w w' : World} (h : Aside0 (Glob w)) (hB : B = w.heap.size) (hb : Below B w w') : Aside0 (Glob w') := by
  subst hB
  refine ⟨?_⟩
  have h := h.out
  unfold Glob Lib.TabIs World.var? at h ⊢
  cases hg : Tryd.prog.globalNamed "internal/strconv.uint64pow10" with
  | none => simp [hg] at h
  | some g =>
    simp only [hg, Option.bind_some] at h ⊢
    have hlt : g < w.heap.size := by
      rcases Nat.lt_or_ge g w.heap.size with h' | h'
      · exact h'
      · simp [Array.getElem?_eq_none h'] at h
    rw [hb.block g hlt]
    exact h
theorem Glob.drawn {w w' : World} (h : Aside0 (Glob w)) (hb : Drawn0 w w') : Aside0 (Glob w') := Glob.below h rfl hb.below
end Go.Proofs.YtgfdmaohnngpjaaDoor.P
