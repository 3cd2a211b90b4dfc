/- Functions of the program as plain functions, and the contract of each: written by a program of this session over the seat's translation. Conditions: those that each theorem names. -/
import Derived.Test.YtgfdmaohnngpjaaDoorPx0
import Derived.Test.YtgfdmaohnngpjaaDoorPx13
import Derived.Test.YtgfdmaohnngpjaaDoorPx16
import Derived.Test.YtgfdmaohnngpjaaDoorPx18
namespace Go.Proofs.YtgfdmaohnngpjaaDoor.P
open Go.RowKit Go.Proofs.YtgfdmaohnngpjaaDoorW.PrintWords Go.Proofs.YtgfdmaohnngpjaaDoorW.PrintLast Go.Proofs.YtgfdmaohnngpjaaDoorW.PrintMore
attribute [local go_sem] max2_int min2_int max_two min_two max_three min_three max_four min_four   -- for this text's walks alone
set_option linter.unusedVariables false
set_option linter.unusedSimpArgs false

/-! ### HW: function 4 -/
mutual
def HW.j0 : Nat → List (S32) → Int → Bool → Option (Bool)
 | 0, _, _, _ => none
 | k + 1, x0, x1, x24 => if x24 = true then (some true) else ((head_Request.f x0).bind fun bt262 => (if bt262.2.2.2.2.2.2 = 0 then (HW.l0 k x0 x1 (([(⟨⟨#[88]⟩, ⟨#[121]⟩, false⟩ : S32), (⟨⟨#[99, 111, 110, 110, 101, 99, 116, 105, 111, 110]⟩, ⟨#[99, 108, 111, 115, 101]⟩, false⟩ : S32), (⟨⟨#[116, 101]⟩, ⟨#[103, 122, 105, 112]⟩, false⟩ : S32), (⟨⟨#[120]⟩, ⟨#[32, 121]⟩, false⟩ : S32), (⟨⟨#[]⟩, ⟨#[121]⟩, false⟩ : S32), (⟨⟨#[116, 114, 97, 110, 115, 102, 101, 114, 45, 101, 110, 99, 111, 100, 105, 110, 103]⟩, ⟨#[99, 104, 117, 110, 107, 101, 100]⟩, false⟩ : S32), (⟨⟨#[99, 111, 110, 116, 101, 110, 116, 45, 108, 101, 110, 103, 116, 104]⟩, ⟨#[48, 49]⟩, false⟩ : S32), (⟨⟨#[58, 111, 116, 104, 101, 114]⟩, ⟨#[121]⟩, false⟩ : S32), (⟨⟨#[58, 109, 101, 116, 104, 111, 100]⟩, ⟨#[71, 69, 84]⟩, false⟩ : S32), (⟨⟨#[120, 32, 121]⟩, ⟨#[122]⟩, false⟩ : S32)] : List (S32))) 0) else (some true)))
def HW.l0 : Nat → List (S32) → Int → List (S32) → Int → Option (Bool)
 | 0, _, _, _, _ => none
 | k + 1, x0, x1, x7, x8 => if x8 < (x7.length : Int) then ((some (([] : List (S32)) : List (S32))).bind fun y273 => (if y273.length + x0.length < 3518437208883 then ((some (y273 ++ x0 : List (S32))).bind fun y276 => (if 0 ≤ x8 then ((some (([(⟨(rd_T32 x7 x8).f0, (rd_T32 x7 x8).f1, (rd_T32 x7 x8).f2⟩ : S32)] : List (S32)) : List (S32))).bind fun y280 => (if y276.length + y280.length < 3518437208883 then ((head_Request.f (y276 ++ y280)).bind fun bt286 => (if bt286.2.2.2.2.2.2 = 100 then (if bt286.1.toList = ([] : List UInt8) then (HW.l0 k x0 x1 x7 (wrap64 (x8 + 1))) else (none)) else (none))) else (none))) else (none))) else (none))) else (if x1 < 0 then (some true) else (if x1 ≥ (x0.length : Int) then (some true) else ((some (([] : List (S32)) : List (S32))).bind fun y294 => (if y294.length + x0.length < 3518437208883 then ((some (y294 ++ x0 : List (S32))).bind fun y297 => (if 0 ≤ x1 then (if x1 < (x0.length : Int) then ((some (([(⟨(rd_T32 x0 x1).f0, (rd_T32 x0 x1).f1, (rd_T32 x0 x1).f2⟩ : S32)] : List (S32)) : List (S32))).bind fun y301 => (if y297.length + y301.length < 3518437208883 then ((head_Request.f (y297 ++ y301)).bind fun bt307 => (if bt307.2.2.2.2.2.2 = 100 then (some true) else (if 0 < (((rd_T32 x0 x1).f0).size : Int) then (if (bt ((rd_T32 x0 x1).f0) 0) = 58 then (none) else (if ((rd_T32 x0 x1).f0).toList = ([99, 111, 110, 116, 101, 110, 116, 45, 108, 101, 110, 103, 116, 104] : List UInt8) then (none) else (some (((rd_T32 x0 x1).f0).toList != ([99, 111, 110, 116, 101, 110, 116, 45, 116, 121, 112, 101] : List UInt8))))) else (none)))) else (none))) else (none)) else (none))) else (none)))))
end
def HW.f (k : Nat) (l0 : List (S32)) (a1 : Int) : Option (Bool) := (nunciolaw20_awake.f).bind fun t260 => (if t260 = true then ((nunciolaw13_FewFields.f k l0).bind fun t261 => (if t261 = true then (HW.j0 k l0 a1 (decide ((l0.length : Int) > 200))) else (HW.j0 k l0 a1 true))) else (none))
theorem HW.mono_l : ∀ k, (∀ y0 y1 y2, LeO (HW.j0 k y0 y1 y2) (HW.j0 (k + 1) y0 y1 y2)) ∧ (∀ y0 y1 y2 y3, LeO (HW.l0 k y0 y1 y2 y3) (HW.l0 (k + 1) y0 y1 y2 y3))
 | 0 => ⟨fun _ _ _ r h => by simp [HW.j0] at h, fun _ _ _ _ r h => by simp [HW.l0] at h⟩
 | k + 1 => by
  obtain ⟨ih0, ih1⟩ := HW.mono_l k
  refine ⟨?_, ?_⟩
  ·intro y0 y1 y2
   unfold HW.j0
   repeat' first
   | (with_reducible exact ih0 _ _ _)
   | (with_reducible exact ih1 _ _ _ _)
   | (with_reducible exact nunciolaw13_FewFields.mono _ _)
   | (with_reducible exact LeO.refl _)
   | (with_reducible exact LeO.none _)
   | (with_reducible refine LeO.ite ?_ ?_)
   | (with_reducible refine LeO.bind ?_ (fun _ => ?_))
   | exact ih0 _ _ _
   | exact ih1 _ _ _ _
   | exact nunciolaw13_FewFields.mono _ _
   | exact LeO.none _
   | refine LeO.ite ?_ ?_
   | refine LeO.bind ?_ (fun _ => ?_)
  ·intro y0 y1 y2 y3
   unfold HW.l0
   repeat' first
   | (with_reducible exact ih0 _ _ _)
   | (with_reducible exact ih1 _ _ _ _)
   | (with_reducible exact nunciolaw13_FewFields.mono _ _)
   | (with_reducible exact LeO.refl _)
   | (with_reducible exact LeO.none _)
   | (with_reducible refine LeO.ite ?_ ?_)
   | (with_reducible refine LeO.bind ?_ (fun _ => ?_))
   | exact ih0 _ _ _
   | exact ih1 _ _ _ _
   | exact nunciolaw13_FewFields.mono _ _
   | exact LeO.none _
   | refine LeO.ite ?_ ?_
   | refine LeO.bind ?_ (fun _ => ?_)
theorem HW.mono : ∀ a0 a1 k, LeO (HW.f k a0 a1) (HW.f (k + 1) a0 a1) := by
 intro a0 a1 k
 obtain ⟨ih0, ih1⟩ := HW.mono_l k
 unfold HW.f
 repeat' first
   | (with_reducible exact ih0 _ _ _)
   | (with_reducible exact ih1 _ _ _ _)
   | (with_reducible exact nunciolaw13_FewFields.mono _ _)
   | (with_reducible exact LeO.refl _)
   | (with_reducible exact LeO.none _)
   | (with_reducible refine LeO.ite ?_ ?_)
   | (with_reducible refine LeO.bind ?_ (fun _ => ?_))
   | exact ih0 _ _ _
   | exact ih1 _ _ _ _
   | exact nunciolaw13_FewFields.mono _ _
   | exact LeO.none _
   | refine LeO.ite ?_ ?_
   | refine LeO.bind ?_ (fun _ => ?_)
def HW.T12 : Bool × List (List Nat × List Nat) := (true, [([], []), ([], []), ([0, 1], [0, 1]), ([], []), ([], []), ([3, 4], [3, 4]), ([5], [5]), ([6], [6]), ([2, 7, 2], [2, 7]), ([8, 8], [8]), ([9], [9]), ([10], [10]), ([10], [10]), ([], []), ([13, 11, 9, 0, 1, 2, 3, 4, 5, 6, 7, 8, 9, 10, 11, 13], [11, 13]), ([12, 14, 0, 1, 2, 3, 4, 5, 6, 7, 8, 9, 10, 11, 12, 13, 14], [12])])
def HW.B12 : List Nat := [0, 0, 3, 0, 0, 24, 56, 120, 255, 511, 1023, 2047, 2047, 0, 12287, 32767]
theorem HW.tab12 : rtab .any (opsOf Tryd.f4 12) = HW.T12 := by kernel_rfl
theorem HW.bits12 : waitsOk HW.T12.2 HW.B12 = true := by kernel_rfl
def HW.T17 : Bool × List (List Nat × List Nat) := (true, [([], []), ([], []), ([0, 1], [0, 1]), ([], []), ([], []), ([3, 4], [3, 4]), ([5], [5]), ([6], [6]), ([2, 7, 2], [2, 7]), ([8, 8, 0, 1, 2, 3, 4, 5, 6, 7, 8], [8])])
def HW.B17 : List Nat := [0, 0, 3, 0, 0, 24, 56, 120, 255, 511]
theorem HW.tab17 : rtab .any (opsOf Tryd.f4 17) = HW.T17 := by kernel_rfl
theorem HW.bits17 : waitsOk HW.T17.2 HW.B17 = true := by kernel_rfl
theorem wR {p q : Prop} (h : Aside0 p) (f : p → q := by intro h_; (with_reducible repeat (first | apply Kd.R_alloc | apply Kd.R_drewN | apply Kd.R_drew)); exact h_) : q := f h.out
theorem wK {p q : Prop} (h : Aside0 p) (f : p → q := by intro h_; (with_reducible repeat (first | refine blk_drewN ?_ _ | refine blk_drew ?_ | refine blk_alloc ?_ _)); exact h_) : q := f h.out
theorem wB {p q : Prop} (h : Aside0 p) (f : p → q := by intro h_; repeat (first | (with_reducible first | exact h_ | apply below_alloc | apply pw_below_drewN | apply below_drew1 | refine below_set ?_ (Aside0.out (by assumption))) | exact h_)) : q := f h.out
end Go.Proofs.YtgfdmaohnngpjaaDoor.P
