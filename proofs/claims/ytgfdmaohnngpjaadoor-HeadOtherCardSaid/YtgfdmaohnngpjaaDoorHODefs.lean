/- Functions of the program as plain functions, and the contract of each: written by a program of this session over the seat's translation. Conditions: those that each theorem names. -/
import Derived.Test.YtgfdmaohnngpjaaDoorPx0
import Derived.Test.YtgfdmaohnngpjaaDoorPx1
import Derived.Test.YtgfdmaohnngpjaaDoorPx13
import Derived.Test.YtgfdmaohnngpjaaDoorPx14
import Derived.Test.YtgfdmaohnngpjaaDoorPx16
import Derived.Test.YtgfdmaohnngpjaaDoorPx18
namespace Go.Proofs.YtgfdmaohnngpjaaDoor.P
open Go.RowKit Go.Proofs.YtgfdmaohnngpjaaDoorW.PrintWords Go.Proofs.YtgfdmaohnngpjaaDoorW.PrintLast Go.Proofs.YtgfdmaohnngpjaaDoorW.PrintMore
attribute [local go_sem] max2_int min2_int max_two min_two max_three min_three max_four min_four   -- for this text's walks alone
set_option linter.unusedVariables false
set_option linter.unusedSimpArgs false

attribute [local go_sem high] eqA26
/-! ### nunciolaw20_HeadOther: function 3 -/
mutual
def nunciolaw20_HeadOther.j0 : Nat → List (S32) → ByteArray → ByteArray → Bool → Option (Bool)
 | 0, _, _, _, _ => none
 | k + 1, x0, x1, x2, x37 => if x37 = true then (some true) else ((head_Request.f x0).bind fun bt173 => (if bt173.2.2.2.2.2.2 = 0 then ((head_Trailers.f (([(⟨x1, x2, false⟩ : S32)] : List (S32)))).bind fun t184 => (if t184 = 0 then (if x1.toList = ([99, 111, 110, 116, 101, 110, 116, 45, 116, 121, 112, 101] : List UInt8) then (nunciolaw20_HeadOther.j1 k x0 x1 x2 true bt173.1 bt173.2.1 bt173.2.2.1 bt173.2.2.2.1 bt173.2.2.2.2.1 bt173.2.2.2.2.2.1) else (nunciolaw20_HeadOther.j1 k x0 x1 x2 (x1.toList == ([99, 111, 110, 116, 101, 110, 116, 45, 108, 101, 110, 103, 116, 104] : List UInt8)) bt173.1 bt173.2.1 bt173.2.2.1 bt173.2.2.2.1 bt173.2.2.2.2.1 bt173.2.2.2.2.2.1)) else (nunciolaw20_HeadOther.j1 k x0 x1 x2 true bt173.1 bt173.2.1 bt173.2.2.1 bt173.2.2.2.1 bt173.2.2.2.2.1 bt173.2.2.2.2.2.1))) else (nunciolaw20_HeadOther.j1 k x0 x1 x2 true bt173.1 bt173.2.1 bt173.2.2.1 bt173.2.2.2.1 bt173.2.2.2.2.1 bt173.2.2.2.2.2.1)))
def nunciolaw20_HeadOther.j1 : Nat → List (S32) → ByteArray → ByteArray → Bool → ByteArray → ByteArray → ByteArray → ByteArray → Bool → Int → Option (Bool)
 | 0, _, _, _, _, _, _, _, _, _, _ => none
 | k + 1, x0, x1, x2, x60, x181000, x181001, x181002, x181003, x181004, x181005 => if x60 = true then (some true) else (nunciolaw20_HeadOther.l0 k x0 x1 x2 0 x181000 x181001 x181002 x181003 x181004 x181005)
def nunciolaw20_HeadOther.j3 : Nat → List (S32) → ByteArray → ByteArray → Int → ByteArray → ByteArray → ByteArray → ByteArray → Bool → Int → Option (Bool)
 | 0, _, _, _, _, _, _, _, _, _, _ => none
 | k + 1, x0, x1, x2, x9, x181000, x181001, x181002, x181003, x181004, x181005 => (some (([] : List (S32)) : List (S32))).bind fun y187 => (if y187.length + x0.length < 3518437208883 then ((some (y187 ++ x0 : List (S32))).bind fun y190 => ((some (([(⟨x1, x2, false⟩ : S32)] : List (S32)) : List (S32))).bind fun y193 => (if y190.length + y193.length < 3518437208883 then ((head_Request.f (y190 ++ y193)).bind fun bt199 => ((some (([] : List (S32)) : List (S32))).bind fun y207 => (if 0 ≤ x9 then (if x9 ≤ (x0.length : Int) then ((some (x0.take (x9 : Int).toNat : List (S32))).bind fun y210 => (if y207.length + y210.length < 3518437208883 then ((some (y207 ++ y210 : List (S32))).bind fun y214 => ((some (([(⟨x1, x2, false⟩ : S32)] : List (S32)) : List (S32))).bind fun y217 => (if y214.length + y217.length < 3518437208883 then ((some (y214 ++ y217 : List (S32))).bind fun y220 => ((some (x0.drop (x9 : Int).toNat : List (S32))).bind fun y223 => (if y220.length + y223.length < 3518437208883 then ((head_Request.f (y220 ++ y223)).bind fun bt230 => ((some (x0.take (x9 : Int).toNat : List (S32))).bind fun y238 => (if ([] : List (S32)).length + y238.length < 3518437208883 then (nunciolaw20_HeadOther.l1 k x0 x9 bt199.2.2.2.2.2.2 bt230.2.2.2.2.2.2 (([] : List (S32)) ++ y238) (wrap64 ((x0.length : Int) - 1)) x181000 x181001 x181002 x181003 x181004 x181005 bt199.1 bt199.2.1 bt199.2.2.1 bt199.2.2.2.1 bt199.2.2.2.2.1 bt199.2.2.2.2.2.1 bt230.1 bt230.2.1 bt230.2.2.1 bt230.2.2.2.1 bt230.2.2.2.2.1 bt230.2.2.2.2.2.1) else (none)))) else (none)))) else (none)))) else (none))) else (none)) else (none)))) else (none)))) else (none))
def nunciolaw20_HeadOther.l1 : Nat → List (S32) → Int → Int → Int → List (S32) → Int → ByteArray → ByteArray → ByteArray → ByteArray → Bool → Int → ByteArray → ByteArray → ByteArray → ByteArray → Bool → Int → ByteArray → ByteArray → ByteArray → ByteArray → Bool → Int → Option (Bool)
 | 0, _, _, _, _, _, _, _, _, _, _, _, _, _, _, _, _, _, _, _, _, _, _, _, _ => none
 | k + 1, x0, x9, x11, x13, x14, x15, x181000, x181001, x181002, x181003, x181004, x181005, x207000, x207001, x207002, x207003, x207004, x207005, x238000, x238001, x238002, x238003, x238004, x238005 => if x15 ≥ x9 then (if 0 ≤ x15 then (if x15 < (x0.length : Int) then ((some (([(⟨(rd_T32 x0 x15).f0, (rd_T32 x0 x15).f1, (rd_T32 x0 x15).f2⟩ : S32)] : List (S32)) : List (S32))).bind fun y246 => (if x14.length + y246.length < 3518437208883 then (nunciolaw20_HeadOther.l1 k x0 x9 x11 x13 (x14 ++ y246) (wrap64 (x15 - 1)) x181000 x181001 x181002 x181003 x181004 x181005 x207000 x207001 x207002 x207003 x207004 x207005 x238000 x238001 x238002 x238003 x238004 x238005) else (none))) else (none)) else (none)) else ((head_Request.f x14).bind fun bt252 => (if (x207000.toList == x181000.toList && (x207001.toList == x181001.toList && (x207002.toList == x181002.toList && (x207003.toList == x181003.toList && (x207004 == x181004 && (x207005 == x181005)))))) = true then (if (x238000.toList == x181000.toList && (x238001.toList == x181001.toList && (x238002.toList == x181002.toList && (x238003.toList == x181003.toList && (x238004 == x181004 && (x238005 == x181005)))))) = true then (if (bt252.1.toList == x181000.toList && (bt252.2.1.toList == x181001.toList && (bt252.2.2.1.toList == x181002.toList && (bt252.2.2.2.1.toList == x181003.toList && (bt252.2.2.2.2.1 == x181004 && (bt252.2.2.2.2.2.1 == x181005)))))) = true then (if x11 = 0 then (if x13 = 0 then (some (bt252.2.2.2.2.2.2 == 0)) else (none)) else (none)) else (none)) else (none)) else (none)))
def nunciolaw20_HeadOther.l0 : Nat → List (S32) → ByteArray → ByteArray → Int → ByteArray → ByteArray → ByteArray → ByteArray → Bool → Int → Option (Bool)
 | 0, _, _, _, _, _, _, _, _, _, _ => none
 | k + 1, x0, x1, x2, x9, x181000, x181001, x181002, x181003, x181004, x181005 => if x9 < (x0.length : Int) then (if 0 ≤ x9 then (if (((rd_T32 x0 x9).f0).size : Int) > 0 then (if 0 < (((rd_T32 x0 x9).f0).size : Int) then (if (bt ((rd_T32 x0 x9).f0) 0) = 58 then (nunciolaw20_HeadOther.l0 k x0 x1 x2 (wrap64 (x9 + 1)) x181000 x181001 x181002 x181003 x181004 x181005) else (nunciolaw20_HeadOther.j3 k x0 x1 x2 x9 x181000 x181001 x181002 x181003 x181004 x181005)) else (none)) else (nunciolaw20_HeadOther.j3 k x0 x1 x2 x9 x181000 x181001 x181002 x181003 x181004 x181005)) else (none)) else (nunciolaw20_HeadOther.j3 k x0 x1 x2 x9 x181000 x181001 x181002 x181003 x181004 x181005)
end
def nunciolaw20_HeadOther.f (k : Nat) (l0 : List (S32)) (a1 : ByteArray) (a2 : ByteArray) : Option (Bool) := (nunciolaw20_awake.f).bind fun t171 => (if t171 = true then ((nunciolaw13_FewFields.f k l0).bind fun t172 => (if t172 = true then (if (l0.length : Int) > 200 then (nunciolaw20_HeadOther.j0 k l0 a1 a2 true) else (if (a1.size : Int) > 3000 then (nunciolaw20_HeadOther.j0 k l0 a1 a2 true) else (nunciolaw20_HeadOther.j0 k l0 a1 a2 (decide ((a2.size : Int) > 3000))))) else (nunciolaw20_HeadOther.j0 k l0 a1 a2 true))) else (none))
theorem nunciolaw20_HeadOther.mono_l : ∀ k, (∀ y0 y1 y2 y3, LeO (nunciolaw20_HeadOther.j0 k y0 y1 y2 y3) (nunciolaw20_HeadOther.j0 (k + 1) y0 y1 y2 y3)) ∧ (∀ y0 y1 y2 y3 y4 y5 y6 y7 y8 y9, LeO (nunciolaw20_HeadOther.j1 k y0 y1 y2 y3 y4 y5 y6 y7 y8 y9) (nunciolaw20_HeadOther.j1 (k + 1) y0 y1 y2 y3 y4 y5 y6 y7 y8 y9)) ∧ (∀ y0 y1 y2 y3 y4 y5 y6 y7 y8 y9, LeO (nunciolaw20_HeadOther.j3 k y0 y1 y2 y3 y4 y5 y6 y7 y8 y9) (nunciolaw20_HeadOther.j3 (k + 1) y0 y1 y2 y3 y4 y5 y6 y7 y8 y9)) ∧ (∀ y0 y1 y2 y3 y4 y5 y6 y7 y8 y9 y10 y11 y12 y13 y14 y15 y16 y17 y18 y19 y20 y21 y22 y23, LeO (nunciolaw20_HeadOther.l1 k y0 y1 y2 y3 y4 y5 y6 y7 y8 y9 y10 y11 y12 y13 y14 y15 y16 y17 y18 y19 y20 y21 y22 y23) (nunciolaw20_HeadOther.l1 (k + 1) y0 y1 y2 y3 y4 y5 y6 y7 y8 y9 y10 y11 y12 y13 y14 y15 y16 y17 y18 y19 y20 y21 y22 y23)) ∧ (∀ y0 y1 y2 y3 y4 y5 y6 y7 y8 y9, LeO (nunciolaw20_HeadOther.l0 k y0 y1 y2 y3 y4 y5 y6 y7 y8 y9) (nunciolaw20_HeadOther.l0 (k + 1) y0 y1 y2 y3 y4 y5 y6 y7 y8 y9))
 | 0 => ⟨fun _ _ _ _ r h => by simp [nunciolaw20_HeadOther.j0] at h, fun _ _ _ _ _ _ _ _ _ _ r h => by simp [nunciolaw20_HeadOther.j1] at h, fun _ _ _ _ _ _ _ _ _ _ r h => by simp [nunciolaw20_HeadOther.j3] at h, fun _ _ _ _ _ _ _ _ _ _ _ _ _ _ _ _ _ _ _ _ _ _ _ _ r h => by simp [nunciolaw20_HeadOther.l1] at h, fun _ _ _ _ _ _ _ _ _ _ r h => by simp [nunciolaw20_HeadOther.l0] at h⟩
 | k + 1 => by
  obtain ⟨ih0, ih1, ih2, ih3, ih4⟩ := nunciolaw20_HeadOther.mono_l k
  refine ⟨?_, ?_, ?_, ?_, ?_⟩
  ·intro y0 y1 y2 y3
   unfold nunciolaw20_HeadOther.j0
   repeat' first
   | (with_reducible exact ih0 _ _ _ _)
   | (with_reducible exact ih1 _ _ _ _ _ _ _ _ _ _)
   | (with_reducible exact ih2 _ _ _ _ _ _ _ _ _ _)
   | (with_reducible exact ih3 _ _ _ _ _ _ _ _ _ _ _ _ _ _ _ _ _ _ _ _ _ _ _ _)
   | (with_reducible exact ih4 _ _ _ _ _ _ _ _ _ _)
   | (with_reducible exact nunciolaw13_FewFields.mono _ _)
   | (with_reducible exact LeO.refl _)
   | (with_reducible exact LeO.none _)
   | (with_reducible refine LeO.ite ?_ ?_)
   | (with_reducible refine LeO.bind ?_ (fun _ => ?_))
   | exact ih0 _ _ _ _
   | exact ih1 _ _ _ _ _ _ _ _ _ _
   | exact ih2 _ _ _ _ _ _ _ _ _ _
   | exact ih3 _ _ _ _ _ _ _ _ _ _ _ _ _ _ _ _ _ _ _ _ _ _ _ _
   | exact ih4 _ _ _ _ _ _ _ _ _ _
   | exact nunciolaw13_FewFields.mono _ _
   | exact LeO.none _
   | refine LeO.ite ?_ ?_
   | refine LeO.bind ?_ (fun _ => ?_)
  ·intro y0 y1 y2 y3 y4 y5 y6 y7 y8 y9
   unfold nunciolaw20_HeadOther.j1
   repeat' first
   | (with_reducible exact ih0 _ _ _ _)
   | (with_reducible exact ih1 _ _ _ _ _ _ _ _ _ _)
   | (with_reducible exact ih2 _ _ _ _ _ _ _ _ _ _)
   | (with_reducible exact ih3 _ _ _ _ _ _ _ _ _ _ _ _ _ _ _ _ _ _ _ _ _ _ _ _)
   | (with_reducible exact ih4 _ _ _ _ _ _ _ _ _ _)
   | (with_reducible exact nunciolaw13_FewFields.mono _ _)
   | (with_reducible exact LeO.refl _)
   | (with_reducible exact LeO.none _)
   | (with_reducible refine LeO.ite ?_ ?_)
   | (with_reducible refine LeO.bind ?_ (fun _ => ?_))
   | exact ih0 _ _ _ _
   | exact ih1 _ _ _ _ _ _ _ _ _ _
   | exact ih2 _ _ _ _ _ _ _ _ _ _
   | exact ih3 _ _ _ _ _ _ _ _ _ _ _ _ _ _ _ _ _ _ _ _ _ _ _ _
   | exact ih4 _ _ _ _ _ _ _ _ _ _
   | exact nunciolaw13_FewFields.mono _ _
   | exact LeO.none _
   | refine LeO.ite ?_ ?_
   | refine LeO.bind ?_ (fun _ => ?_)
  ·intro y0 y1 y2 y3 y4 y5 y6 y7 y8 y9
   unfold nunciolaw20_HeadOther.j3
   repeat' first
   | (with_reducible exact ih0 _ _ _ _)
   | (with_reducible exact ih1 _ _ _ _ _ _ _ _ _ _)
   | (with_reducible exact ih2 _ _ _ _ _ _ _ _ _ _)
   | (with_reducible exact ih3 _ _ _ _ _ _ _ _ _ _ _ _ _ _ _ _ _ _ _ _ _ _ _ _)
   | (with_reducible exact ih4 _ _ _ _ _ _ _ _ _ _)
   | (with_reducible exact nunciolaw13_FewFields.mono _ _)
   | (with_reducible exact LeO.refl _)
   | (with_reducible exact LeO.none _)
   | (with_reducible refine LeO.ite ?_ ?_)
   | (with_reducible refine LeO.bind ?_ (fun _ => ?_))
   | exact ih0 _ _ _ _
   | exact ih1 _ _ _ _ _ _ _ _ _ _
   | exact ih2 _ _ _ _ _ _ _ _ _ _
   | exact ih3 _ _ _ _ _ _ _ _ _ _ _ _ _ _ _ _ _ _ _ _ _ _ _ _
   | exact ih4 _ _ _ _ _ _ _ _ _ _
   | exact nunciolaw13_FewFields.mono _ _
   | exact LeO.none _
   | refine LeO.ite ?_ ?_
   | refine LeO.bind ?_ (fun _ => ?_)
  ·intro y0 y1 y2 y3 y4 y5 y6 y7 y8 y9 y10 y11 y12 y13 y14 y15 y16 y17 y18 y19 y20 y21 y22 y23
   unfold nunciolaw20_HeadOther.l1
   repeat' first
   | (with_reducible exact ih0 _ _ _ _)
   | (with_reducible exact ih1 _ _ _ _ _ _ _ _ _ _)
   | (with_reducible exact ih2 _ _ _ _ _ _ _ _ _ _)
   | (with_reducible exact ih3 _ _ _ _ _ _ _ _ _ _ _ _ _ _ _ _ _ _ _ _ _ _ _ _)
   | (with_reducible exact ih4 _ _ _ _ _ _ _ _ _ _)
   | (with_reducible exact nunciolaw13_FewFields.mono _ _)
   | (with_reducible exact LeO.refl _)
   | (with_reducible exact LeO.none _)
   | (with_reducible refine LeO.ite ?_ ?_)
   | (with_reducible refine LeO.bind ?_ (fun _ => ?_))
   | exact ih0 _ _ _ _
   | exact ih1 _ _ _ _ _ _ _ _ _ _
   | exact ih2 _ _ _ _ _ _ _ _ _ _
   | exact ih3 _ _ _ _ _ _ _ _ _ _ _ _ _ _ _ _ _ _ _ _ _ _ _ _
   | exact ih4 _ _ _ _ _ _ _ _ _ _
   | exact nunciolaw13_FewFields.mono _ _
   | exact LeO.none _
   | refine LeO.ite ?_ ?_
   | refine LeO.bind ?_ (fun _ => ?_)
  ·intro y0 y1 y2 y3 y4 y5 y6 y7 y8 y9
   unfold nunciolaw20_HeadOther.l0
   repeat' first
   | (with_reducible exact ih0 _ _ _ _)
   | (with_reducible exact ih1 _ _ _ _ _ _ _ _ _ _)
   | (with_reducible exact ih2 _ _ _ _ _ _ _ _ _ _)
   | (with_reducible exact ih3 _ _ _ _ _ _ _ _ _ _ _ _ _ _ _ _ _ _ _ _ _ _ _ _)
   | (with_reducible exact ih4 _ _ _ _ _ _ _ _ _ _)
   | (with_reducible exact nunciolaw13_FewFields.mono _ _)
   | (with_reducible exact LeO.refl _)
   | (with_reducible exact LeO.none _)
   | (with_reducible refine LeO.ite ?_ ?_)
   | (with_reducible refine LeO.bind ?_ (fun _ => ?_))
   | exact ih0 _ _ _ _
   | exact ih1 _ _ _ _ _ _ _ _ _ _
   | exact ih2 _ _ _ _ _ _ _ _ _ _
   | exact ih3 _ _ _ _ _ _ _ _ _ _ _ _ _ _ _ _ _ _ _ _ _ _ _ _
   | exact ih4 _ _ _ _ _ _ _ _ _ _
   | exact nunciolaw13_FewFields.mono _ _
   | exact LeO.none _
   | refine LeO.ite ?_ ?_
   | refine LeO.bind ?_ (fun _ => ?_)
theorem nunciolaw20_HeadOther.mono : ∀ a0 a1 a2 k, LeO (nunciolaw20_HeadOther.f k a0 a1 a2) (nunciolaw20_HeadOther.f (k + 1) a0 a1 a2) := by
 intro a0 a1 a2 k
 obtain ⟨ih0, ih1, ih2, ih3, ih4⟩ := nunciolaw20_HeadOther.mono_l k
 unfold nunciolaw20_HeadOther.f
 repeat' first
   | (with_reducible exact ih0 _ _ _ _)
   | (with_reducible exact ih1 _ _ _ _ _ _ _ _ _ _)
   | (with_reducible exact ih2 _ _ _ _ _ _ _ _ _ _)
   | (with_reducible exact ih3 _ _ _ _ _ _ _ _ _ _ _ _ _ _ _ _ _ _ _ _ _ _ _ _)
   | (with_reducible exact ih4 _ _ _ _ _ _ _ _ _ _)
   | (with_reducible exact nunciolaw13_FewFields.mono _ _)
   | (with_reducible exact LeO.refl _)
   | (with_reducible exact LeO.none _)
   | (with_reducible refine LeO.ite ?_ ?_)
   | (with_reducible refine LeO.bind ?_ (fun _ => ?_))
   | exact ih0 _ _ _ _
   | exact ih1 _ _ _ _ _ _ _ _ _ _
   | exact ih2 _ _ _ _ _ _ _ _ _ _
   | exact ih3 _ _ _ _ _ _ _ _ _ _ _ _ _ _ _ _ _ _ _ _ _ _ _ _
   | exact ih4 _ _ _ _ _ _ _ _ _ _
   | exact nunciolaw13_FewFields.mono _ _
   | exact LeO.none _
   | refine LeO.ite ?_ ?_
   | refine LeO.bind ?_ (fun _ => ?_)
def nunciolaw20_HeadOther.T12 : Bool × List (List Nat × List Nat) := (true, [([], []), ([], []), ([], []), ([1, 2], [1, 2]), ([0, 3], [0, 3]), ([], []), ([], []), ([5, 6], [5, 6]), ([7], [7]), ([4, 8, 4], [4, 8]), ([], []), ([], []), ([10, 11], [10, 11]), ([9, 12, 9], [9, 12]), ([13, 13], [13]), ([14], [14]), ([15], [15]), ([15], [15]), ([], []), ([18, 16, 14, 0, 1, 2, 3, 4, 5, 6, 7, 8, 9, 10, 11, 12, 13, 14, 15, 16, 18], [16, 18]), ([17, 19, 0, 1, 2, 3, 4, 5, 6, 7, 8, 9, 10, 11, 12, 13, 14, 15, 16, 17, 18, 19], [17])])
def nunciolaw20_HeadOther.B12 : List Nat := [0, 0, 0, 6, 15, 0, 0, 96, 224, 511, 0, 0, 3072, 8191, 16383, 32767, 65535, 65535, 0, 393215, 1048575]
theorem nunciolaw20_HeadOther.tab12 : rtab .any (opsOf Tryd.f3 12) = nunciolaw20_HeadOther.T12 := by kernel_rfl
theorem nunciolaw20_HeadOther.bits12 : waitsOk nunciolaw20_HeadOther.T12.2 nunciolaw20_HeadOther.B12 = true := by kernel_rfl
theorem upR {p q : Prop} (h : Aside0 p) (f : p → q := by intro h_; (with_reducible repeat (first | apply Kd.R_alloc | apply Kd.R_drewN | apply Kd.R_drew)); exact h_) : q := f h.out
theorem upK {p q : Prop} (h : Aside0 p) (f : p → q := by intro h_; (with_reducible repeat (first | refine blk_drewN ?_ _ | refine blk_drew ?_ | refine blk_alloc ?_ _)); exact h_) : q := f h.out
theorem upB {p q : Prop} (h : Aside0 p) (f : p → q := by intro h_; repeat (first | (with_reducible first | exact h_ | apply below_alloc | apply pw_below_drewN | apply below_drew1 | refine below_set ?_ (Aside0.out (by assumption))) | exact h_)) : q := f h.out
def fromRegion (n : Nat) : Code → Option Code
  | .seq a b => match fromRegion n a with
    | some c => some (.seq c b)
    | none => fromRegion n b
  | .region m ops d => if m = n then some (.region m ops d) else none
  | .block _ c => fromRegion n c
  | .scope c => fromRegion n c
  | _ => none
end Go.Proofs.YtgfdmaohnngpjaaDoor.P
