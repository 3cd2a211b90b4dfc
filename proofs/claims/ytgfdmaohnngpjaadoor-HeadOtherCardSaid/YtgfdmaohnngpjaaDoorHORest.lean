/- The law HeadOther's walk, from the count of the pseudo-fields on. Conditions: those that the theorem names. -/
import Derived.Test.YtgfdmaohnngpjaaDoorPx0
import Derived.Test.YtgfdmaohnngpjaaDoorPx1
import Derived.Test.YtgfdmaohnngpjaaDoorPx13
import Derived.Test.YtgfdmaohnngpjaaDoorPx14
import Derived.Test.YtgfdmaohnngpjaaDoorPx16
import Derived.Test.YtgfdmaohnngpjaaDoorPx18
import Derived.Test.YtgfdmaohnngpjaaDoorHODefs
namespace Go.Proofs.YtgfdmaohnngpjaaDoor.P
open Go.RowKit Go.Proofs.YtgfdmaohnngpjaaDoorW.PrintWords Go.Proofs.YtgfdmaohnngpjaaDoorW.PrintLast Go.Proofs.YtgfdmaohnngpjaaDoorW.PrintMore
attribute [local go_sem] max2_int min2_int max_two min_two max_three min_three max_four min_four   -- for this text's walks alone
set_option linter.unusedVariables false
set_option linter.unusedSimpArgs false

attribute [local go_sem high] eqA26
set_option maxRecDepth 100000 in
set_option maxHeartbeats 100000000 in
theorem nunciolaw20_HeadOther.rest (k : Nat) (A0 : Option Addr) (c0 : Nat) (l0 : List S32) (a1 a2 : ByteArray) (r : Bool) (w : World) (HR0 : Aside0 (Kd.C k32 w A0 l0.length l0)) (HC0 : Aside0 (l0.length ≤ c0)) (kj5 : Nat) (HJ5 : Aside0 (kj5 + 1 ≤ k)) (t173 t174 t175 t176 : ByteArray) (t177 : Bool) (t178 t179 : Int) (gb180 : Nat) (GE180 : Aside0 (w.heap.size ≤ gb180)) (kj17 : Nat) (HJ17 : Aside0 (kj17 + 1 ≤ kj5)) (u18 u19 u20 u21 u22 u23 u24 u25 u26 u27 u28 u29 u30 u31 u32 u33 u34 u35 u36 u37 u38 u39 u40 u41 u42 u43 u44 u45 u46 u47 u48 u49 u50 u51 u52 u53 u54 u55 u56 u57 u58 u59 u61 u62 u63 u64 u65 u66 u67 u68 u69 u70 u71 u72 u73 u74 u75 u76 u77 u78 u79 u80 u81 u82 u83 u84 u85 u86 u87 u88 u89 u90 u91 u92 u93 u94 u95 u96 u97 u98 u99 u100 u101 u102 u103 u104 u105 u106 u107 u108 u109 u110 u111 u112 u113 u114 u115 u116 u117 u118 u119 u120 u121 u122 u123 u124 u125 u126 u127 u128 u129 u130 u131 u132 u133 u134 u135 u136 u137 u138 u139 u140 u141 u142 u143 u144 u145 u146 u147 u148 u149 u150 u151 u152 u153 u154 u155 u156 u157 u158 u159 u160 u161 u162 u163 u164 : Value) (wc : World) (x9_38 : Int) (BK180 : Aside0 (wc.heap[gb180]? = some (.cells #[.string t173, .string t174, .string t175, .string t176, .bool t177, .int .i64 t178] 26 (0, 0)))) (HB : Aside0 (Below w.heap.size w wc)) (kj38 : Nat) (HJ38 : Aside0 (kj38 + 1 ≤ kj17)) (H : nunciolaw20_HeadOther.j3 (kj38 + 1) l0 a1 a2 x9_38 t173 t174 t175 t176 t177 t178 = some r) :
  Code.wp Tryd.prog ((Tryd.f3.body.bind (fromRegion 11)).getD .skip) (bodyPost Tryd.prog Tryd.f3 fun e w' => e = .returned (.bool r) ∧ Below w.heap.size w w') ⟨#[.slice A0 l0.length c0, .string a1, .string a2, undef, undef, undef, .bool false, .pointer (some ⟨gb180, 0, none⟩), .int .i64 t179, .int .i64 x9_38, undef, undef, undef, undef, undef, undef, undef, undef, u18, u19, u20, u21, u22, u23, u24, u25, u26, u27, u28, u29, u30, u31, u32, u33, u34, u35, u36, u37, u38, u39, u40, u41, u42, u43, u44, u45, u46, u47, u48, u49, u50, u51, u52, u53, u54, u55, u56, u57, u58, u59, .bool false, u61, u62, u63, u64, u65, u66, u67, u68, u69, u70, u71, u72, u73, u74, u75, u76, u77, u78, u79, u80, u81, u82, u83, u84, u85, u86, u87, u88, u89, u90, u91, u92, u93, u94, u95, u96, u97, u98, u99, u100, u101, u102, u103, u104, u105, u106, u107, u108, u109, u110, u111, u112, u113, u114, u115, u116, u117, u118, u119, u120, u121, u122, u123, u124, u125, u126, u127, u128, u129, u130, u131, u132, u133, u134, u135, u136, u137, u138, u139, u140, u141, u142, u143, u144, u145, u146, u147, u148, u149, u150, u151, u152, u153, u154, u155, u156, u157, u158, u159, u160, u161, u162, u163, u164], []⟩ wc := by
 have hu26 := Tryd.underlying26
 have hu32 := Tryd.underlying32
 generalize hQ_ : (bodyPost Tryd.prog Tryd.f3 fun e w' => e = .returned (.bool r) ∧ Below w.heap.size w w') = Q_
 conv => arg 2; whnf
 subst hQ_
 simp only [nunciolaw20_HeadOther.j3] at H
 obtain ⟨y187, hy187⟩ : ∃ y_ : List (S32), y_ = (([] : List (S32))) := ⟨_, rfl⟩
 replace H : (if y187.length + l0.length < 3518437208883 then ((some (y187 ++ l0 : List (S32))).bind fun y190 => ((some (([(⟨a1, a2, false⟩ : S32)] : List (S32)) : List (S32))).bind fun y193 => (if y190.length + y193.length < 3518437208883 then ((head_Request.f (y190 ++ y193)).bind fun bt199 => ((some (([] : List (S32)) : List (S32))).bind fun y207 => (if 0 ≤ x9_38 then (if x9_38 ≤ (l0.length : Int) then ((some (l0.take (x9_38 : Int).toNat : List (S32))).bind fun y210 => (if y207.length + y210.length < 3518437208883 then ((some (y207 ++ y210 : List (S32))).bind fun y214 => ((some (([(⟨a1, a2, false⟩ : S32)] : List (S32)) : List (S32))).bind fun y217 => (if y214.length + y217.length < 3518437208883 then ((some (y214 ++ y217 : List (S32))).bind fun y220 => ((some (l0.drop (x9_38 : Int).toNat : List (S32))).bind fun y223 => (if y220.length + y223.length < 3518437208883 then ((head_Request.f (y220 ++ y223)).bind fun bt230 => ((some (l0.take (x9_38 : Int).toNat : List (S32))).bind fun y238 => (if ([] : List (S32)).length + y238.length < 3518437208883 then (nunciolaw20_HeadOther.l1 kj38 l0 x9_38 bt199.2.2.2.2.2.2 bt230.2.2.2.2.2.2 (([] : List (S32)) ++ y238) (wrap64 ((l0.length : Int) - 1)) t173 t174 t175 t176 t177 t178 bt199.1 bt199.2.1 bt199.2.2.1 bt199.2.2.2.1 bt199.2.2.2.2.1 bt199.2.2.2.2.2.1 bt230.1 bt230.2.1 bt230.2.2.1 bt230.2.2.2.1 bt230.2.2.2.2.1 bt230.2.2.2.2.2.1) else (none)))) else (none)))) else (none)))) else (none))) else (none)) else (none)))) else (none)))) else (none)) = some r := by first | (rw [hy187]; with_reducible exact H) | (have H2_ := (Option.bind_some _ _).symm.trans H; rw [hy187]; with_reducible exact H2_) | (have H2_ := (Option.bind_some _ _).symm.trans H; with_reducible exact H2_) | with_reducible exact H | (rw [hy187]; exact H) | exact H
 have Ny187 := Aside0.mk hy187
 clear hy187
 by_cases c46 : y187.length + l0.length < 3518437208883
 ·rw [if_pos c46] at H
  have LMc46 := Aside0.mk c46
  clear c46
  obtain ⟨y190, hy190⟩ : ∃ y_ : List (S32), y_ = (y187 ++ l0) := ⟨_, rfl⟩
  replace H : ((some (([(⟨a1, a2, false⟩ : S32)] : List (S32)) : List (S32))).bind fun y193 => (if y190.length + y193.length < 3518437208883 then ((head_Request.f (y190 ++ y193)).bind fun bt199 => ((some (([] : List (S32)) : List (S32))).bind fun y207 => (if 0 ≤ x9_38 then (if x9_38 ≤ (l0.length : Int) then ((some (l0.take (x9_38 : Int).toNat : List (S32))).bind fun y210 => (if y207.length + y210.length < 3518437208883 then ((some (y207 ++ y210 : List (S32))).bind fun y214 => ((some (([(⟨a1, a2, false⟩ : S32)] : List (S32)) : List (S32))).bind fun y217 => (if y214.length + y217.length < 3518437208883 then ((some (y214 ++ y217 : List (S32))).bind fun y220 => ((some (l0.drop (x9_38 : Int).toNat : List (S32))).bind fun y223 => (if y220.length + y223.length < 3518437208883 then ((head_Request.f (y220 ++ y223)).bind fun bt230 => ((some (l0.take (x9_38 : Int).toNat : List (S32))).bind fun y238 => (if ([] : List (S32)).length + y238.length < 3518437208883 then (nunciolaw20_HeadOther.l1 kj38 l0 x9_38 bt199.2.2.2.2.2.2 bt230.2.2.2.2.2.2 (([] : List (S32)) ++ y238) (wrap64 ((l0.length : Int) - 1)) t173 t174 t175 t176 t177 t178 bt199.1 bt199.2.1 bt199.2.2.1 bt199.2.2.2.1 bt199.2.2.2.2.1 bt199.2.2.2.2.2.1 bt230.1 bt230.2.1 bt230.2.2.1 bt230.2.2.2.1 bt230.2.2.2.2.1 bt230.2.2.2.2.2.1) else (none)))) else (none)))) else (none)))) else (none))) else (none)) else (none)))) else (none))) = some r := by first | (rw [hy190]; with_reducible exact H) | (have H2_ := (Option.bind_some _ _).symm.trans H; rw [hy190]; with_reducible exact H2_) | (have H2_ := (Option.bind_some _ _).symm.trans H; with_reducible exact H2_) | with_reducible exact H | (rw [hy190]; exact H) | exact H
  have Ny190 := Aside0.mk hy190
  clear hy190
  obtain ⟨y193, hy193⟩ : ∃ y_ : List (S32), y_ = (([(⟨a1, a2, false⟩ : S32)] : List (S32))) := ⟨_, rfl⟩
  replace H : (if y190.length + y193.length < 3518437208883 then ((head_Request.f (y190 ++ y193)).bind fun bt199 => ((some (([] : List (S32)) : List (S32))).bind fun y207 => (if 0 ≤ x9_38 then (if x9_38 ≤ (l0.length : Int) then ((some (l0.take (x9_38 : Int).toNat : List (S32))).bind fun y210 => (if y207.length + y210.length < 3518437208883 then ((some (y207 ++ y210 : List (S32))).bind fun y214 => ((some (([(⟨a1, a2, false⟩ : S32)] : List (S32)) : List (S32))).bind fun y217 => (if y214.length + y217.length < 3518437208883 then ((some (y214 ++ y217 : List (S32))).bind fun y220 => ((some (l0.drop (x9_38 : Int).toNat : List (S32))).bind fun y223 => (if y220.length + y223.length < 3518437208883 then ((head_Request.f (y220 ++ y223)).bind fun bt230 => ((some (l0.take (x9_38 : Int).toNat : List (S32))).bind fun y238 => (if ([] : List (S32)).length + y238.length < 3518437208883 then (nunciolaw20_HeadOther.l1 kj38 l0 x9_38 bt199.2.2.2.2.2.2 bt230.2.2.2.2.2.2 (([] : List (S32)) ++ y238) (wrap64 ((l0.length : Int) - 1)) t173 t174 t175 t176 t177 t178 bt199.1 bt199.2.1 bt199.2.2.1 bt199.2.2.2.1 bt199.2.2.2.2.1 bt199.2.2.2.2.2.1 bt230.1 bt230.2.1 bt230.2.2.1 bt230.2.2.2.1 bt230.2.2.2.2.1 bt230.2.2.2.2.2.1) else (none)))) else (none)))) else (none)))) else (none))) else (none)) else (none)))) else (none)) = some r := by first | (rw [hy193]; with_reducible exact H) | (have H2_ := (Option.bind_some _ _).symm.trans H; rw [hy193]; with_reducible exact H2_) | (have H2_ := (Option.bind_some _ _).symm.trans H; with_reducible exact H2_) | with_reducible exact H | (rw [hy193]; exact H) | exact H
  have Ny193 := Aside0.mk hy193
  clear hy193
  by_cases c47 : y190.length + y193.length < 3518437208883
  ·rw [if_pos c47] at H
   have LMc47 := Aside0.mk c47
   clear c47
   obtain ⟨y196, hy196⟩ : ∃ y_ : List (S32), y_ = (y190 ++ y193) := ⟨_, rfl⟩
   replace H : ((head_Request.f y196).bind fun bt199 => ((some (([] : List (S32)) : List (S32))).bind fun y207 => (if 0 ≤ x9_38 then (if x9_38 ≤ (l0.length : Int) then ((some (l0.take (x9_38 : Int).toNat : List (S32))).bind fun y210 => (if y207.length + y210.length < 3518437208883 then ((some (y207 ++ y210 : List (S32))).bind fun y214 => ((some (([(⟨a1, a2, false⟩ : S32)] : List (S32)) : List (S32))).bind fun y217 => (if y214.length + y217.length < 3518437208883 then ((some (y214 ++ y217 : List (S32))).bind fun y220 => ((some (l0.drop (x9_38 : Int).toNat : List (S32))).bind fun y223 => (if y220.length + y223.length < 3518437208883 then ((head_Request.f (y220 ++ y223)).bind fun bt230 => ((some (l0.take (x9_38 : Int).toNat : List (S32))).bind fun y238 => (if ([] : List (S32)).length + y238.length < 3518437208883 then (nunciolaw20_HeadOther.l1 kj38 l0 x9_38 bt199.2.2.2.2.2.2 bt230.2.2.2.2.2.2 (([] : List (S32)) ++ y238) (wrap64 ((l0.length : Int) - 1)) t173 t174 t175 t176 t177 t178 bt199.1 bt199.2.1 bt199.2.2.1 bt199.2.2.2.1 bt199.2.2.2.2.1 bt199.2.2.2.2.2.1 bt230.1 bt230.2.1 bt230.2.2.1 bt230.2.2.2.1 bt230.2.2.2.2.1 bt230.2.2.2.2.2.1) else (none)))) else (none)))) else (none)))) else (none))) else (none)) else (none)))) = some r := by first | (rw [hy196]; with_reducible exact H) | (have H2_ := (Option.bind_some _ _).symm.trans H; rw [hy196]; with_reducible exact H2_) | (have H2_ := (Option.bind_some _ _).symm.trans H; with_reducible exact H2_) | with_reducible exact H | (rw [hy196]; exact H) | exact H
   have Ny196 := Aside0.mk hy196
   clear hy196
   replace H := Option.bind_eq_some_iff.mp H
   obtain ⟨⟨t199, t200, t201, t202, t203, t204, t205⟩, A480, H⟩ := H
   replace H : ((some (([] : List (S32)) : List (S32))).bind fun y207 => (if 0 ≤ x9_38 then (if x9_38 ≤ (l0.length : Int) then ((some (l0.take (x9_38 : Int).toNat : List (S32))).bind fun y210 => (if y207.length + y210.length < 3518437208883 then ((some (y207 ++ y210 : List (S32))).bind fun y214 => ((some (([(⟨a1, a2, false⟩ : S32)] : List (S32)) : List (S32))).bind fun y217 => (if y214.length + y217.length < 3518437208883 then ((some (y214 ++ y217 : List (S32))).bind fun y220 => ((some (l0.drop (x9_38 : Int).toNat : List (S32))).bind fun y223 => (if y220.length + y223.length < 3518437208883 then ((head_Request.f (y220 ++ y223)).bind fun bt230 => ((some (l0.take (x9_38 : Int).toNat : List (S32))).bind fun y238 => (if ([] : List (S32)).length + y238.length < 3518437208883 then (nunciolaw20_HeadOther.l1 kj38 l0 x9_38 t205 bt230.2.2.2.2.2.2 (([] : List (S32)) ++ y238) (wrap64 ((l0.length : Int) - 1)) t173 t174 t175 t176 t177 t178 t199 t200 t201 t202 t203 t204 bt230.1 bt230.2.1 bt230.2.2.1 bt230.2.2.2.1 bt230.2.2.2.2.1 bt230.2.2.2.2.2.1) else (none)))) else (none)))) else (none)))) else (none))) else (none)) else (none))) = some r := H
   have A48 := Aside0.mk A480
   clear A480
   obtain ⟨y207, hy207⟩ : ∃ y_ : List (S32), y_ = (([] : List (S32))) := ⟨_, rfl⟩
   replace H : (if 0 ≤ x9_38 then (if x9_38 ≤ (l0.length : Int) then ((some (l0.take (x9_38 : Int).toNat : List (S32))).bind fun y210 => (if y207.length + y210.length < 3518437208883 then ((some (y207 ++ y210 : List (S32))).bind fun y214 => ((some (([(⟨a1, a2, false⟩ : S32)] : List (S32)) : List (S32))).bind fun y217 => (if y214.length + y217.length < 3518437208883 then ((some (y214 ++ y217 : List (S32))).bind fun y220 => ((some (l0.drop (x9_38 : Int).toNat : List (S32))).bind fun y223 => (if y220.length + y223.length < 3518437208883 then ((head_Request.f (y220 ++ y223)).bind fun bt230 => ((some (l0.take (x9_38 : Int).toNat : List (S32))).bind fun y238 => (if ([] : List (S32)).length + y238.length < 3518437208883 then (nunciolaw20_HeadOther.l1 kj38 l0 x9_38 t205 bt230.2.2.2.2.2.2 (([] : List (S32)) ++ y238) (wrap64 ((l0.length : Int) - 1)) t173 t174 t175 t176 t177 t178 t199 t200 t201 t202 t203 t204 bt230.1 bt230.2.1 bt230.2.2.1 bt230.2.2.2.1 bt230.2.2.2.2.1 bt230.2.2.2.2.2.1) else (none)))) else (none)))) else (none)))) else (none))) else (none)) else (none)) = some r := by first | (rw [hy207]; with_reducible exact H) | (have H2_ := (Option.bind_some _ _).symm.trans H; rw [hy207]; with_reducible exact H2_) | (have H2_ := (Option.bind_some _ _).symm.trans H; with_reducible exact H2_) | with_reducible exact H | (rw [hy207]; exact H) | exact H
   have Ny207 := Aside0.mk hy207
   clear hy207
   by_cases c49 : 0 ≤ x9_38
   ·rw [if_pos c49] at H
    have c49b0 := eq_true c49
    have c49b1 : decide (0 ≤ x9_38) = true := decide_eq_true c49
    clear c49
    by_cases c50 : x9_38 ≤ (l0.length : Int)
    ·rw [if_pos c50] at H
     have c50b0 := eq_true c50
     have c50b1 : decide (x9_38 ≤ (l0.length : Int)) = true := decide_eq_true c50
     clear c50
     obtain ⟨y210, hy210⟩ : ∃ y_ : List (S32), y_ = (l0.take (x9_38 : Int).toNat) := ⟨_, rfl⟩
     replace H : (if y207.length + y210.length < 3518437208883 then ((some (y207 ++ y210 : List (S32))).bind fun y214 => ((some (([(⟨a1, a2, false⟩ : S32)] : List (S32)) : List (S32))).bind fun y217 => (if y214.length + y217.length < 3518437208883 then ((some (y214 ++ y217 : List (S32))).bind fun y220 => ((some (l0.drop (x9_38 : Int).toNat : List (S32))).bind fun y223 => (if y220.length + y223.length < 3518437208883 then ((head_Request.f (y220 ++ y223)).bind fun bt230 => ((some (l0.take (x9_38 : Int).toNat : List (S32))).bind fun y238 => (if ([] : List (S32)).length + y238.length < 3518437208883 then (nunciolaw20_HeadOther.l1 kj38 l0 x9_38 t205 bt230.2.2.2.2.2.2 (([] : List (S32)) ++ y238) (wrap64 ((l0.length : Int) - 1)) t173 t174 t175 t176 t177 t178 t199 t200 t201 t202 t203 t204 bt230.1 bt230.2.1 bt230.2.2.1 bt230.2.2.2.1 bt230.2.2.2.2.1 bt230.2.2.2.2.2.1) else (none)))) else (none)))) else (none)))) else (none)) = some r := by first | (rw [hy210]; with_reducible exact H) | (have H2_ := (Option.bind_some _ _).symm.trans H; rw [hy210]; with_reducible exact H2_) | (have H2_ := (Option.bind_some _ _).symm.trans H; with_reducible exact H2_) | with_reducible exact H | (rw [hy210]; exact H) | exact H
     have Ny210 := Aside0.mk hy210
     clear hy210
     by_cases c51 : y207.length + y210.length < 3518437208883
     ·rw [if_pos c51] at H
      have LMc51 := Aside0.mk c51
      clear c51
      obtain ⟨y214, hy214⟩ : ∃ y_ : List (S32), y_ = (y207 ++ y210) := ⟨_, rfl⟩
      replace H : ((some (([(⟨a1, a2, false⟩ : S32)] : List (S32)) : List (S32))).bind fun y217 => (if y214.length + y217.length < 3518437208883 then ((some (y214 ++ y217 : List (S32))).bind fun y220 => ((some (l0.drop (x9_38 : Int).toNat : List (S32))).bind fun y223 => (if y220.length + y223.length < 3518437208883 then ((head_Request.f (y220 ++ y223)).bind fun bt230 => ((some (l0.take (x9_38 : Int).toNat : List (S32))).bind fun y238 => (if ([] : List (S32)).length + y238.length < 3518437208883 then (nunciolaw20_HeadOther.l1 kj38 l0 x9_38 t205 bt230.2.2.2.2.2.2 (([] : List (S32)) ++ y238) (wrap64 ((l0.length : Int) - 1)) t173 t174 t175 t176 t177 t178 t199 t200 t201 t202 t203 t204 bt230.1 bt230.2.1 bt230.2.2.1 bt230.2.2.2.1 bt230.2.2.2.2.1 bt230.2.2.2.2.2.1) else (none)))) else (none)))) else (none))) = some r := by first | (rw [hy214]; with_reducible exact H) | (have H2_ := (Option.bind_some _ _).symm.trans H; rw [hy214]; with_reducible exact H2_) | (have H2_ := (Option.bind_some _ _).symm.trans H; with_reducible exact H2_) | with_reducible exact H | (rw [hy214]; exact H) | exact H
      have Ny214 := Aside0.mk hy214
      clear hy214
      obtain ⟨y217, hy217⟩ : ∃ y_ : List (S32), y_ = (([(⟨a1, a2, false⟩ : S32)] : List (S32))) := ⟨_, rfl⟩
      replace H : (if y214.length + y217.length < 3518437208883 then ((some (y214 ++ y217 : List (S32))).bind fun y220 => ((some (l0.drop (x9_38 : Int).toNat : List (S32))).bind fun y223 => (if y220.length + y223.length < 3518437208883 then ((head_Request.f (y220 ++ y223)).bind fun bt230 => ((some (l0.take (x9_38 : Int).toNat : List (S32))).bind fun y238 => (if ([] : List (S32)).length + y238.length < 3518437208883 then (nunciolaw20_HeadOther.l1 kj38 l0 x9_38 t205 bt230.2.2.2.2.2.2 (([] : List (S32)) ++ y238) (wrap64 ((l0.length : Int) - 1)) t173 t174 t175 t176 t177 t178 t199 t200 t201 t202 t203 t204 bt230.1 bt230.2.1 bt230.2.2.1 bt230.2.2.2.1 bt230.2.2.2.2.1 bt230.2.2.2.2.2.1) else (none)))) else (none)))) else (none)) = some r := by first | (rw [hy217]; with_reducible exact H) | (have H2_ := (Option.bind_some _ _).symm.trans H; rw [hy217]; with_reducible exact H2_) | (have H2_ := (Option.bind_some _ _).symm.trans H; with_reducible exact H2_) | with_reducible exact H | (rw [hy217]; exact H) | exact H
      have Ny217 := Aside0.mk hy217
      clear hy217
      by_cases c52 : y214.length + y217.length < 3518437208883
      ·rw [if_pos c52] at H
       have LMc52 := Aside0.mk c52
       clear c52
       obtain ⟨y220, hy220⟩ : ∃ y_ : List (S32), y_ = (y214 ++ y217) := ⟨_, rfl⟩
       replace H : ((some (l0.drop (x9_38 : Int).toNat : List (S32))).bind fun y223 => (if y220.length + y223.length < 3518437208883 then ((head_Request.f (y220 ++ y223)).bind fun bt230 => ((some (l0.take (x9_38 : Int).toNat : List (S32))).bind fun y238 => (if ([] : List (S32)).length + y238.length < 3518437208883 then (nunciolaw20_HeadOther.l1 kj38 l0 x9_38 t205 bt230.2.2.2.2.2.2 (([] : List (S32)) ++ y238) (wrap64 ((l0.length : Int) - 1)) t173 t174 t175 t176 t177 t178 t199 t200 t201 t202 t203 t204 bt230.1 bt230.2.1 bt230.2.2.1 bt230.2.2.2.1 bt230.2.2.2.2.1 bt230.2.2.2.2.2.1) else (none)))) else (none))) = some r := by first | (rw [hy220]; with_reducible exact H) | (have H2_ := (Option.bind_some _ _).symm.trans H; rw [hy220]; with_reducible exact H2_) | (have H2_ := (Option.bind_some _ _).symm.trans H; with_reducible exact H2_) | with_reducible exact H | (rw [hy220]; exact H) | exact H
       have Ny220 := Aside0.mk hy220
       clear hy220
       have c53b0 := eq_true (of_decide_eq_true (by first | (with_reducible assumption) | assumption) : 0 ≤ x9_38)
       have c54b0 := eq_true (of_decide_eq_true (by first | (with_reducible assumption) | assumption) : x9_38 ≤ (l0.length : Int))
       obtain ⟨y223, hy223⟩ : ∃ y_ : List (S32), y_ = (l0.drop (x9_38 : Int).toNat) := ⟨_, rfl⟩
       replace H : (if y220.length + y223.length < 3518437208883 then ((head_Request.f (y220 ++ y223)).bind fun bt230 => ((some (l0.take (x9_38 : Int).toNat : List (S32))).bind fun y238 => (if ([] : List (S32)).length + y238.length < 3518437208883 then (nunciolaw20_HeadOther.l1 kj38 l0 x9_38 t205 bt230.2.2.2.2.2.2 (([] : List (S32)) ++ y238) (wrap64 ((l0.length : Int) - 1)) t173 t174 t175 t176 t177 t178 t199 t200 t201 t202 t203 t204 bt230.1 bt230.2.1 bt230.2.2.1 bt230.2.2.2.1 bt230.2.2.2.2.1 bt230.2.2.2.2.2.1) else (none)))) else (none)) = some r := by first | (rw [hy223]; with_reducible exact H) | (have H2_ := (Option.bind_some _ _).symm.trans H; rw [hy223]; with_reducible exact H2_) | (have H2_ := (Option.bind_some _ _).symm.trans H; with_reducible exact H2_) | with_reducible exact H | (rw [hy223]; exact H) | exact H
       have Ny223 := Aside0.mk hy223
       clear hy223
       by_cases c55 : y220.length + y223.length < 3518437208883
       ·rw [if_pos c55] at H
        have LMc55 := Aside0.mk c55
        clear c55
        obtain ⟨y227, hy227⟩ : ∃ y_ : List (S32), y_ = (y220 ++ y223) := ⟨_, rfl⟩
        replace H : ((head_Request.f y227).bind fun bt230 => ((some (l0.take (x9_38 : Int).toNat : List (S32))).bind fun y238 => (if ([] : List (S32)).length + y238.length < 3518437208883 then (nunciolaw20_HeadOther.l1 kj38 l0 x9_38 t205 bt230.2.2.2.2.2.2 (([] : List (S32)) ++ y238) (wrap64 ((l0.length : Int) - 1)) t173 t174 t175 t176 t177 t178 t199 t200 t201 t202 t203 t204 bt230.1 bt230.2.1 bt230.2.2.1 bt230.2.2.2.1 bt230.2.2.2.2.1 bt230.2.2.2.2.2.1) else (none)))) = some r := by first | (rw [hy227]; with_reducible exact H) | (have H2_ := (Option.bind_some _ _).symm.trans H; rw [hy227]; with_reducible exact H2_) | (have H2_ := (Option.bind_some _ _).symm.trans H; with_reducible exact H2_) | with_reducible exact H | (rw [hy227]; exact H) | exact H
        have Ny227 := Aside0.mk hy227
        clear hy227
        replace H := Option.bind_eq_some_iff.mp H
        obtain ⟨⟨t230, t231, t232, t233, t234, t235, t236⟩, A560, H⟩ := H
        replace H : ((some (l0.take (x9_38 : Int).toNat : List (S32))).bind fun y238 => (if ([] : List (S32)).length + y238.length < 3518437208883 then (nunciolaw20_HeadOther.l1 kj38 l0 x9_38 t205 t236 (([] : List (S32)) ++ y238) (wrap64 ((l0.length : Int) - 1)) t173 t174 t175 t176 t177 t178 t199 t200 t201 t202 t203 t204 t230 t231 t232 t233 t234 t235) else (none))) = some r := H
        have A56 := Aside0.mk A560
        clear A560
        have c57b0 := eq_true (of_decide_eq_true (by first | (with_reducible assumption) | assumption) : 0 ≤ x9_38)
        have c58b0 := eq_true (of_decide_eq_true (by first | (with_reducible assumption) | assumption) : x9_38 ≤ (l0.length : Int))
        obtain ⟨y238, hy238⟩ : ∃ y_ : List (S32), y_ = (l0.take (x9_38 : Int).toNat) := ⟨_, rfl⟩
        replace H : (if ([] : List (S32)).length + y238.length < 3518437208883 then (nunciolaw20_HeadOther.l1 kj38 l0 x9_38 t205 t236 (([] : List (S32)) ++ y238) (wrap64 ((l0.length : Int) - 1)) t173 t174 t175 t176 t177 t178 t199 t200 t201 t202 t203 t204 t230 t231 t232 t233 t234 t235) else (none)) = some r := by first | (rw [hy238]; with_reducible exact H) | (have H2_ := (Option.bind_some _ _).symm.trans H; rw [hy238]; with_reducible exact H2_) | (have H2_ := (Option.bind_some _ _).symm.trans H; with_reducible exact H2_) | with_reducible exact H | (rw [hy238]; exact H) | exact H
        have Ny238 := Aside0.mk hy238
        clear hy238
        by_cases c59 : ([] : List (S32)).length + y238.length < 3518437208883
        ·rw [if_pos c59] at H
         have LMc59 := Aside0.mk c59
         clear c59
         obtain ⟨y242, hy242⟩ : ∃ y_ : List (S32), y_ = (([] : List (S32)) ++ y238) := ⟨_, rfl⟩
         replace H : (nunciolaw20_HeadOther.l1 kj38 l0 x9_38 t205 t236 y242 (wrap64 ((l0.length : Int) - 1)) t173 t174 t175 t176 t177 t178 t199 t200 t201 t202 t203 t204 t230 t231 t232 t233 t234 t235) = some r := by first | (rw [hy242]; with_reducible exact H) | (have H2_ := (Option.bind_some _ _).symm.trans H; rw [hy242]; with_reducible exact H2_) | (have H2_ := (Option.bind_some _ _).symm.trans H; with_reducible exact H2_) | with_reducible exact H | (rw [hy242]; exact H) | exact H
         have Ny242 := Aside0.mk hy242
         clear hy242
         have H' := Aside0.mk H
         clear H
         try go_wp2_with (first | ((with_reducible refine gate_dst (N := 86) rfl ?_); (try (refine gate_guard (by rfl) ?_; dsimp only)); refine Kd.R_lit k32 _ 32 ?hg (N := 86) ?hd (xs := ([] : List (S32))) (inner := []) (ok := fun _ => True) (okp := fun _ => True) ?hr ?hp (fun _ hk => hk) trivial (Below.refl _ _) (Nat.le_refl _) (by simp) ?_; (case hd => rfl); (case hg => rfl); (case hr => first | (go_simp; done) | (go_simp; rfl)); (case hp => exact (Reps.none _ _)); intro v188 w60 ho61 hb hg_ hnew_; clear hg_ hnew_; (first | rw [← Ny187.out] at ho61 | (simp only [Int.reduceToNat] at ho61; rw [← Ny187.out] at ho61)); have n0_ := Aside0.mk (Kd.R_lower ho61 (below_size (upB HB))); have n1_ := Aside0.mk (blk_below (g := gb180) (o := .cells #[.string t173, .string t174, .string t175, .string t176, .bool t177, .int .i64 t178] 26 (0, 0)) (upK BK180) hb); have n2_ := Aside0.mk (below_step (upB HB) hb); clear BK180; clear HB; have HO189 := n0_; have BK180 := n1_; have HB := n2_; clear n0_ n1_ n2_; clear hb ho61) | ((with_reducible refine gate_builtin (b := .append) (xs := #[.tmp 86, .tmp 87]) rfl ?_); (try (refine gate_guard (by rfl) ?_; dsimp only)); at_builtin; refine Kd.R_append_rows k32 (w0 := w) w.heap.size rfl (.tmp 86) (.tmp 87) 22 32 (.agg #[(.string ⟨#[]⟩), (.string ⟨#[]⟩), (.bool false)]) 40 rfl Tryd.underlying22 info32 rfl (by decide) (by omega) v188 y187 l0 _ _ _ (fun _ => True) (fun _ => False) rfl rfl ?aO ?aR (fun _ _ h => h) (fun _ h => h.elim) ?aF ?aB ?aS ?aL ?_; (case aR => repeat (first | exact (Kd.C_below HR0.out HB.out) | (with_reducible refine Kd.C_alloc ?_ _) | (with_reducible refine Kd.C_drewN ?_ _) | (with_reducible refine Kd.C_drew ?_))); (case aB => exact (upB HB)); (case aF => exact (fun _ _ => trivial)); (case aO => exact (upR HO189)); (case aS => exact (below_size (upB HB))); (case aL => have := LMc46.out; omega); intro v191 w62 ho hb hg hat; rw [← Ny190.out] at ho; have n0_ := Aside0.mk (blk_grown (g := gb180) (o := .cells #[.string t173, .string t174, .string t175, .string t176, .bool t177, .int .i64 t178] 26 (0, 0)) (upK BK180) hg (Kd.R_ne HO189.out BK180.out (by decide))); have n1_ := Aside0.mk (hb); have n2_ := Aside0.mk (ho); clear BK180; clear HB; clear HO189; have BK180 := n0_; have HB := n1_; have HO192 := n2_; clear n0_ n1_ n2_; clear ho hb hg hat) | ((with_reducible refine gate_dst (N := 92) rfl ?_); (try (refine gate_guard (by rfl) ?_; dsimp only)); refine Kd.R_lit k32 _ 32 ?hg (N := 92) ?hd (xs := ([(⟨a1, a2, false⟩ : S32)] : List (S32))) (inner := [.string a1, .string a2, .bool false]) (ok := fun _ => True) (okp := fun _ => True) ?hr ?hp (fun _ hk => hk) trivial (Below.refl _ _) (Nat.le_refl _) (by simp) ?_; (case hd => rfl); (case hg => rfl); (case hr => first | (go_simp; done) | (go_simp; rfl)); (case hp => exact (Reps.c3 (show Kd.M k32 _ _ _ (⟨a1, a2, false⟩ : S32) [.string a1, .string a2, .bool false] from (k32_mkM _ _ _ (⟨a1, a2, false⟩ : S32) )) (Reps.none _ _))); intro v194 w63 ho64 hb hg_ hnew_; clear hg_ hnew_; (first | rw [← Ny193.out] at ho64 | (simp only [Int.reduceToNat] at ho64; rw [← Ny193.out] at ho64)); have n0_ := Aside0.mk (Kd.R_elder' (upR HO192) (Kd.R_base ho64) hb); have n1_ := Aside0.mk (Kd.R_lower (Kd.R_new' ho64 (Kd.R_lt (upR HO192))) (below_size (upB HB))); have n2_ := Aside0.mk (blk_below (g := gb180) (o := .cells #[.string t173, .string t174, .string t175, .string t176, .bool t177, .int .i64 t178] 26 (0, 0)) (upK BK180) hb); have n3_ := Aside0.mk (below_step (upB HB) hb); clear HO192; clear BK180; clear HB; have HO192 := n0_; have HO195 := n1_; have BK180 := n2_; have HB := n3_; clear n0_ n1_ n2_ n3_; clear hb ho64; obtain ⟨Ao66, co66, eo66⟩ := Kd.R_slice HO195.out; subst eo66) | ((with_reducible refine gate_builtin (b := .append) (xs := #[.tmp 88, .tmp 92]) rfl ?_); (try (refine gate_guard (by rfl) ?_; dsimp only)); at_builtin; refine Kd.R_append_rows k32 (w0 := w) w.heap.size rfl (.tmp 88) (.tmp 92) 22 32 (.agg #[(.string ⟨#[]⟩), (.string ⟨#[]⟩), (.bool false)]) 40 rfl Tryd.underlying22 info32 rfl (by decide) (by omega) v191 y190 y193 _ _ _ (fun k_ => some k_ ≠ (.slice Ao66 y193.length co66 : Value).ownBlock) (fun _ => False) rfl rfl ?aO ?aR (fun _ _ h => h) (fun _ h => h.elim) ?aF ?aB ?aS ?aL ?_; (case aR => repeat (first | exact (Kd.R_reads' HO195.out).2.2 | (with_reducible refine Kd.C_alloc ?_ _) | (with_reducible refine Kd.C_drewN ?_ _) | (with_reducible refine Kd.C_drew ?_))); (case aB => exact (upB HB)); (case aF => exact (fun k_ hk => Kd.fresh' (Kd.R_lt (upR HO195)) k_ hk)); (case aO => exact (by (with_reducible repeat (first | apply Kd.R_alloc | apply Kd.R_drewN | apply Kd.R_drew)); exact Kd.R_mono HO192.out (fun _ hk => hk.2))); (case aS => exact (below_size (upB HB))); (case aL => have := LMc47.out; omega); intro v197 w65 ho hb hg hat; rw [← Ny196.out] at ho; have n0_ := Aside0.mk (blk_grown (g := gb180) (o := .cells #[.string t173, .string t174, .string t175, .string t176, .bool t177, .int .i64 t178] 26 (0, 0)) (upK BK180) hg (Kd.R_ne HO192.out BK180.out (by decide))); have n1_ := Aside0.mk (Kd.R_after (ok := (fun _ => True)) (upR HO195) hg hat); have n2_ := Aside0.mk (hb); have n3_ := Aside0.mk (ho); clear BK180; clear HO195; clear HB; clear HO192; have BK180 := n0_; have HO195 := n1_; have HB := n2_; have HO198 := n3_; clear n0_ n1_ n2_ n3_; clear ho hb hg hat; obtain ⟨Ao67, co67, eo67⟩ := Kd.R_slice HO198.out; subst eo67) | ((with_reducible refine gate_callee (f := 8) rfl ?_); refine goesL_ (some 94) rfl rfl Tryd.func8 (by kernel_rfl) rfl #[.slice Ao67 y196.length co67] rfl (by (try simp only [List.map_toArray, List.map_cons, List.map_nil]); first | done | rfl | (simp only [List.length_drop, List.length_take]; rfl)) ?_; (with_reducible refine (head_Request.calls _ _ y196 t199 t200 t201 t202 t203 t204 t205 _ ?side1 ?side2 A48.out).mono ?_); (case side1 => repeat (first | exact (Kd.R_reads' HO198.out).2.2 | (with_reducible refine Kd.C_alloc ?_ _) | (with_reducible refine Kd.C_drewN ?_ _) | (with_reducible refine Kd.C_drew ?_))); (case side2 => exact (Kd.R_reads' HO198.out).2.1); rintro e w68 ⟨rfl, hb⟩; refine ⟨_, rfl, ?_⟩; have n0_ := Aside0.mk (Kd.R_below (upR HO195) hb); have n1_ := Aside0.mk (Kd.R_below (upR HO198) hb); have n2_ := Aside0.mk (blk_below (g := gb180) (o := .cells #[.string t173, .string t174, .string t175, .string t176, .bool t177, .int .i64 t178] 26 (0, 0)) (upK BK180) hb); have n3_ := Aside0.mk (below_step (upB HB) hb); clear HO195; clear HO198; clear BK180; clear HB; have HO195 := n0_; have HO198 := n1_; have BK180 := n2_; have HB := n3_; clear n0_ n1_ n2_ n3_; (try clear hb); (try clear hb2); (try clear hk); (try clear hi)) | ((with_reducible refine gate_dst (N := 10) rfl ?_); (try (refine gate_guard (by rfl) ?_; dsimp only)); refine box_event ?hg (N := 10) ?hd (cs := #[.string (⟨#[]⟩ : ByteArray), .string (⟨#[]⟩ : ByteArray), .string (⟨#[]⟩ : ByteArray), .string (⟨#[]⟩ : ByteArray), .bool false, .int .i64 0]) (t := 26) ?hr ?_; (case hd => rfl); (case hg => rfl); (case hr => first | (go_simp; done) | (go_simp; rfl)); intro gb206 hg w69 hbox hb; have n0_ := Aside0.mk (Kd.R_below (upR HO195) hb); have n1_ := Aside0.mk (Kd.R_below (upR HO198) hb); have n2_ := Aside0.mk (blk_below (g := gb180) (o := .cells #[.string t173, .string t174, .string t175, .string t176, .bool t177, .int .i64 t178] 26 (0, 0)) (upK BK180) hb); have n3_ := Aside0.mk (below_step (upB HB) hb); have n4_ := Aside0.mk (hbox); have n5_ := Aside0.mk ((by rw [hg]; exact (below_size (upB HB)) : w.heap.size ≤ gb206)); have n6_ := Aside0.mk ((by rw [hg]; exact (below_size (upB HB)) : w.heap.size ≤ gb206)); have n7_ := Aside0.mk ((by rw [hg]; exact Nat.ne_of_lt (blk_lt (g := gb180) (o := .cells #[.string t173, .string t174, .string t175, .string t176, .bool t177, .int .i64 t178] 26 (0, 0)) (upK BK180)) : gb180 ≠ gb206)); have n8_ := Aside0.mk ((by rw [hg]; exact Nat.ne_of_gt (blk_lt (g := gb180) (o := .cells #[.string t173, .string t174, .string t175, .string t176, .bool t177, .int .i64 t178] 26 (0, 0)) (upK BK180)) : gb206 ≠ gb180)); clear HO195; clear HO198; clear BK180; clear HB; have HO195 := n0_; have HO198 := n1_; have BK180 := n2_; have HB := n3_; have BK206 := n4_; have GW206 := n5_; have GE206 := n6_; have NB180_206 := n7_; have NB206_180 := n8_; clear n0_ n1_ n2_ n3_ n4_ n5_ n6_ n7_ n8_; clear hb hbox hg; have hnb70 := NB206_180.out; have hnc70 := NB180_206.out; have hcz71_0 : w69.cell? ⟨gb206, 0, none⟩ = some (.string (⟨#[]⟩ : ByteArray)) := (blk_cell BK206.out 0).trans rfl; have hcz71_1 : w69.cell? ⟨gb206, 1, none⟩ = some (.string (⟨#[]⟩ : ByteArray)) := (blk_cell BK206.out 1).trans rfl; have hcz71_2 : w69.cell? ⟨gb206, 2, none⟩ = some (.string (⟨#[]⟩ : ByteArray)) := (blk_cell BK206.out 2).trans rfl; have hcz71_3 : w69.cell? ⟨gb206, 3, none⟩ = some (.string (⟨#[]⟩ : ByteArray)) := (blk_cell BK206.out 3).trans rfl; have hcz71_4 : w69.cell? ⟨gb206, 4, none⟩ = some (.bool false) := (blk_cell BK206.out 4).trans rfl; have hcz71_5 : w69.cell? ⟨gb206, 5, none⟩ = some (.int .i64 0) := (blk_cell BK206.out 5).trans rfl; have hfz71_0 := blk_frozen BK206.out 0; have hfz71_1 := blk_frozen BK206.out 1; have hfz71_2 := blk_frozen BK206.out 2; have hfz71_3 := blk_frozen BK206.out 3; have hfz71_4 := blk_frozen BK206.out 4; have hfz71_5 := blk_frozen BK206.out 5))
         have n0_ : Aside0 (Kd.R k32 32 ((((((w69.setCell ⟨gb206, 0, none⟩ (.string t199)).setCell ⟨gb206, 1, none⟩ (.string t200)).setCell ⟨gb206, 2, none⟩ (.string t201)).setCell ⟨gb206, 3, none⟩ (.string t202)).setCell ⟨gb206, 4, none⟩ (.bool t203)).setCell ⟨gb206, 5, none⟩ (.int .i64 t204)) w.heap.size (fun k_ => some k_ ≠ (.slice Ao67 y196.length co67 : Value).ownBlock) (.slice Ao66 y193.length co66) y193) := ⟨by (with_reducible repeat (first | apply Kd.R_alloc | apply Kd.R_drewN | apply Kd.R_drew)); exact Kd.R_mono (Kd.R_far (p := ⟨gb206, 5, none⟩) (Kd.R_far (p := ⟨gb206, 4, none⟩) (Kd.R_far (p := ⟨gb206, 3, none⟩) (Kd.R_far (p := ⟨gb206, 2, none⟩) (Kd.R_far (p := ⟨gb206, 1, none⟩) (Kd.R_far (p := ⟨gb206, 0, none⟩) (Kd.R_types HO195.out BK206.out (by decide)) (fun _ hk => hk.2) (.string t199)) (fun _ hk => hk.2) (.string t200)) (fun _ hk => hk.2) (.string t201)) (fun _ hk => hk.2) (.string t202)) (fun _ hk => hk.2) (.bool t203)) (fun _ hk => hk.2) (.int .i64 t204)) (fun _ hk => hk.1.2)⟩
         have n1_ : Aside0 (Kd.R k32 32 ((((((w69.setCell ⟨gb206, 0, none⟩ (.string t199)).setCell ⟨gb206, 1, none⟩ (.string t200)).setCell ⟨gb206, 2, none⟩ (.string t201)).setCell ⟨gb206, 3, none⟩ (.string t202)).setCell ⟨gb206, 4, none⟩ (.bool t203)).setCell ⟨gb206, 5, none⟩ (.int .i64 t204)) w.heap.size (fun k_ => some k_ ≠ (.slice Ao66 y193.length co66 : Value).ownBlock) (.slice Ao67 y196.length co67) y196) := ⟨by (with_reducible repeat (first | apply Kd.R_alloc | apply Kd.R_drewN | apply Kd.R_drew)); exact Kd.R_mono (Kd.R_far (p := ⟨gb206, 5, none⟩) (Kd.R_far (p := ⟨gb206, 4, none⟩) (Kd.R_far (p := ⟨gb206, 3, none⟩) (Kd.R_far (p := ⟨gb206, 2, none⟩) (Kd.R_far (p := ⟨gb206, 1, none⟩) (Kd.R_far (p := ⟨gb206, 0, none⟩) (Kd.R_types HO198.out BK206.out (by decide)) (fun _ hk => hk.2) (.string t199)) (fun _ hk => hk.2) (.string t200)) (fun _ hk => hk.2) (.string t201)) (fun _ hk => hk.2) (.string t202)) (fun _ hk => hk.2) (.bool t203)) (fun _ hk => hk.2) (.int .i64 t204)) (fun _ hk => hk.1)⟩
         have n2_ : Aside0 (((((((w69.setCell ⟨gb206, 0, none⟩ (.string t199)).setCell ⟨gb206, 1, none⟩ (.string t200)).setCell ⟨gb206, 2, none⟩ (.string t201)).setCell ⟨gb206, 3, none⟩ (.string t202)).setCell ⟨gb206, 4, none⟩ (.bool t203)).setCell ⟨gb206, 5, none⟩ (.int .i64 t204)).heap[gb180]? = some (.cells #[.string t173, .string t174, .string t175, .string t176, .bool t177, .int .i64 t178] 26 (0, 0))) := ⟨by (with_reducible repeat (first | refine blk_drewN ?_ _ | refine blk_drew ?_ | refine blk_alloc ?_ _)); refine blk_far ?_ NB180_206.out _; (with_reducible repeat (first | refine blk_drewN ?_ _ | refine blk_drew ?_ | refine blk_alloc ?_ _)); refine blk_far ?_ NB180_206.out _; (with_reducible repeat (first | refine blk_drewN ?_ _ | refine blk_drew ?_ | refine blk_alloc ?_ _)); refine blk_far ?_ NB180_206.out _; (with_reducible repeat (first | refine blk_drewN ?_ _ | refine blk_drew ?_ | refine blk_alloc ?_ _)); refine blk_far ?_ NB180_206.out _; (with_reducible repeat (first | refine blk_drewN ?_ _ | refine blk_drew ?_ | refine blk_alloc ?_ _)); refine blk_far ?_ NB180_206.out _; (with_reducible repeat (first | refine blk_drewN ?_ _ | refine blk_drew ?_ | refine blk_alloc ?_ _)); refine blk_far ?_ NB180_206.out _; (with_reducible repeat (first | refine blk_drewN ?_ _ | refine blk_drew ?_ | refine blk_alloc ?_ _)); exact BK180.out⟩
         have n3_ : Aside0 (((((((w69.setCell ⟨gb206, 0, none⟩ (.string t199)).setCell ⟨gb206, 1, none⟩ (.string t200)).setCell ⟨gb206, 2, none⟩ (.string t201)).setCell ⟨gb206, 3, none⟩ (.string t202)).setCell ⟨gb206, 4, none⟩ (.bool t203)).setCell ⟨gb206, 5, none⟩ (.int .i64 t204)).heap[gb206]? = some (.cells #[.string t199, .string t200, .string t201, .string t202, .bool t203, .int .i64 t204] 26 (0, 0))) := ⟨by (with_reducible repeat (first | refine blk_drewN ?_ _ | refine blk_drew ?_ | refine blk_alloc ?_ _)); refine blk_put (cs := #[.string t199, .string t200, .string t201, .string t202, .bool t203, .int .i64 0]) ?_ 5 _ rfl; (with_reducible repeat (first | refine blk_drewN ?_ _ | refine blk_drew ?_ | refine blk_alloc ?_ _)); refine blk_put (cs := #[.string t199, .string t200, .string t201, .string t202, .bool false, .int .i64 0]) ?_ 4 _ rfl; (with_reducible repeat (first | refine blk_drewN ?_ _ | refine blk_drew ?_ | refine blk_alloc ?_ _)); refine blk_put (cs := #[.string t199, .string t200, .string t201, .string (⟨#[]⟩ : ByteArray), .bool false, .int .i64 0]) ?_ 3 _ rfl; (with_reducible repeat (first | refine blk_drewN ?_ _ | refine blk_drew ?_ | refine blk_alloc ?_ _)); refine blk_put (cs := #[.string t199, .string t200, .string (⟨#[]⟩ : ByteArray), .string (⟨#[]⟩ : ByteArray), .bool false, .int .i64 0]) ?_ 2 _ rfl; (with_reducible repeat (first | refine blk_drewN ?_ _ | refine blk_drew ?_ | refine blk_alloc ?_ _)); refine blk_put (cs := #[.string t199, .string (⟨#[]⟩ : ByteArray), .string (⟨#[]⟩ : ByteArray), .string (⟨#[]⟩ : ByteArray), .bool false, .int .i64 0]) ?_ 1 _ rfl; (with_reducible repeat (first | refine blk_drewN ?_ _ | refine blk_drew ?_ | refine blk_alloc ?_ _)); refine blk_put (cs := #[.string (⟨#[]⟩ : ByteArray), .string (⟨#[]⟩ : ByteArray), .string (⟨#[]⟩ : ByteArray), .string (⟨#[]⟩ : ByteArray), .bool false, .int .i64 0]) ?_ 0 _ rfl; (with_reducible repeat (first | refine blk_drewN ?_ _ | refine blk_drew ?_ | refine blk_alloc ?_ _)); exact BK206.out⟩
         have n4_ : Aside0 (Below w.heap.size w ((((((w69.setCell ⟨gb206, 0, none⟩ (.string t199)).setCell ⟨gb206, 1, none⟩ (.string t200)).setCell ⟨gb206, 2, none⟩ (.string t201)).setCell ⟨gb206, 3, none⟩ (.string t202)).setCell ⟨gb206, 4, none⟩ (.bool t203)).setCell ⟨gb206, 5, none⟩ (.int .i64 t204))) := ⟨upB HB⟩
         (try clear HO195); (try clear HO198); (try clear BK180); (try clear BK206); (try clear HB)
         generalize ((((((w69.setCell ⟨gb206, 0, none⟩ (.string t199)).setCell ⟨gb206, 1, none⟩ (.string t200)).setCell ⟨gb206, 2, none⟩ (.string t201)).setCell ⟨gb206, 3, none⟩ (.string t202)).setCell ⟨gb206, 4, none⟩ (.bool t203)).setCell ⟨gb206, 5, none⟩ (.int .i64 t204)) = w72 at n0_ n1_ n2_ n3_ n4_ ⊢
         have HO195 := n0_; have HO198 := n1_; have BK180 := n2_; have BK206 := n3_; have HB := n4_; clear n0_ n1_ n2_ n3_ n4_
         have n0_ := Aside0.mk (Kd.R_drew HO195.out)
         have n1_ := Aside0.mk (Kd.R_drew HO198.out)
         have n2_ := Aside0.mk (blk_drew BK180.out)
         have n3_ := Aside0.mk (blk_drew BK206.out)
         have n4_ := Aside0.mk (below_drew1 HB.out)
         clear HO195 HO198 BK180 BK206 HB; have HO195 := n0_; have HO198 := n1_; have BK180 := n2_; have BK206 := n3_; have HB := n4_; clear n0_ n1_ n2_ n3_ n4_
         have q74 : (x9_38 : Int) ≤ ((l0.length : Int) : Int) := of_decide_eq_true (by first | (with_reducible assumption) | assumption)
         obtain ⟨i074, hi074, _, hsz74, _⟩ := info_parts info32
         have hroom74 : l0.length ≤ c0 := HC0.out
         have hC74 : Kd.C k32 _ A0 l0.length l0 := HR0.out
         have hcut74 := cut_to (P := Tryd.prog) 22 32 .i64 Tryd.underlying22 hi074 A0 l0.length c0 x9_38 (of_decide_eq_true (by first | (with_reducible assumption) | assumption)) q74 hroom74
         have hr74 := Kd.C_take (m := (x9_38 : Int).toNat) hC74 (by omega)
         have hy74 : y210.length = (x9_38 : Int).toNat := (by rw [Ny210.out, List.length_take]; omega)
         rw [← Ny210.out] at hr74
         rw [← hy74] at hcut74
         have HR213 := Aside0.mk hr74
         have HC213 := Aside0.mk (show y210.length ≤ c0 from by omega)
         clear hr74 hC74 hroom74 hi074 hsz74
         have KY74 := Aside0.mk hy74
         clear hy74
         replace q74 := eq_true q74
         have q75 : (x9_38 : Int) ≤ ((l0.length : Int) : Int) := of_decide_eq_true (by first | (with_reducible assumption) | assumption)
         obtain ⟨i075, hi075, _, hsz75, _⟩ := info_parts info32
         have hroom75 : l0.length ≤ c0 := HC0.out
         have hC75 : Kd.C k32 _ A0 l0.length l0 := HR0.out
         have q075 : (0 : Int) ≤ (x9_38 : Int) := of_decide_eq_true (by first | (with_reducible assumption) | assumption)
         have hcut75 := cut_from (P := Tryd.prog) 22 32 .i64 Tryd.underlying22 hi075 3 hsz75 A0 l0.length c0 x9_38 q075 q75
         have hr75 := Kd.C_drop (m := (x9_38 : Int).toNat) (c := c0) hC75 (by omega) hroom75
         obtain ⟨A75, hA75⟩ : ∃ A1, A1 = (if c0 = (x9_38 : Int).toNat then A0 else (A0 : Option Addr).map (·.add ((x9_38 : Int).toNat * 3))) := ⟨_, rfl⟩
         obtain ⟨c75, hc75⟩ : ∃ c1, c1 = c0 - (x9_38 : Int).toNat := ⟨_, rfl⟩
         have hy75 : y223.length = l0.length - (x9_38 : Int).toNat := (by rw [Ny223.out, List.length_drop] <;> omega)
         rw [show (l0).drop (x9_38 : Int).toNat = y223 from Ny223.out.symm] at hr75
         replace hr75 : Kd.C k32 _ A75 y223.length y223 := (by rw [hA75]; exact hr75)
         rw [← hy75, ← hA75, ← hc75] at hcut75
         have HR226 := Aside0.mk hr75
         have HC226 := Aside0.mk (show y223.length ≤ c75 from by rw [hy75, hc75]; exact Nat.sub_le_sub_right hroom75 _)
         clear hr75 hC75 hroom75 hi075 hsz75 hc75
         have KY75 := Aside0.mk hy75
         have KA75 := Aside0.mk hA75
         clear hy75 hA75
         replace q75 := eq_true q75
         refine start_ (n := 21) (S := fun w' => True) (ds := []) #[false, false, false, false, false, false, false, false, false, false, false, false, false, false, false, false, false, false, false, false, false] (by kernel_rfl) rfl rfl trivial (fun hHeld => ?_); refine with_tabW nunciolaw20_HeadOther.tab12 nunciolaw20_HeadOther.bits12 (fun HT_ HW_ => ?_)
         generalize w72.drew = w73 at HO195 HO198 BK180 BK206 HB HR213 HR226 hHeld ⊢
         refine pure_ (i := 1) (N := some 99) (v := ?_) (a' := ?_) #[false, true, false, false, false, false, false, false, false, false, false, false, false, false, false, false, false, false, false, false, false] rfl rfl (any_of HT_.out (by kernel_rfl)) (fun _ _ _ h => h) (Or.inl ⟨by rfl, ?_⟩) ?_ ?_
         rotate_left
         ·intro w'
          go_simp
          with_reducible rfl
         rotate_left
         ·simp only [Act.put, List.setIfInBounds_toArray, List.set_cons_zero, List.set_cons_succ, i64_w, i32_w]
          rfl
         refine pure_ (i := 2) (N := some 100) (v := ?_) (a' := ?_) #[false, true, true, false, false, false, false, false, false, false, false, false, false, false, false, false, false, false, false, false, false] rfl rfl (any_of HT_.out (by kernel_rfl)) (fun _ _ _ h => h) (Or.inl ⟨by rfl, ?_⟩) ?_ ?_
         rotate_left
         ·intro w'
          go_simp
          with_reducible rfl
         rotate_left
         ·simp only [Act.put, List.setIfInBounds_toArray, List.set_cons_zero, List.set_cons_succ, i64_w, i32_w]
          rfl
         refine pure_ (i := 3) (N := some 101) (v := ?_) (a' := ?_) #[false, true, true, true, false, false, false, false, false, false, false, false, false, false, false, false, false, false, false, false, false] rfl rfl (any_of HT_.out (by kernel_rfl)) (fun _ _ _ h => h) (Or.inl ⟨by rfl, ?_⟩) ?_ ?_
         rotate_left
         ·intro w'
          go_simp
          with_reducible rfl
         rotate_left
         ·simp only [Act.put, List.setIfInBounds_toArray, List.set_cons_zero, List.set_cons_succ, i64_w, i32_w]
          rfl
         refine pure_ (i := 5) (N := some 103) (v := ?_) (a' := ?_) #[false, true, true, true, false, true, false, false, false, false, false, false, false, false, false, false, false, false, false, false, false] rfl rfl (any_of HT_.out (by kernel_rfl)) (fun _ _ _ h => h) (Or.inl ⟨by rfl, ?_⟩) ?_ ?_
         rotate_left
         ·intro w'
          go_simp
          with_reducible rfl
         rotate_left
         ·simp only [Act.put, List.setIfInBounds_toArray, List.set_cons_zero, List.set_cons_succ, i64_w, i32_w]
          rfl
         refine pure_ (i := 6) (N := some 104) (v := ?_) (a' := ?_) #[false, true, true, true, false, true, true, false, false, false, false, false, false, false, false, false, false, false, false, false, false] rfl rfl (any_of HT_.out (by kernel_rfl)) (fun _ _ _ h => h) (Or.inl ⟨by rfl, ?_⟩) ?_ ?_
         rotate_left
         ·intro w'
          go_simp
          with_reducible rfl
         rotate_left
         ·simp only [Act.put, List.setIfInBounds_toArray, List.set_cons_zero, List.set_cons_succ, i64_w, i32_w]
          rfl
         refine pure_ (i := 7) (N := some 105) (v := ?_) (a' := ?_) #[false, true, true, true, false, true, true, true, false, false, false, false, false, false, false, false, false, false, false, false, false] rfl rfl (any_of HT_.out (by kernel_rfl)) (fun _ _ _ h => h) (Or.inl ⟨by rfl, ?_⟩) ?_ ?_
         rotate_left
         ·intro w'
          go_simp
          with_reducible rfl
         rotate_left
         ·simp only [Act.put, List.setIfInBounds_toArray, List.set_cons_zero, List.set_cons_succ, i64_w, i32_w]
          rfl
         refine pure_ (i := 10) (N := some 108) (v := ?_) (a' := ?_) #[false, true, true, true, false, true, true, true, false, false, true, false, false, false, false, false, false, false, false, false, false] rfl rfl (any_of HT_.out (by kernel_rfl)) (fun _ _ _ h => h) (Or.inl ⟨by rfl, ?_⟩) ?_ ?_
         rotate_left
         ·intro w'
          go_simp
          with_reducible rfl
         rotate_left
         ·simp only [Act.put, List.setIfInBounds_toArray, List.set_cons_zero, List.set_cons_succ, i64_w, i32_w]
          rfl
         refine pure_ (i := 11) (N := some 109) (v := ?_) (a' := ?_) #[false, true, true, true, false, true, true, true, false, false, true, true, false, false, false, false, false, false, false, false, false] rfl rfl (any_of HT_.out (by kernel_rfl)) (fun _ _ _ h => h) (Or.inl ⟨by rfl, ?_⟩) ?_ ?_
         rotate_left
         ·intro w'
          go_simp
          with_reducible rfl
         rotate_left
         ·simp only [Act.put, List.setIfInBounds_toArray, List.set_cons_zero, List.set_cons_succ, i64_w, i32_w]
          rfl
         refine pure_ (i := 12) (N := some 110) (v := ?_) (a' := ?_) #[false, true, true, true, false, true, true, true, false, false, true, true, true, false, false, false, false, false, false, false, false] rfl rfl (any_of HT_.out (by kernel_rfl)) (fun _ _ _ h => h) (Or.inl ⟨by rfl, ?_⟩) ?_ ?_
         rotate_left
         ·intro w'
          go_simp
          with_reducible rfl
         rotate_left
         ·simp only [Act.put, List.setIfInBounds_toArray, List.set_cons_zero, List.set_cons_succ, i64_w, i32_w]
          rfl
         refine join_ (σ := Value × Value × Value × Value × Value × Nat) 2 #[true, true, true, true, true, true, true, true, true, true, true, true, true, true, true, true, true, true, true, false, false] (fun s_ => [(98, s_.1), (102, s_.2.1), (106, s_.2.2.1), (107, s_.2.2.2.1), (111, s_.2.2.2.2.1), (112, .tuple #[.agg #[.string t230, .string t231, .string t232, .string t233, .bool t234, .int .i64 t235], .int .i64 t236]), (12, .pointer (some ⟨s_.2.2.2.2.2, 0, none⟩)), (97, .tuple #[.agg #[.string t230, .string t231, .string t232, .string t233, .bool t234, .int .i64 t235], .int .i64 t236]), (113, .agg #[.string t230, .string t231, .string t232, .string t233, .bool t234, .int .i64 t235]), (114, .int .i64 t236)]) (fun s_ w' => (Kd.R k32 32 w' w.heap.size (fun k_ => some k_ ≠ (.slice Ao67 y196.length co67 : Value).ownBlock ∧ some k_ ≠ (s_.2.2.1 : Value).ownBlock ∧ some k_ ≠ (s_.2.2.2.2.1 : Value).ownBlock) (.slice Ao66 y193.length co66) y193) ∧ (Kd.R k32 32 w' w.heap.size (fun k_ => some k_ ≠ (.slice Ao66 y193.length co66 : Value).ownBlock ∧ some k_ ≠ (s_.2.2.1 : Value).ownBlock ∧ some k_ ≠ (s_.2.2.2.2.1 : Value).ownBlock) (.slice Ao67 y196.length co67) y196) ∧ (Kd.R k32 32 w' w.heap.size (fun k_ => some k_ ≠ (.slice Ao66 y193.length co66 : Value).ownBlock ∧ some k_ ≠ (.slice Ao67 y196.length co67 : Value).ownBlock ∧ some k_ ≠ (s_.2.2.2.2.1 : Value).ownBlock) s_.2.2.1 y217) ∧ (Kd.R k32 32 w' w.heap.size (fun k_ => some k_ ≠ (.slice Ao66 y193.length co66 : Value).ownBlock ∧ some k_ ≠ (.slice Ao67 y196.length co67 : Value).ownBlock ∧ some k_ ≠ (s_.2.2.1 : Value).ownBlock) s_.2.2.2.2.1 y227) ∧ (w'.heap[gb180]? = some (.cells #[.string t173, .string t174, .string t175, .string t176, .bool t177, .int .i64 t178] 26 (0, 0))) ∧ (w'.heap[gb206]? = some (.cells #[.string t199, .string t200, .string t201, .string t202, .bool t203, .int .i64 t204] 26 (0, 0))) ∧ (w'.heap[s_.2.2.2.2.2]? = some (.cells #[.string (⟨#[]⟩ : ByteArray), .string (⟨#[]⟩ : ByteArray), .string (⟨#[]⟩ : ByteArray), .string (⟨#[]⟩ : ByteArray), .bool false, .int .i64 0] 26 (0, 0))) ∧ (w.heap.size ≤ s_.2.2.2.2.2) ∧ (w.heap.size ≤ s_.2.2.2.2.2) ∧ (gb180 ≠ s_.2.2.2.2.2) ∧ (s_.2.2.2.2.2 ≠ gb180) ∧ (gb206 ≠ s_.2.2.2.2.2) ∧ (s_.2.2.2.2.2 ≠ gb206) ∧ (Below w.heap.size w w')) ?_ ?_
         rotate_left
         ·intro hJ0_4_8_9_13_14_18
          refine join_ (σ := Value × Value × Value × Value × Value) 3 #[true, true, true, true, true, true, true, true, true, true, true, true, true, true, true, true, true, true, false, false, false] (fun s_ => [(98, s_.1), (102, s_.2.1), (106, s_.2.2.1), (107, s_.2.2.2.1), (111, s_.2.2.2.2), (112, .tuple #[.agg #[.string t230, .string t231, .string t232, .string t233, .bool t234, .int .i64 t235], .int .i64 t236]), (97, .tuple #[.agg #[.string t230, .string t231, .string t232, .string t233, .bool t234, .int .i64 t235], .int .i64 t236]), (113, .agg #[.string t230, .string t231, .string t232, .string t233, .bool t234, .int .i64 t235]), (114, .int .i64 t236)]) (fun s_ w' => (Kd.R k32 32 w' w.heap.size (fun k_ => some k_ ≠ (.slice Ao67 y196.length co67 : Value).ownBlock ∧ some k_ ≠ (s_.2.2.1 : Value).ownBlock ∧ some k_ ≠ (s_.2.2.2.2 : Value).ownBlock) (.slice Ao66 y193.length co66) y193) ∧ (Kd.R k32 32 w' w.heap.size (fun k_ => some k_ ≠ (.slice Ao66 y193.length co66 : Value).ownBlock ∧ some k_ ≠ (s_.2.2.1 : Value).ownBlock ∧ some k_ ≠ (s_.2.2.2.2 : Value).ownBlock) (.slice Ao67 y196.length co67) y196) ∧ (Kd.R k32 32 w' w.heap.size (fun k_ => some k_ ≠ (.slice Ao66 y193.length co66 : Value).ownBlock ∧ some k_ ≠ (.slice Ao67 y196.length co67 : Value).ownBlock ∧ some k_ ≠ (s_.2.2.2.2 : Value).ownBlock) s_.2.2.1 y217) ∧ (Kd.R k32 32 w' w.heap.size (fun k_ => some k_ ≠ (.slice Ao66 y193.length co66 : Value).ownBlock ∧ some k_ ≠ (.slice Ao67 y196.length co67 : Value).ownBlock ∧ some k_ ≠ (s_.2.2.1 : Value).ownBlock) s_.2.2.2.2 y227) ∧ (w'.heap[gb180]? = some (.cells #[.string t173, .string t174, .string t175, .string t176, .bool t177, .int .i64 t178] 26 (0, 0))) ∧ (w'.heap[gb206]? = some (.cells #[.string t199, .string t200, .string t201, .string t202, .bool t203, .int .i64 t204] 26 (0, 0))) ∧ (Below w.heap.size w w')) ?_ ?_
          rotate_left
          ·intro hJ0_4_8_9_13_14
           refine join_ (σ := Value × Value × Value × Value × Value × Nat) 6 #[true, true, true, true, true, true, true, true, true, true, true, true, true, true, false, false, false, false, true, false, false] (fun s_ => [(98, s_.1), (102, s_.2.1), (106, s_.2.2.1), (107, s_.2.2.2.1), (111, s_.2.2.2.2.1), (12, .pointer (some ⟨s_.2.2.2.2.2, 0, none⟩))]) (fun s_ w' => (Kd.R k32 32 w' w.heap.size (fun k_ => some k_ ≠ (.slice Ao67 y196.length co67 : Value).ownBlock ∧ some k_ ≠ (s_.2.2.1 : Value).ownBlock ∧ some k_ ≠ (s_.2.2.2.2.1 : Value).ownBlock) (.slice Ao66 y193.length co66) y193) ∧ (Kd.R k32 32 w' w.heap.size (fun k_ => some k_ ≠ (.slice Ao66 y193.length co66 : Value).ownBlock ∧ some k_ ≠ (s_.2.2.1 : Value).ownBlock ∧ some k_ ≠ (s_.2.2.2.2.1 : Value).ownBlock) (.slice Ao67 y196.length co67) y196) ∧ (Kd.R k32 32 w' w.heap.size (fun k_ => some k_ ≠ (.slice Ao66 y193.length co66 : Value).ownBlock ∧ some k_ ≠ (.slice Ao67 y196.length co67 : Value).ownBlock ∧ some k_ ≠ (s_.2.2.2.2.1 : Value).ownBlock) s_.2.2.1 y217) ∧ (Kd.R k32 32 w' w.heap.size (fun k_ => some k_ ≠ (.slice Ao66 y193.length co66 : Value).ownBlock ∧ some k_ ≠ (.slice Ao67 y196.length co67 : Value).ownBlock ∧ some k_ ≠ (s_.2.2.1 : Value).ownBlock) s_.2.2.2.2.1 y227) ∧ (w'.heap[gb180]? = some (.cells #[.string t173, .string t174, .string t175, .string t176, .bool t177, .int .i64 t178] 26 (0, 0))) ∧ (w'.heap[gb206]? = some (.cells #[.string t199, .string t200, .string t201, .string t202, .bool t203, .int .i64 t204] 26 (0, 0))) ∧ (w'.heap[s_.2.2.2.2.2]? = some (.cells #[.string (⟨#[]⟩ : ByteArray), .string (⟨#[]⟩ : ByteArray), .string (⟨#[]⟩ : ByteArray), .string (⟨#[]⟩ : ByteArray), .bool false, .int .i64 0] 26 (0, 0))) ∧ (w.heap.size ≤ s_.2.2.2.2.2) ∧ (w.heap.size ≤ s_.2.2.2.2.2) ∧ (gb180 ≠ s_.2.2.2.2.2) ∧ (s_.2.2.2.2.2 ≠ gb180) ∧ (gb206 ≠ s_.2.2.2.2.2) ∧ (s_.2.2.2.2.2 ≠ gb206) ∧ (Below w.heap.size w w')) ?_ ?_
           rotate_left
           ·intro hJ0_4_8_9_13_18
            refine join_ (σ := Value × Value × Value × Value × Value) 7 #[true, true, true, true, true, true, true, true, true, true, true, true, true, true, false, false, false, false, false, false, false] (fun s_ => [(98, s_.1), (102, s_.2.1), (106, s_.2.2.1), (107, s_.2.2.2.1), (111, s_.2.2.2.2)]) (fun s_ w' => (Kd.R k32 32 w' w.heap.size (fun k_ => some k_ ≠ (.slice Ao67 y196.length co67 : Value).ownBlock ∧ some k_ ≠ (s_.2.2.1 : Value).ownBlock ∧ some k_ ≠ (s_.2.2.2.2 : Value).ownBlock) (.slice Ao66 y193.length co66) y193) ∧ (Kd.R k32 32 w' w.heap.size (fun k_ => some k_ ≠ (.slice Ao66 y193.length co66 : Value).ownBlock ∧ some k_ ≠ (s_.2.2.1 : Value).ownBlock ∧ some k_ ≠ (s_.2.2.2.2 : Value).ownBlock) (.slice Ao67 y196.length co67) y196) ∧ (Kd.R k32 32 w' w.heap.size (fun k_ => some k_ ≠ (.slice Ao66 y193.length co66 : Value).ownBlock ∧ some k_ ≠ (.slice Ao67 y196.length co67 : Value).ownBlock ∧ some k_ ≠ (s_.2.2.2.2 : Value).ownBlock) s_.2.2.1 y217) ∧ (Kd.R k32 32 w' w.heap.size (fun k_ => some k_ ≠ (.slice Ao66 y193.length co66 : Value).ownBlock ∧ some k_ ≠ (.slice Ao67 y196.length co67 : Value).ownBlock ∧ some k_ ≠ (s_.2.2.1 : Value).ownBlock) s_.2.2.2.2 y227) ∧ (w'.heap[gb180]? = some (.cells #[.string t173, .string t174, .string t175, .string t176, .bool t177, .int .i64 t178] 26 (0, 0))) ∧ (w'.heap[gb206]? = some (.cells #[.string t199, .string t200, .string t201, .string t202, .bool t203, .int .i64 t204] 26 (0, 0))) ∧ (Below w.heap.size w w')) ?_ ?_
            rotate_left
            ·intro hJ0_4_8_9_13
             refine join_ (σ := Value × Value × Value × Value × Nat) 7 #[true, true, true, true, true, true, true, true, true, true, true, true, true, false, false, false, false, false, true, false, false] (fun s_ => [(98, s_.1), (102, s_.2.1), (106, s_.2.2.1), (107, s_.2.2.2.1), (12, .pointer (some ⟨s_.2.2.2.2, 0, none⟩))]) (fun s_ w' => (Kd.R k32 32 w' w.heap.size (fun k_ => some k_ ≠ (.slice Ao67 y196.length co67 : Value).ownBlock ∧ some k_ ≠ (s_.2.2.1 : Value).ownBlock ∧ some k_ ≠ (s_.2.2.2.1 : Value).ownBlock) (.slice Ao66 y193.length co66) y193) ∧ (Kd.R k32 32 w' w.heap.size (fun k_ => some k_ ≠ (.slice Ao66 y193.length co66 : Value).ownBlock ∧ some k_ ≠ (s_.2.2.1 : Value).ownBlock ∧ some k_ ≠ (s_.2.2.2.1 : Value).ownBlock) (.slice Ao67 y196.length co67) y196) ∧ (Kd.R k32 32 w' w.heap.size (fun k_ => some k_ ≠ (.slice Ao66 y193.length co66 : Value).ownBlock ∧ some k_ ≠ (.slice Ao67 y196.length co67 : Value).ownBlock ∧ some k_ ≠ (s_.2.2.2.1 : Value).ownBlock) s_.2.2.1 y217) ∧ (Kd.R k32 32 w' w.heap.size (fun k_ => some k_ ≠ (.slice Ao66 y193.length co66 : Value).ownBlock ∧ some k_ ≠ (.slice Ao67 y196.length co67 : Value).ownBlock ∧ some k_ ≠ (s_.2.2.1 : Value).ownBlock) s_.2.2.2.1 y220) ∧ (w'.heap[gb180]? = some (.cells #[.string t173, .string t174, .string t175, .string t176, .bool t177, .int .i64 t178] 26 (0, 0))) ∧ (w'.heap[gb206]? = some (.cells #[.string t199, .string t200, .string t201, .string t202, .bool t203, .int .i64 t204] 26 (0, 0))) ∧ (w'.heap[s_.2.2.2.2]? = some (.cells #[.string (⟨#[]⟩ : ByteArray), .string (⟨#[]⟩ : ByteArray), .string (⟨#[]⟩ : ByteArray), .string (⟨#[]⟩ : ByteArray), .bool false, .int .i64 0] 26 (0, 0))) ∧ (w.heap.size ≤ s_.2.2.2.2) ∧ (w.heap.size ≤ s_.2.2.2.2) ∧ (gb180 ≠ s_.2.2.2.2) ∧ (s_.2.2.2.2 ≠ gb180) ∧ (gb206 ≠ s_.2.2.2.2) ∧ (s_.2.2.2.2 ≠ gb206) ∧ (Below w.heap.size w w')) ?_ ?_
             rotate_left
             ·intro hJ0_4_8_9_18
              refine join_ (σ := Value × Value × Value × Value) 8 #[true, true, true, true, true, true, true, true, true, true, true, true, true, false, false, false, false, false, false, false, false] (fun s_ => [(98, s_.1), (102, s_.2.1), (106, s_.2.2.1), (107, s_.2.2.2)]) (fun s_ w' => (Kd.R k32 32 w' w.heap.size (fun k_ => some k_ ≠ (.slice Ao67 y196.length co67 : Value).ownBlock ∧ some k_ ≠ (s_.2.2.1 : Value).ownBlock ∧ some k_ ≠ (s_.2.2.2 : Value).ownBlock) (.slice Ao66 y193.length co66) y193) ∧ (Kd.R k32 32 w' w.heap.size (fun k_ => some k_ ≠ (.slice Ao66 y193.length co66 : Value).ownBlock ∧ some k_ ≠ (s_.2.2.1 : Value).ownBlock ∧ some k_ ≠ (s_.2.2.2 : Value).ownBlock) (.slice Ao67 y196.length co67) y196) ∧ (Kd.R k32 32 w' w.heap.size (fun k_ => some k_ ≠ (.slice Ao66 y193.length co66 : Value).ownBlock ∧ some k_ ≠ (.slice Ao67 y196.length co67 : Value).ownBlock ∧ some k_ ≠ (s_.2.2.2 : Value).ownBlock) s_.2.2.1 y217) ∧ (Kd.R k32 32 w' w.heap.size (fun k_ => some k_ ≠ (.slice Ao66 y193.length co66 : Value).ownBlock ∧ some k_ ≠ (.slice Ao67 y196.length co67 : Value).ownBlock ∧ some k_ ≠ (s_.2.2.1 : Value).ownBlock) s_.2.2.2 y220) ∧ (w'.heap[gb180]? = some (.cells #[.string t173, .string t174, .string t175, .string t176, .bool t177, .int .i64 t178] 26 (0, 0))) ∧ (w'.heap[gb206]? = some (.cells #[.string t199, .string t200, .string t201, .string t202, .bool t203, .int .i64 t204] 26 (0, 0))) ∧ (Below w.heap.size w w')) ?_ ?_
              rotate_left
              ·intro hJ0_4_8_9
               refine join_ (σ := Value × Value × Value × Nat) 8 #[true, true, true, true, true, true, true, true, true, false, true, true, true, false, false, false, false, false, true, false, false] (fun s_ => [(98, s_.1), (102, s_.2.1), (106, s_.2.2.1), (12, .pointer (some ⟨s_.2.2.2, 0, none⟩))]) (fun s_ w' => (Kd.R k32 32 w' w.heap.size (fun k_ => some k_ ≠ (.slice Ao67 y196.length co67 : Value).ownBlock ∧ some k_ ≠ (s_.2.1 : Value).ownBlock ∧ some k_ ≠ (s_.2.2.1 : Value).ownBlock) (.slice Ao66 y193.length co66) y193) ∧ (Kd.R k32 32 w' w.heap.size (fun k_ => some k_ ≠ (.slice Ao66 y193.length co66 : Value).ownBlock ∧ some k_ ≠ (s_.2.1 : Value).ownBlock ∧ some k_ ≠ (s_.2.2.1 : Value).ownBlock) (.slice Ao67 y196.length co67) y196) ∧ (Kd.R k32 32 w' w.heap.size (fun k_ => some k_ ≠ (.slice Ao66 y193.length co66 : Value).ownBlock ∧ some k_ ≠ (.slice Ao67 y196.length co67 : Value).ownBlock ∧ some k_ ≠ (s_.2.2.1 : Value).ownBlock) s_.2.1 y214) ∧ (Kd.R k32 32 w' w.heap.size (fun k_ => some k_ ≠ (.slice Ao66 y193.length co66 : Value).ownBlock ∧ some k_ ≠ (.slice Ao67 y196.length co67 : Value).ownBlock ∧ some k_ ≠ (s_.2.1 : Value).ownBlock) s_.2.2.1 y217) ∧ (w'.heap[gb180]? = some (.cells #[.string t173, .string t174, .string t175, .string t176, .bool t177, .int .i64 t178] 26 (0, 0))) ∧ (w'.heap[gb206]? = some (.cells #[.string t199, .string t200, .string t201, .string t202, .bool t203, .int .i64 t204] 26 (0, 0))) ∧ (w'.heap[s_.2.2.2]? = some (.cells #[.string (⟨#[]⟩ : ByteArray), .string (⟨#[]⟩ : ByteArray), .string (⟨#[]⟩ : ByteArray), .string (⟨#[]⟩ : ByteArray), .bool false, .int .i64 0] 26 (0, 0))) ∧ (w.heap.size ≤ s_.2.2.2) ∧ (w.heap.size ≤ s_.2.2.2) ∧ (gb180 ≠ s_.2.2.2) ∧ (s_.2.2.2 ≠ gb180) ∧ (gb206 ≠ s_.2.2.2) ∧ (s_.2.2.2 ≠ gb206) ∧ (Below w.heap.size w w')) ?_ ?_
               rotate_left
               ·intro hJ0_4_8_18
                refine join_ (σ := Value × Value × Value) 9 #[true, true, true, true, true, true, true, true, true, false, true, true, true, false, false, false, false, false, false, false, false] (fun s_ => [(98, s_.1), (102, s_.2.1), (106, s_.2.2)]) (fun s_ w' => (Kd.R k32 32 w' w.heap.size (fun k_ => some k_ ≠ (.slice Ao67 y196.length co67 : Value).ownBlock ∧ some k_ ≠ (s_.2.1 : Value).ownBlock ∧ some k_ ≠ (s_.2.2 : Value).ownBlock) (.slice Ao66 y193.length co66) y193) ∧ (Kd.R k32 32 w' w.heap.size (fun k_ => some k_ ≠ (.slice Ao66 y193.length co66 : Value).ownBlock ∧ some k_ ≠ (s_.2.1 : Value).ownBlock ∧ some k_ ≠ (s_.2.2 : Value).ownBlock) (.slice Ao67 y196.length co67) y196) ∧ (Kd.R k32 32 w' w.heap.size (fun k_ => some k_ ≠ (.slice Ao66 y193.length co66 : Value).ownBlock ∧ some k_ ≠ (.slice Ao67 y196.length co67 : Value).ownBlock ∧ some k_ ≠ (s_.2.2 : Value).ownBlock) s_.2.1 y214) ∧ (Kd.R k32 32 w' w.heap.size (fun k_ => some k_ ≠ (.slice Ao66 y193.length co66 : Value).ownBlock ∧ some k_ ≠ (.slice Ao67 y196.length co67 : Value).ownBlock ∧ some k_ ≠ (s_.2.1 : Value).ownBlock) s_.2.2 y217) ∧ (w'.heap[gb180]? = some (.cells #[.string t173, .string t174, .string t175, .string t176, .bool t177, .int .i64 t178] 26 (0, 0))) ∧ (w'.heap[gb206]? = some (.cells #[.string t199, .string t200, .string t201, .string t202, .bool t203, .int .i64 t204] 26 (0, 0))) ∧ (Below w.heap.size w w')) ?_ ?_
                rotate_left
                ·intro hJ0_4_8
                 refine join_ (σ := Value × Value × Nat) 9 #[true, true, true, true, true, true, true, true, false, false, true, true, true, false, false, false, false, false, true, false, false] (fun s_ => [(98, s_.1), (102, s_.2.1), (12, .pointer (some ⟨s_.2.2, 0, none⟩))]) (fun s_ w' => (Kd.R k32 32 w' w.heap.size (fun k_ => some k_ ≠ (.slice Ao67 y196.length co67 : Value).ownBlock ∧ some k_ ≠ (s_.2.1 : Value).ownBlock) (.slice Ao66 y193.length co66) y193) ∧ (Kd.R k32 32 w' w.heap.size (fun k_ => some k_ ≠ (.slice Ao66 y193.length co66 : Value).ownBlock ∧ some k_ ≠ (s_.2.1 : Value).ownBlock) (.slice Ao67 y196.length co67) y196) ∧ (Kd.R k32 32 w' w.heap.size (fun k_ => some k_ ≠ (.slice Ao66 y193.length co66 : Value).ownBlock ∧ some k_ ≠ (.slice Ao67 y196.length co67 : Value).ownBlock) s_.2.1 y214) ∧ (w'.heap[gb180]? = some (.cells #[.string t173, .string t174, .string t175, .string t176, .bool t177, .int .i64 t178] 26 (0, 0))) ∧ (w'.heap[gb206]? = some (.cells #[.string t199, .string t200, .string t201, .string t202, .bool t203, .int .i64 t204] 26 (0, 0))) ∧ (w'.heap[s_.2.2]? = some (.cells #[.string (⟨#[]⟩ : ByteArray), .string (⟨#[]⟩ : ByteArray), .string (⟨#[]⟩ : ByteArray), .string (⟨#[]⟩ : ByteArray), .bool false, .int .i64 0] 26 (0, 0))) ∧ (w.heap.size ≤ s_.2.2) ∧ (w.heap.size ≤ s_.2.2) ∧ (gb180 ≠ s_.2.2) ∧ (s_.2.2 ≠ gb180) ∧ (gb206 ≠ s_.2.2) ∧ (s_.2.2 ≠ gb206) ∧ (Below w.heap.size w w')) ?_ ?_
                 rotate_left
                 ·intro hJ0_4_18
                  refine join_ (σ := Value × Value × Nat) 9 #[true, true, true, true, false, true, true, true, true, false, true, true, true, false, false, false, false, false, true, false, false] (fun s_ => [(98, s_.1), (106, s_.2.1), (12, .pointer (some ⟨s_.2.2, 0, none⟩))]) (fun s_ w' => (Kd.R k32 32 w' w.heap.size (fun k_ => some k_ ≠ (.slice Ao67 y196.length co67 : Value).ownBlock ∧ some k_ ≠ (s_.1 : Value).ownBlock ∧ some k_ ≠ (s_.2.1 : Value).ownBlock) (.slice Ao66 y193.length co66) y193) ∧ (Kd.R k32 32 w' w.heap.size (fun k_ => some k_ ≠ (.slice Ao66 y193.length co66 : Value).ownBlock ∧ some k_ ≠ (s_.1 : Value).ownBlock ∧ some k_ ≠ (s_.2.1 : Value).ownBlock) (.slice Ao67 y196.length co67) y196) ∧ (Kd.R k32 32 w' w.heap.size (fun k_ => some k_ ≠ (.slice Ao66 y193.length co66 : Value).ownBlock ∧ some k_ ≠ (.slice Ao67 y196.length co67 : Value).ownBlock ∧ some k_ ≠ (s_.2.1 : Value).ownBlock) s_.1 y207) ∧ (Kd.R k32 32 w' w.heap.size (fun k_ => some k_ ≠ (.slice Ao66 y193.length co66 : Value).ownBlock ∧ some k_ ≠ (.slice Ao67 y196.length co67 : Value).ownBlock ∧ some k_ ≠ (s_.1 : Value).ownBlock) s_.2.1 y217) ∧ (w'.heap[gb180]? = some (.cells #[.string t173, .string t174, .string t175, .string t176, .bool t177, .int .i64 t178] 26 (0, 0))) ∧ (w'.heap[gb206]? = some (.cells #[.string t199, .string t200, .string t201, .string t202, .bool t203, .int .i64 t204] 26 (0, 0))) ∧ (w'.heap[s_.2.2]? = some (.cells #[.string (⟨#[]⟩ : ByteArray), .string (⟨#[]⟩ : ByteArray), .string (⟨#[]⟩ : ByteArray), .string (⟨#[]⟩ : ByteArray), .bool false, .int .i64 0] 26 (0, 0))) ∧ (w.heap.size ≤ s_.2.2) ∧ (w.heap.size ≤ s_.2.2) ∧ (gb180 ≠ s_.2.2) ∧ (s_.2.2 ≠ gb180) ∧ (gb206 ≠ s_.2.2) ∧ (s_.2.2 ≠ gb206) ∧ (Below w.heap.size w w')) ?_ ?_
                  rotate_left
                  ·intro hJ0_8_18
                   refine join_ (σ := Value × Value) 10 #[true, true, true, true, true, true, true, true, false, false, true, true, true, false, false, false, false, false, false, false, false] (fun s_ => [(98, s_.1), (102, s_.2)]) (fun s_ w' => (Kd.R k32 32 w' w.heap.size (fun k_ => some k_ ≠ (.slice Ao67 y196.length co67 : Value).ownBlock ∧ some k_ ≠ (s_.2 : Value).ownBlock) (.slice Ao66 y193.length co66) y193) ∧ (Kd.R k32 32 w' w.heap.size (fun k_ => some k_ ≠ (.slice Ao66 y193.length co66 : Value).ownBlock ∧ some k_ ≠ (s_.2 : Value).ownBlock) (.slice Ao67 y196.length co67) y196) ∧ (Kd.R k32 32 w' w.heap.size (fun k_ => some k_ ≠ (.slice Ao66 y193.length co66 : Value).ownBlock ∧ some k_ ≠ (.slice Ao67 y196.length co67 : Value).ownBlock) s_.2 y214) ∧ (w'.heap[gb180]? = some (.cells #[.string t173, .string t174, .string t175, .string t176, .bool t177, .int .i64 t178] 26 (0, 0))) ∧ (w'.heap[gb206]? = some (.cells #[.string t199, .string t200, .string t201, .string t202, .bool t203, .int .i64 t204] 26 (0, 0))) ∧ (Below w.heap.size w w')) ?_ ?_
                   rotate_left
                   ·intro hJ0_4
                    refine join_ (σ := Value × Value) 10 #[true, true, true, true, false, true, true, true, true, false, true, true, true, false, false, false, false, false, false, false, false] (fun s_ => [(98, s_.1), (106, s_.2)]) (fun s_ w' => (Kd.R k32 32 w' w.heap.size (fun k_ => some k_ ≠ (.slice Ao67 y196.length co67 : Value).ownBlock ∧ some k_ ≠ (s_.1 : Value).ownBlock ∧ some k_ ≠ (s_.2 : Value).ownBlock) (.slice Ao66 y193.length co66) y193) ∧ (Kd.R k32 32 w' w.heap.size (fun k_ => some k_ ≠ (.slice Ao66 y193.length co66 : Value).ownBlock ∧ some k_ ≠ (s_.1 : Value).ownBlock ∧ some k_ ≠ (s_.2 : Value).ownBlock) (.slice Ao67 y196.length co67) y196) ∧ (Kd.R k32 32 w' w.heap.size (fun k_ => some k_ ≠ (.slice Ao66 y193.length co66 : Value).ownBlock ∧ some k_ ≠ (.slice Ao67 y196.length co67 : Value).ownBlock ∧ some k_ ≠ (s_.2 : Value).ownBlock) s_.1 y207) ∧ (Kd.R k32 32 w' w.heap.size (fun k_ => some k_ ≠ (.slice Ao66 y193.length co66 : Value).ownBlock ∧ some k_ ≠ (.slice Ao67 y196.length co67 : Value).ownBlock ∧ some k_ ≠ (s_.1 : Value).ownBlock) s_.2 y217) ∧ (w'.heap[gb180]? = some (.cells #[.string t173, .string t174, .string t175, .string t176, .bool t177, .int .i64 t178] 26 (0, 0))) ∧ (w'.heap[gb206]? = some (.cells #[.string t199, .string t200, .string t201, .string t202, .bool t203, .int .i64 t204] 26 (0, 0))) ∧ (Below w.heap.size w w')) ?_ ?_
                    rotate_left
                    ·intro hJ0_8
                     refine join_ (σ := Value × Nat) 10 #[true, true, true, true, false, true, true, true, false, false, true, true, true, false, false, false, false, false, true, false, false] (fun s_ => [(98, s_.1), (12, .pointer (some ⟨s_.2, 0, none⟩))]) (fun s_ w' => (Kd.R k32 32 w' w.heap.size (fun k_ => some k_ ≠ (.slice Ao67 y196.length co67 : Value).ownBlock ∧ some k_ ≠ (s_.1 : Value).ownBlock) (.slice Ao66 y193.length co66) y193) ∧ (Kd.R k32 32 w' w.heap.size (fun k_ => some k_ ≠ (.slice Ao66 y193.length co66 : Value).ownBlock ∧ some k_ ≠ (s_.1 : Value).ownBlock) (.slice Ao67 y196.length co67) y196) ∧ (Kd.R k32 32 w' w.heap.size (fun k_ => some k_ ≠ (.slice Ao66 y193.length co66 : Value).ownBlock ∧ some k_ ≠ (.slice Ao67 y196.length co67 : Value).ownBlock) s_.1 y207) ∧ (w'.heap[gb180]? = some (.cells #[.string t173, .string t174, .string t175, .string t176, .bool t177, .int .i64 t178] 26 (0, 0))) ∧ (w'.heap[gb206]? = some (.cells #[.string t199, .string t200, .string t201, .string t202, .bool t203, .int .i64 t204] 26 (0, 0))) ∧ (w'.heap[s_.2]? = some (.cells #[.string (⟨#[]⟩ : ByteArray), .string (⟨#[]⟩ : ByteArray), .string (⟨#[]⟩ : ByteArray), .string (⟨#[]⟩ : ByteArray), .bool false, .int .i64 0] 26 (0, 0))) ∧ (w.heap.size ≤ s_.2) ∧ (w.heap.size ≤ s_.2) ∧ (gb180 ≠ s_.2) ∧ (s_.2 ≠ gb180) ∧ (gb206 ≠ s_.2) ∧ (s_.2 ≠ gb206) ∧ (Below w.heap.size w w')) ?_ ?_
                     rotate_left
                     ·intro hJ0_18
                      refine join_ (σ := Value × Nat) 10 #[false, true, true, true, false, true, true, true, true, false, true, true, true, false, false, false, false, false, true, false, false] (fun s_ => [(106, s_.1), (12, .pointer (some ⟨s_.2, 0, none⟩))]) (fun s_ w' => (Kd.R k32 32 w' w.heap.size (fun k_ => some k_ ≠ (.slice Ao67 y196.length co67 : Value).ownBlock ∧ some k_ ≠ (s_.1 : Value).ownBlock) (.slice Ao66 y193.length co66) y193) ∧ (Kd.R k32 32 w' w.heap.size (fun k_ => some k_ ≠ (.slice Ao66 y193.length co66 : Value).ownBlock ∧ some k_ ≠ (s_.1 : Value).ownBlock) (.slice Ao67 y196.length co67) y196) ∧ (Kd.R k32 32 w' w.heap.size (fun k_ => some k_ ≠ (.slice Ao66 y193.length co66 : Value).ownBlock ∧ some k_ ≠ (.slice Ao67 y196.length co67 : Value).ownBlock) s_.1 y217) ∧ (w'.heap[gb180]? = some (.cells #[.string t173, .string t174, .string t175, .string t176, .bool t177, .int .i64 t178] 26 (0, 0))) ∧ (w'.heap[gb206]? = some (.cells #[.string t199, .string t200, .string t201, .string t202, .bool t203, .int .i64 t204] 26 (0, 0))) ∧ (w'.heap[s_.2]? = some (.cells #[.string (⟨#[]⟩ : ByteArray), .string (⟨#[]⟩ : ByteArray), .string (⟨#[]⟩ : ByteArray), .string (⟨#[]⟩ : ByteArray), .bool false, .int .i64 0] 26 (0, 0))) ∧ (w.heap.size ≤ s_.2) ∧ (w.heap.size ≤ s_.2) ∧ (gb180 ≠ s_.2) ∧ (s_.2 ≠ gb180) ∧ (gb206 ≠ s_.2) ∧ (s_.2 ≠ gb206) ∧ (Below w.heap.size w w')) ?_ ?_
                      rotate_left
                      ·intro hJ8_18
                       refine join_ (σ := Value) 11 #[true, true, true, true, false, true, true, true, false, false, true, true, true, false, false, false, false, false, false, false, false] (fun s_ => [(98, s_)]) (fun s_ w' => (Kd.R k32 32 w' w.heap.size (fun k_ => some k_ ≠ (.slice Ao67 y196.length co67 : Value).ownBlock ∧ some k_ ≠ (s_ : Value).ownBlock) (.slice Ao66 y193.length co66) y193) ∧ (Kd.R k32 32 w' w.heap.size (fun k_ => some k_ ≠ (.slice Ao66 y193.length co66 : Value).ownBlock ∧ some k_ ≠ (s_ : Value).ownBlock) (.slice Ao67 y196.length co67) y196) ∧ (Kd.R k32 32 w' w.heap.size (fun k_ => some k_ ≠ (.slice Ao66 y193.length co66 : Value).ownBlock ∧ some k_ ≠ (.slice Ao67 y196.length co67 : Value).ownBlock) s_ y207) ∧ (w'.heap[gb180]? = some (.cells #[.string t173, .string t174, .string t175, .string t176, .bool t177, .int .i64 t178] 26 (0, 0))) ∧ (w'.heap[gb206]? = some (.cells #[.string t199, .string t200, .string t201, .string t202, .bool t203, .int .i64 t204] 26 (0, 0))) ∧ (Below w.heap.size w w')) ?_ ?_
                       rotate_left
                       ·intro hJ0
                        refine join_ (σ := Value) 11 #[false, true, true, true, false, true, true, true, true, false, true, true, true, false, false, false, false, false, false, false, false] (fun s_ => [(106, s_)]) (fun s_ w' => (Kd.R k32 32 w' w.heap.size (fun k_ => some k_ ≠ (.slice Ao67 y196.length co67 : Value).ownBlock ∧ some k_ ≠ (s_ : Value).ownBlock) (.slice Ao66 y193.length co66) y193) ∧ (Kd.R k32 32 w' w.heap.size (fun k_ => some k_ ≠ (.slice Ao66 y193.length co66 : Value).ownBlock ∧ some k_ ≠ (s_ : Value).ownBlock) (.slice Ao67 y196.length co67) y196) ∧ (Kd.R k32 32 w' w.heap.size (fun k_ => some k_ ≠ (.slice Ao66 y193.length co66 : Value).ownBlock ∧ some k_ ≠ (.slice Ao67 y196.length co67 : Value).ownBlock) s_ y217) ∧ (w'.heap[gb180]? = some (.cells #[.string t173, .string t174, .string t175, .string t176, .bool t177, .int .i64 t178] 26 (0, 0))) ∧ (w'.heap[gb206]? = some (.cells #[.string t199, .string t200, .string t201, .string t202, .bool t203, .int .i64 t204] 26 (0, 0))) ∧ (Below w.heap.size w w')) ?_ ?_
                        rotate_left
                        ·intro hJ8
                         refine join_ (σ := Nat) 11 #[false, true, true, true, false, true, true, true, false, false, true, true, true, false, false, false, false, false, true, false, false] (fun s_ => [(12, .pointer (some ⟨s_, 0, none⟩))]) (fun s_ w' => (Kd.R k32 32 w' w.heap.size (fun k_ => some k_ ≠ (.slice Ao67 y196.length co67 : Value).ownBlock) (.slice Ao66 y193.length co66) y193) ∧ (Kd.R k32 32 w' w.heap.size (fun k_ => some k_ ≠ (.slice Ao66 y193.length co66 : Value).ownBlock) (.slice Ao67 y196.length co67) y196) ∧ (w'.heap[gb180]? = some (.cells #[.string t173, .string t174, .string t175, .string t176, .bool t177, .int .i64 t178] 26 (0, 0))) ∧ (w'.heap[gb206]? = some (.cells #[.string t199, .string t200, .string t201, .string t202, .bool t203, .int .i64 t204] 26 (0, 0))) ∧ (w'.heap[s_]? = some (.cells #[.string (⟨#[]⟩ : ByteArray), .string (⟨#[]⟩ : ByteArray), .string (⟨#[]⟩ : ByteArray), .string (⟨#[]⟩ : ByteArray), .bool false, .int .i64 0] 26 (0, 0))) ∧ (w.heap.size ≤ s_) ∧ (w.heap.size ≤ s_) ∧ (gb180 ≠ s_) ∧ (s_ ≠ gb180) ∧ (gb206 ≠ s_) ∧ (s_ ≠ gb206) ∧ (Below w.heap.size w w')) ?_ ?_
                         rotate_left
                         ·intro hJ18
                          refine three_ (i := 0) (j := 8) (k := 18) (Ni := some 98) (Nj := some 106) (Nk := some 12) #[true, true, true, true, false, true, true, true, false, false, true, true, true, false, false, false, false, false, false, false, false] #[false, true, true, true, false, true, true, true, true, false, true, true, true, false, false, false, false, false, false, false, false] #[false, true, true, true, false, true, true, true, false, false, true, true, true, false, false, false, false, false, true, false, false] rfl rfl rfl rfl rfl rfl (three_of HT_.out (by kernel_rfl)) (by decide) (by decide) (by decide) (fun K hK => ?_) (fun K hK => ?_) (fun K hK => ?_)
                          ·skip
                           refine Kd.R_lit_step k32 _ 32 ?hg (N := 98) ?hd (xs := ([] : List (S32))) (inner := []) (ok := fun _ => True) (okp := fun _ => True) ?hr ?hp (fun _ hk => hk) trivial (Below.refl _ _) (Nat.le_refl _) (by simp) ?_; (case hd => rfl); (case hg => rfl); (case hr => first | (go_simp; done) | (go_simp; rfl)); (case hp => exact (Reps.none _ _))
                           intro v208 w76 ho77 hb hg_ hnew_
                           clear hg_ hnew_
                           (first | rw [← Ny207.out] at ho77 | (simp only [Int.reduceToNat] at ho77; rw [← Ny207.out] at ho77))
                           have n0_ := Aside0.mk (Kd.R_elder' (upR HO195) (Kd.R_base ho77) hb)
                           have n1_ := Aside0.mk (Kd.R_elder' (upR HO198) (Kd.R_base ho77) hb)
                           have n2_ := Aside0.mk (Kd.R_lower (Kd.R_new' (Kd.R_new' ho77 (Kd.R_lt (upR HO195))) (Kd.R_lt (upR HO198))) (below_size (upB HB)))
                           have n3_ := Aside0.mk (blk_below (g := gb180) (o := .cells #[.string t173, .string t174, .string t175, .string t176, .bool t177, .int .i64 t178] 26 (0, 0)) (upK BK180) hb)
                           have n4_ := Aside0.mk (blk_below (g := gb206) (o := .cells #[.string t199, .string t200, .string t201, .string t202, .bool t203, .int .i64 t204] 26 (0, 0)) (upK BK206) hb)
                           have n5_ := Aside0.mk (below_step (upB HB) hb)
                           clear HO195 HO198 BK180 BK206 HB; have HO195 := n0_; have HO198 := n1_; have HO209 := n2_; have BK180 := n3_; have BK206 := n4_; have HB := n5_; clear n0_ n1_ n2_ n3_ n4_ n5_ hb ho77
                           refine hK.out _ _ trivial (fun hHeld => ?_)
                           clear hK K
                           refine norm_ (a' := ?_) ?_ ?_
                           rotate_left
                           ·show Act.put _ (some 98) _ = _
                            simp only [Act.put, List.setIfInBounds_toArray, List.set_cons_zero, List.set_cons_succ, i64_w, i32_w]
                            rfl
                           exact norm_ (by first | (simp only [putAll, Act.put, List.setIfInBounds_toArray, List.set_cons_zero, List.set_cons_succ]; done) | (simp only [putAll, Act.put, List.setIfInBounds_toArray, List.set_cons_zero, List.set_cons_succ]; rfl)) (hJ0 (v208) _ ⟨(upR HO195), (upR HO198), (by (with_reducible repeat (first | apply Kd.R_alloc | apply Kd.R_drewN | apply Kd.R_drew)); exact Kd.R_mono HO209.out (fun _ hk => ⟨hk.1.2, hk.2⟩)), (upK BK180), (upK BK206), (upB HB)⟩)
                          ·skip
                           refine Kd.R_lit_step k32 _ 32 ?hg (N := 106) ?hd (xs := ([(⟨a1, a2, false⟩ : S32)] : List (S32))) (inner := [.string a1, .string a2, .bool false]) (ok := fun _ => True) (okp := fun _ => True) ?hr ?hp (fun _ hk => hk) trivial (Below.refl _ _) (Nat.le_refl _) (by simp) ?_; (case hd => rfl); (case hg => rfl); (case hr => first | (go_simp; done) | (go_simp; rfl)); (case hp => exact (Reps.c3 (show Kd.M k32 _ _ _ (⟨a1, a2, false⟩ : S32) [.string a1, .string a2, .bool false] from (k32_mkM _ _ _ (⟨a1, a2, false⟩ : S32) )) (Reps.none _ _)))
                           intro v218 w76 ho77 hb hg_ hnew_
                           clear hg_ hnew_
                           (first | rw [← Ny217.out] at ho77 | (simp only [Int.reduceToNat] at ho77; rw [← Ny217.out] at ho77))
                           have n0_ := Aside0.mk (Kd.R_elder' (upR HO195) (Kd.R_base ho77) hb)
                           have n1_ := Aside0.mk (Kd.R_elder' (upR HO198) (Kd.R_base ho77) hb)
                           have n2_ := Aside0.mk (Kd.R_lower (Kd.R_new' (Kd.R_new' ho77 (Kd.R_lt (upR HO195))) (Kd.R_lt (upR HO198))) (below_size (upB HB)))
                           have n3_ := Aside0.mk (blk_below (g := gb180) (o := .cells #[.string t173, .string t174, .string t175, .string t176, .bool t177, .int .i64 t178] 26 (0, 0)) (upK BK180) hb)
                           have n4_ := Aside0.mk (blk_below (g := gb206) (o := .cells #[.string t199, .string t200, .string t201, .string t202, .bool t203, .int .i64 t204] 26 (0, 0)) (upK BK206) hb)
                           have n5_ := Aside0.mk (below_step (upB HB) hb)
                           clear HO195 HO198 BK180 BK206 HB; have HO195 := n0_; have HO198 := n1_; have HO219 := n2_; have BK180 := n3_; have BK206 := n4_; have HB := n5_; clear n0_ n1_ n2_ n3_ n4_ n5_ hb ho77
                           refine hK.out _ _ trivial (fun hHeld => ?_)
                           clear hK K
                           refine norm_ (a' := ?_) ?_ ?_
                           rotate_left
                           ·show Act.put _ (some 106) _ = _
                            simp only [Act.put, List.setIfInBounds_toArray, List.set_cons_zero, List.set_cons_succ, i64_w, i32_w]
                            rfl
                           exact norm_ (by first | (simp only [putAll, Act.put, List.setIfInBounds_toArray, List.set_cons_zero, List.set_cons_succ]; done) | (simp only [putAll, Act.put, List.setIfInBounds_toArray, List.set_cons_zero, List.set_cons_succ]; rfl)) (hJ8 (v218) _ ⟨(upR HO195), (upR HO198), (by (with_reducible repeat (first | apply Kd.R_alloc | apply Kd.R_drewN | apply Kd.R_drew)); exact Kd.R_mono HO219.out (fun _ hk => ⟨hk.1.2, hk.2⟩)), (upK BK180), (upK BK206), (upB HB)⟩)
                          ·skip
                           refine box_step ?hg (N := 12) ?hd (cs := #[.string (⟨#[]⟩ : ByteArray), .string (⟨#[]⟩ : ByteArray), .string (⟨#[]⟩ : ByteArray), .string (⟨#[]⟩ : ByteArray), .bool false, .int .i64 0]) (t := 26) ?hr ?_; (case hd => rfl); (case hg => rfl); (case hr => first | (go_simp; done) | (go_simp; rfl))
                           intro gb237 hg w76 hbox hb
                           have n0_ := Aside0.mk (Kd.R_below (upR HO195) hb)
                           have n1_ := Aside0.mk (Kd.R_below (upR HO198) hb)
                           have n2_ := Aside0.mk (blk_below (g := gb180) (o := .cells #[.string t173, .string t174, .string t175, .string t176, .bool t177, .int .i64 t178] 26 (0, 0)) (upK BK180) hb)
                           have n3_ := Aside0.mk (blk_below (g := gb206) (o := .cells #[.string t199, .string t200, .string t201, .string t202, .bool t203, .int .i64 t204] 26 (0, 0)) (upK BK206) hb)
                           have n4_ := Aside0.mk (below_step (upB HB) hb)
                           have n5_ := Aside0.mk (hbox)
                           have n6_ := Aside0.mk ((by rw [hg]; exact (below_size (upB HB)) : w.heap.size ≤ gb237))
                           have n7_ := Aside0.mk ((by rw [hg]; exact (below_size (upB HB)) : w.heap.size ≤ gb237))
                           have n8_ := Aside0.mk ((by rw [hg]; exact Nat.ne_of_lt (blk_lt (g := gb180) (o := .cells #[.string t173, .string t174, .string t175, .string t176, .bool t177, .int .i64 t178] 26 (0, 0)) (upK BK180)) : gb180 ≠ gb237))
                           have n9_ := Aside0.mk ((by rw [hg]; exact Nat.ne_of_gt (blk_lt (g := gb180) (o := .cells #[.string t173, .string t174, .string t175, .string t176, .bool t177, .int .i64 t178] 26 (0, 0)) (upK BK180)) : gb237 ≠ gb180))
                           have n10_ := Aside0.mk ((by rw [hg]; exact Nat.ne_of_lt (blk_lt (g := gb206) (o := .cells #[.string t199, .string t200, .string t201, .string t202, .bool t203, .int .i64 t204] 26 (0, 0)) (upK BK206)) : gb206 ≠ gb237))
                           have n11_ := Aside0.mk ((by rw [hg]; exact Nat.ne_of_gt (blk_lt (g := gb206) (o := .cells #[.string t199, .string t200, .string t201, .string t202, .bool t203, .int .i64 t204] 26 (0, 0)) (upK BK206)) : gb237 ≠ gb206))
                           clear HO195 HO198 BK180 BK206 HB; have HO195 := n0_; have HO198 := n1_; have BK180 := n2_; have BK206 := n3_; have HB := n4_; have BK237 := n5_; have GW237 := n6_; have GE237 := n7_; have NB180_237 := n8_; have NB237_180 := n9_; have NB206_237 := n10_; have NB237_206 := n11_; clear n0_ n1_ n2_ n3_ n4_ n5_ n6_ n7_ n8_ n9_ n10_ n11_ hb hbox hg
                           refine hK.out _ _ trivial (fun hHeld => ?_)
                           clear hK K
                           refine norm_ (a' := ?_) ?_ ?_
                           rotate_left
                           ·show Act.put _ (some 12) _ = _
                            simp only [Act.put, List.setIfInBounds_toArray, List.set_cons_zero, List.set_cons_succ, i64_w, i32_w]
                            rfl
                           exact norm_ (by first | (simp only [putAll, Act.put, List.setIfInBounds_toArray, List.set_cons_zero, List.set_cons_succ]; done) | (simp only [putAll, Act.put, List.setIfInBounds_toArray, List.set_cons_zero, List.set_cons_succ]; rfl)) (hJ18 (gb237) _ ⟨(upR HO195), (upR HO198), (upK BK180), (upK BK206), (upK BK237), GW237.out, GE237.out, NB180_237.out, NB237_180.out, NB206_237.out, NB237_206.out, (upB HB)⟩)
                         ·skip
                          rintro gb237 w77 ⟨h0_, h1_, h2_, h3_, h4_, h5_, h6_, h7_, h8_, h9_, h10_, h11_⟩
                          have n0_ : Aside0 (Kd.R k32 32 w77 w.heap.size (fun k_ => some k_ ≠ (.slice Ao67 y196.length co67 : Value).ownBlock) (.slice Ao66 y193.length co66) y193) := ⟨h0_⟩
                          have n1_ : Aside0 (Kd.R k32 32 w77 w.heap.size (fun k_ => some k_ ≠ (.slice Ao66 y193.length co66 : Value).ownBlock) (.slice Ao67 y196.length co67) y196) := ⟨h1_⟩
                          have n2_ : Aside0 (w77.heap[gb180]? = some (.cells #[.string t173, .string t174, .string t175, .string t176, .bool t177, .int .i64 t178] 26 (0, 0))) := ⟨h2_⟩
                          have n3_ : Aside0 (w77.heap[gb206]? = some (.cells #[.string t199, .string t200, .string t201, .string t202, .bool t203, .int .i64 t204] 26 (0, 0))) := ⟨h3_⟩
                          have n4_ : Aside0 (w77.heap[gb237]? = some (.cells #[.string (⟨#[]⟩ : ByteArray), .string (⟨#[]⟩ : ByteArray), .string (⟨#[]⟩ : ByteArray), .string (⟨#[]⟩ : ByteArray), .bool false, .int .i64 0] 26 (0, 0))) := ⟨h4_⟩
                          have n5_ : Aside0 (w.heap.size ≤ gb237) := ⟨h5_⟩
                          have n6_ : Aside0 (w.heap.size ≤ gb237) := ⟨h6_⟩
                          have n7_ : Aside0 (gb180 ≠ gb237) := ⟨h7_⟩
                          have n8_ : Aside0 (gb237 ≠ gb180) := ⟨h8_⟩
                          have n9_ : Aside0 (gb206 ≠ gb237) := ⟨h9_⟩
                          have n10_ : Aside0 (gb237 ≠ gb206) := ⟨h10_⟩
                          have n11_ : Aside0 (Below w.heap.size w w77) := ⟨h11_⟩
                          clear HO195 HO198 BK180 BK206 HB h0_ h1_ h2_ h3_ h4_ h5_ h6_ h7_ h8_ h9_ h10_ h11_; have HO195 := n0_; have HO198 := n1_; have BK180 := n2_; have BK206 := n3_; have BK237 := n4_; have GW237 := n5_; have GE237 := n6_; have NB180_237 := n7_; have NB237_180 := n8_; have NB206_237 := n9_; have NB237_206 := n10_; have HB := n11_; clear n0_ n1_ n2_ n3_ n4_ n5_ n6_ n7_ n8_ n9_ n10_ n11_; have hHeld := trivial
                          refine norm_ (a' := ?_) ?_ ?_
                          rotate_left
                          ·simp only [putAll, Act.put, List.setIfInBounds_toArray, List.set_cons_zero, List.set_cons_succ]
                           rfl
                          refine two_ (i := 0) (j := 8) (Ni := some 98) (Nj := some 106) #[true, true, true, true, false, true, true, true, false, false, true, true, true, false, false, false, false, false, true, false, false] #[false, true, true, true, false, true, true, true, true, false, true, true, true, false, false, false, false, false, true, false, false] rfl rfl rfl rfl (two_of HT_.out (by kernel_rfl)) (by decide) (by decide) (fun K hK => ?_) (fun K hK => ?_)
                          ·skip
                           refine Kd.R_lit_step k32 _ 32 ?hg (N := 98) ?hd (xs := ([] : List (S32))) (inner := []) (ok := fun _ => True) (okp := fun _ => True) ?hr ?hp (fun _ hk => hk) trivial (Below.refl _ _) (Nat.le_refl _) (by simp) ?_; (case hd => rfl); (case hg => rfl); (case hr => first | (go_simp; done) | (go_simp; rfl)); (case hp => exact (Reps.none _ _))
                           intro v208 w78 ho79 hb hg_ hnew_
                           clear hg_ hnew_
                           (first | rw [← Ny207.out] at ho79 | (simp only [Int.reduceToNat] at ho79; rw [← Ny207.out] at ho79))
                           have n0_ := Aside0.mk (Kd.R_elder' (upR HO195) (Kd.R_base ho79) hb)
                           have n1_ := Aside0.mk (Kd.R_elder' (upR HO198) (Kd.R_base ho79) hb)
                           have n2_ := Aside0.mk (Kd.R_lower (Kd.R_new' (Kd.R_new' ho79 (Kd.R_lt (upR HO195))) (Kd.R_lt (upR HO198))) (below_size (upB HB)))
                           have n3_ := Aside0.mk (blk_below (g := gb180) (o := .cells #[.string t173, .string t174, .string t175, .string t176, .bool t177, .int .i64 t178] 26 (0, 0)) (upK BK180) hb)
                           have n4_ := Aside0.mk (blk_below (g := gb206) (o := .cells #[.string t199, .string t200, .string t201, .string t202, .bool t203, .int .i64 t204] 26 (0, 0)) (upK BK206) hb)
                           have n5_ := Aside0.mk (blk_below (g := gb237) (o := .cells #[.string (⟨#[]⟩ : ByteArray), .string (⟨#[]⟩ : ByteArray), .string (⟨#[]⟩ : ByteArray), .string (⟨#[]⟩ : ByteArray), .bool false, .int .i64 0] 26 (0, 0)) (upK BK237) hb)
                           have n6_ := Aside0.mk (below_step (upB HB) hb)
                           clear HO195 HO198 BK180 BK206 BK237 HB; have HO195 := n0_; have HO198 := n1_; have HO209 := n2_; have BK180 := n3_; have BK206 := n4_; have BK237 := n5_; have HB := n6_; clear n0_ n1_ n2_ n3_ n4_ n5_ n6_ hb ho79
                           refine hK.out _ _ trivial (fun hHeld => ?_)
                           clear hK K
                           refine norm_ (a' := ?_) ?_ ?_
                           rotate_left
                           ·show Act.put _ (some 98) _ = _
                            simp only [Act.put, List.setIfInBounds_toArray, List.set_cons_zero, List.set_cons_succ, i64_w, i32_w]
                            rfl
                           exact norm_ (by first | (simp only [putAll, Act.put, List.setIfInBounds_toArray, List.set_cons_zero, List.set_cons_succ]; done) | (simp only [putAll, Act.put, List.setIfInBounds_toArray, List.set_cons_zero, List.set_cons_succ]; rfl)) (hJ0_18 (v208, gb237) _ ⟨(upR HO195), (upR HO198), (by (with_reducible repeat (first | apply Kd.R_alloc | apply Kd.R_drewN | apply Kd.R_drew)); exact Kd.R_mono HO209.out (fun _ hk => ⟨hk.1.2, hk.2⟩)), (upK BK180), (upK BK206), (upK BK237), GW237.out, GE237.out, NB180_237.out, NB237_180.out, NB206_237.out, NB237_206.out, (upB HB)⟩)
                          ·skip
                           refine Kd.R_lit_step k32 _ 32 ?hg (N := 106) ?hd (xs := ([(⟨a1, a2, false⟩ : S32)] : List (S32))) (inner := [.string a1, .string a2, .bool false]) (ok := fun _ => True) (okp := fun _ => True) ?hr ?hp (fun _ hk => hk) trivial (Below.refl _ _) (Nat.le_refl _) (by simp) ?_; (case hd => rfl); (case hg => rfl); (case hr => first | (go_simp; done) | (go_simp; rfl)); (case hp => exact (Reps.c3 (show Kd.M k32 _ _ _ (⟨a1, a2, false⟩ : S32) [.string a1, .string a2, .bool false] from (k32_mkM _ _ _ (⟨a1, a2, false⟩ : S32) )) (Reps.none _ _)))
                           intro v218 w78 ho79 hb hg_ hnew_
                           clear hg_ hnew_
                           (first | rw [← Ny217.out] at ho79 | (simp only [Int.reduceToNat] at ho79; rw [← Ny217.out] at ho79))
                           have n0_ := Aside0.mk (Kd.R_elder' (upR HO195) (Kd.R_base ho79) hb)
                           have n1_ := Aside0.mk (Kd.R_elder' (upR HO198) (Kd.R_base ho79) hb)
                           have n2_ := Aside0.mk (Kd.R_lower (Kd.R_new' (Kd.R_new' ho79 (Kd.R_lt (upR HO195))) (Kd.R_lt (upR HO198))) (below_size (upB HB)))
                           have n3_ := Aside0.mk (blk_below (g := gb180) (o := .cells #[.string t173, .string t174, .string t175, .string t176, .bool t177, .int .i64 t178] 26 (0, 0)) (upK BK180) hb)
                           have n4_ := Aside0.mk (blk_below (g := gb206) (o := .cells #[.string t199, .string t200, .string t201, .string t202, .bool t203, .int .i64 t204] 26 (0, 0)) (upK BK206) hb)
                           have n5_ := Aside0.mk (blk_below (g := gb237) (o := .cells #[.string (⟨#[]⟩ : ByteArray), .string (⟨#[]⟩ : ByteArray), .string (⟨#[]⟩ : ByteArray), .string (⟨#[]⟩ : ByteArray), .bool false, .int .i64 0] 26 (0, 0)) (upK BK237) hb)
                           have n6_ := Aside0.mk (below_step (upB HB) hb)
                           clear HO195 HO198 BK180 BK206 BK237 HB; have HO195 := n0_; have HO198 := n1_; have HO219 := n2_; have BK180 := n3_; have BK206 := n4_; have BK237 := n5_; have HB := n6_; clear n0_ n1_ n2_ n3_ n4_ n5_ n6_ hb ho79
                           refine hK.out _ _ trivial (fun hHeld => ?_)
                           clear hK K
                           refine norm_ (a' := ?_) ?_ ?_
                           rotate_left
                           ·show Act.put _ (some 106) _ = _
                            simp only [Act.put, List.setIfInBounds_toArray, List.set_cons_zero, List.set_cons_succ, i64_w, i32_w]
                            rfl
                           exact norm_ (by first | (simp only [putAll, Act.put, List.setIfInBounds_toArray, List.set_cons_zero, List.set_cons_succ]; done) | (simp only [putAll, Act.put, List.setIfInBounds_toArray, List.set_cons_zero, List.set_cons_succ]; rfl)) (hJ8_18 (v218, gb237) _ ⟨(upR HO195), (upR HO198), (by (with_reducible repeat (first | apply Kd.R_alloc | apply Kd.R_drewN | apply Kd.R_drew)); exact Kd.R_mono HO219.out (fun _ hk => ⟨hk.1.2, hk.2⟩)), (upK BK180), (upK BK206), (upK BK237), GW237.out, GE237.out, NB180_237.out, NB237_180.out, NB206_237.out, NB237_206.out, (upB HB)⟩)
                        ·skip
                         rintro v218 w78 ⟨h0_, h1_, h2_, h3_, h4_, h5_⟩
                         have n0_ : Aside0 (Kd.R k32 32 w78 w.heap.size (fun k_ => some k_ ≠ (.slice Ao67 y196.length co67 : Value).ownBlock ∧ some k_ ≠ (v218 : Value).ownBlock) (.slice Ao66 y193.length co66) y193) := ⟨h0_⟩
                         have n1_ : Aside0 (Kd.R k32 32 w78 w.heap.size (fun k_ => some k_ ≠ (.slice Ao66 y193.length co66 : Value).ownBlock ∧ some k_ ≠ (v218 : Value).ownBlock) (.slice Ao67 y196.length co67) y196) := ⟨h1_⟩
                         have n2_ : Aside0 (Kd.R k32 32 w78 w.heap.size (fun k_ => some k_ ≠ (.slice Ao66 y193.length co66 : Value).ownBlock ∧ some k_ ≠ (.slice Ao67 y196.length co67 : Value).ownBlock) v218 y217) := ⟨h2_⟩
                         have n3_ : Aside0 (w78.heap[gb180]? = some (.cells #[.string t173, .string t174, .string t175, .string t176, .bool t177, .int .i64 t178] 26 (0, 0))) := ⟨h3_⟩
                         have n4_ : Aside0 (w78.heap[gb206]? = some (.cells #[.string t199, .string t200, .string t201, .string t202, .bool t203, .int .i64 t204] 26 (0, 0))) := ⟨h4_⟩
                         have n5_ : Aside0 (Below w.heap.size w w78) := ⟨h5_⟩
                         clear HO195 HO198 BK180 BK206 HB h0_ h1_ h2_ h3_ h4_ h5_; have HO195 := n0_; have HO198 := n1_; have HO219 := n2_; have BK180 := n3_; have BK206 := n4_; have HB := n5_; clear n0_ n1_ n2_ n3_ n4_ n5_; have hHeld := trivial
                         refine norm_ (a' := ?_) ?_ ?_
                         rotate_left
                         ·simp only [putAll, Act.put, List.setIfInBounds_toArray, List.set_cons_zero, List.set_cons_succ]
                          rfl
                         refine two_ (i := 0) (j := 18) (Ni := some 98) (Nj := some 12) #[true, true, true, true, false, true, true, true, true, false, true, true, true, false, false, false, false, false, false, false, false] #[false, true, true, true, false, true, true, true, true, false, true, true, true, false, false, false, false, false, true, false, false] rfl rfl rfl rfl (two_of HT_.out (by kernel_rfl)) (by decide) (by decide) (fun K hK => ?_) (fun K hK => ?_)
                         ·skip
                          refine Kd.R_lit_step k32 _ 32 ?hg (N := 98) ?hd (xs := ([] : List (S32))) (inner := []) (ok := fun _ => True) (okp := fun _ => True) ?hr ?hp (fun _ hk => hk) trivial (Below.refl _ _) (Nat.le_refl _) (by simp) ?_; (case hd => rfl); (case hg => rfl); (case hr => first | (go_simp; done) | (go_simp; rfl)); (case hp => exact (Reps.none _ _))
                          intro v208 w79 ho80 hb hg_ hnew_
                          clear hg_ hnew_
                          (first | rw [← Ny207.out] at ho80 | (simp only [Int.reduceToNat] at ho80; rw [← Ny207.out] at ho80))
                          have n0_ := Aside0.mk (Kd.R_elder' (upR HO195) (Kd.R_base ho80) hb)
                          have n1_ := Aside0.mk (Kd.R_elder' (upR HO198) (Kd.R_base ho80) hb)
                          have n2_ := Aside0.mk (Kd.R_elder' (upR HO219) (Kd.R_base ho80) hb)
                          have n3_ := Aside0.mk (Kd.R_lower (Kd.R_new' (Kd.R_new' (Kd.R_new' ho80 (Kd.R_lt (upR HO195))) (Kd.R_lt (upR HO198))) (Kd.R_lt (upR HO219))) (below_size (upB HB)))
                          have n4_ := Aside0.mk (blk_below (g := gb180) (o := .cells #[.string t173, .string t174, .string t175, .string t176, .bool t177, .int .i64 t178] 26 (0, 0)) (upK BK180) hb)
                          have n5_ := Aside0.mk (blk_below (g := gb206) (o := .cells #[.string t199, .string t200, .string t201, .string t202, .bool t203, .int .i64 t204] 26 (0, 0)) (upK BK206) hb)
                          have n6_ := Aside0.mk (below_step (upB HB) hb)
                          clear HO195 HO198 HO219 BK180 BK206 HB; have HO195 := n0_; have HO198 := n1_; have HO219 := n2_; have HO209 := n3_; have BK180 := n4_; have BK206 := n5_; have HB := n6_; clear n0_ n1_ n2_ n3_ n4_ n5_ n6_ hb ho80
                          refine hK.out _ _ trivial (fun hHeld => ?_)
                          clear hK K
                          refine norm_ (a' := ?_) ?_ ?_
                          rotate_left
                          ·show Act.put _ (some 98) _ = _
                           simp only [Act.put, List.setIfInBounds_toArray, List.set_cons_zero, List.set_cons_succ, i64_w, i32_w]
                           rfl
                          exact norm_ (by first | (simp only [putAll, Act.put, List.setIfInBounds_toArray, List.set_cons_zero, List.set_cons_succ]; done) | (simp only [putAll, Act.put, List.setIfInBounds_toArray, List.set_cons_zero, List.set_cons_succ]; rfl)) (hJ0_8 (v208, v218) _ ⟨(by (with_reducible repeat (first | apply Kd.R_alloc | apply Kd.R_drewN | apply Kd.R_drew)); exact Kd.R_mono HO195.out (fun _ hk => ⟨hk.1.1, ⟨hk.2, hk.1.2⟩⟩)), (by (with_reducible repeat (first | apply Kd.R_alloc | apply Kd.R_drewN | apply Kd.R_drew)); exact Kd.R_mono HO198.out (fun _ hk => ⟨hk.1.1, ⟨hk.2, hk.1.2⟩⟩)), (by (with_reducible repeat (first | apply Kd.R_alloc | apply Kd.R_drewN | apply Kd.R_drew)); exact Kd.R_mono HO209.out (fun _ hk => ⟨hk.1.1.2, ⟨hk.1.2, hk.2⟩⟩)), (by (with_reducible repeat (first | apply Kd.R_alloc | apply Kd.R_drewN | apply Kd.R_drew)); exact Kd.R_mono HO219.out (fun _ hk => ⟨hk.1.1, ⟨hk.1.2, hk.2⟩⟩)), (upK BK180), (upK BK206), (upB HB)⟩)
                         ·skip
                          refine box_step ?hg (N := 12) ?hd (cs := #[.string (⟨#[]⟩ : ByteArray), .string (⟨#[]⟩ : ByteArray), .string (⟨#[]⟩ : ByteArray), .string (⟨#[]⟩ : ByteArray), .bool false, .int .i64 0]) (t := 26) ?hr ?_; (case hd => rfl); (case hg => rfl); (case hr => first | (go_simp; done) | (go_simp; rfl))
                          intro gb237 hg w79 hbox hb
                          have n0_ := Aside0.mk (Kd.R_below (upR HO195) hb)
                          have n1_ := Aside0.mk (Kd.R_below (upR HO198) hb)
                          have n2_ := Aside0.mk (Kd.R_below (upR HO219) hb)
                          have n3_ := Aside0.mk (blk_below (g := gb180) (o := .cells #[.string t173, .string t174, .string t175, .string t176, .bool t177, .int .i64 t178] 26 (0, 0)) (upK BK180) hb)
                          have n4_ := Aside0.mk (blk_below (g := gb206) (o := .cells #[.string t199, .string t200, .string t201, .string t202, .bool t203, .int .i64 t204] 26 (0, 0)) (upK BK206) hb)
                          have n5_ := Aside0.mk (below_step (upB HB) hb)
                          have n6_ := Aside0.mk (hbox)
                          have n7_ := Aside0.mk ((by rw [hg]; exact (below_size (upB HB)) : w.heap.size ≤ gb237))
                          have n8_ := Aside0.mk ((by rw [hg]; exact (below_size (upB HB)) : w.heap.size ≤ gb237))
                          have n9_ := Aside0.mk ((by rw [hg]; exact Nat.ne_of_lt (blk_lt (g := gb180) (o := .cells #[.string t173, .string t174, .string t175, .string t176, .bool t177, .int .i64 t178] 26 (0, 0)) (upK BK180)) : gb180 ≠ gb237))
                          have n10_ := Aside0.mk ((by rw [hg]; exact Nat.ne_of_gt (blk_lt (g := gb180) (o := .cells #[.string t173, .string t174, .string t175, .string t176, .bool t177, .int .i64 t178] 26 (0, 0)) (upK BK180)) : gb237 ≠ gb180))
                          have n11_ := Aside0.mk ((by rw [hg]; exact Nat.ne_of_lt (blk_lt (g := gb206) (o := .cells #[.string t199, .string t200, .string t201, .string t202, .bool t203, .int .i64 t204] 26 (0, 0)) (upK BK206)) : gb206 ≠ gb237))
                          have n12_ := Aside0.mk ((by rw [hg]; exact Nat.ne_of_gt (blk_lt (g := gb206) (o := .cells #[.string t199, .string t200, .string t201, .string t202, .bool t203, .int .i64 t204] 26 (0, 0)) (upK BK206)) : gb237 ≠ gb206))
                          clear HO195 HO198 HO219 BK180 BK206 HB; have HO195 := n0_; have HO198 := n1_; have HO219 := n2_; have BK180 := n3_; have BK206 := n4_; have HB := n5_; have BK237 := n6_; have GW237 := n7_; have GE237 := n8_; have NB180_237 := n9_; have NB237_180 := n10_; have NB206_237 := n11_; have NB237_206 := n12_; clear n0_ n1_ n2_ n3_ n4_ n5_ n6_ n7_ n8_ n9_ n10_ n11_ n12_ hb hbox hg
                          refine hK.out _ _ trivial (fun hHeld => ?_)
                          clear hK K
                          refine norm_ (a' := ?_) ?_ ?_
                          rotate_left
                          ·show Act.put _ (some 12) _ = _
                           simp only [Act.put, List.setIfInBounds_toArray, List.set_cons_zero, List.set_cons_succ, i64_w, i32_w]
                           rfl
                          exact norm_ (by first | (simp only [putAll, Act.put, List.setIfInBounds_toArray, List.set_cons_zero, List.set_cons_succ]; done) | (simp only [putAll, Act.put, List.setIfInBounds_toArray, List.set_cons_zero, List.set_cons_succ]; rfl)) (hJ8_18 (v218, gb237) _ ⟨(upR HO195), (upR HO198), (upR HO219), (upK BK180), (upK BK206), (upK BK237), GW237.out, GE237.out, NB180_237.out, NB237_180.out, NB206_237.out, NB237_206.out, (upB HB)⟩)
                       ·skip
                        rintro v208 w78 ⟨h0_, h1_, h2_, h3_, h4_, h5_⟩
                        have n0_ : Aside0 (Kd.R k32 32 w78 w.heap.size (fun k_ => some k_ ≠ (.slice Ao67 y196.length co67 : Value).ownBlock ∧ some k_ ≠ (v208 : Value).ownBlock) (.slice Ao66 y193.length co66) y193) := ⟨h0_⟩
                        have n1_ : Aside0 (Kd.R k32 32 w78 w.heap.size (fun k_ => some k_ ≠ (.slice Ao66 y193.length co66 : Value).ownBlock ∧ some k_ ≠ (v208 : Value).ownBlock) (.slice Ao67 y196.length co67) y196) := ⟨h1_⟩
                        have n2_ : Aside0 (Kd.R k32 32 w78 w.heap.size (fun k_ => some k_ ≠ (.slice Ao66 y193.length co66 : Value).ownBlock ∧ some k_ ≠ (.slice Ao67 y196.length co67 : Value).ownBlock) v208 y207) := ⟨h2_⟩
                        have n3_ : Aside0 (w78.heap[gb180]? = some (.cells #[.string t173, .string t174, .string t175, .string t176, .bool t177, .int .i64 t178] 26 (0, 0))) := ⟨h3_⟩
                        have n4_ : Aside0 (w78.heap[gb206]? = some (.cells #[.string t199, .string t200, .string t201, .string t202, .bool t203, .int .i64 t204] 26 (0, 0))) := ⟨h4_⟩
                        have n5_ : Aside0 (Below w.heap.size w w78) := ⟨h5_⟩
                        clear HO195 HO198 BK180 BK206 HB h0_ h1_ h2_ h3_ h4_ h5_; have HO195 := n0_; have HO198 := n1_; have HO209 := n2_; have BK180 := n3_; have BK206 := n4_; have HB := n5_; clear n0_ n1_ n2_ n3_ n4_ n5_; have hHeld := trivial
                        refine norm_ (a' := ?_) ?_ ?_
                        rotate_left
                        ·simp only [putAll, Act.put, List.setIfInBounds_toArray, List.set_cons_zero, List.set_cons_succ]
                         rfl
                        refine three_ (i := 4) (j := 8) (k := 18) (Ni := some 102) (Nj := some 106) (Nk := some 12) #[true, true, true, true, true, true, true, true, false, false, true, true, true, false, false, false, false, false, false, false, false] #[true, true, true, true, false, true, true, true, true, false, true, true, true, false, false, false, false, false, false, false, false] #[true, true, true, true, false, true, true, true, false, false, true, true, true, false, false, false, false, false, true, false, false] rfl rfl rfl rfl rfl rfl (three_of HT_.out (by kernel_rfl)) (by decide) (by decide) (by decide) (fun K hK => ?_) (fun K hK => ?_) (fun K hK => ?_)
                        ·skip
                         refine Kd.R_append_rows_step k32 (w0 := w) w.heap.size (by rfl) (.tmp 98) (.tmp 101) 22 32 (.agg #[(.string ⟨#[]⟩), (.string ⟨#[]⟩), (.bool false)]) 40 rfl Tryd.underlying22 info32 rfl (by decide) (by omega) v208 y207 y210 _ _ _ (fun k_ => some k_ ≠ (.slice Ao66 y193.length co66 : Value).ownBlock ∧ some k_ ≠ (.slice Ao67 y196.length co67 : Value).ownBlock) (fun _ => False) rfl rfl ?aO ?aR (fun _ _ h => h) (fun _ h => h.elim) ?aF ?aB ?aS ?aL ?_
                         (case aR => repeat (first | exact (Kd.C_below HR213.out HB.out) | (with_reducible refine Kd.C_alloc ?_ _) | (with_reducible refine Kd.C_drewN ?_ _) | (with_reducible refine Kd.C_drew ?_)))
                         (case aB => exact (upB HB))
                         (case aF => exact (fun k_ hk => ⟨Kd.fresh' (Kd.R_lt (upR HO195)) k_ hk, Kd.fresh' (Kd.R_lt (upR HO198)) k_ hk⟩))
                         (case aO => exact (upR HO209))
                         (case aS => exact (below_size (upB HB)))
                         (case aL => have := LMc51.out; omega)
                         intro v215 w79 ho hb hg hat
                         rw [← Ny214.out] at ho
                         have n0_ := Aside0.mk (blk_grown (g := gb180) (o := .cells #[.string t173, .string t174, .string t175, .string t176, .bool t177, .int .i64 t178] 26 (0, 0)) (upK BK180) hg (Kd.R_ne HO209.out BK180.out (by decide)))
                         have n1_ := Aside0.mk (Kd.R_after (ok := (fun k_ => some k_ ≠ (.slice Ao67 y196.length co67 : Value).ownBlock)) (upR HO195) hg hat)
                         have n2_ := Aside0.mk (Kd.R_after (ok := (fun k_ => some k_ ≠ (.slice Ao66 y193.length co66 : Value).ownBlock)) (upR HO198) hg hat)
                         have n3_ := Aside0.mk (blk_grown (g := gb206) (o := .cells #[.string t199, .string t200, .string t201, .string t202, .bool t203, .int .i64 t204] 26 (0, 0)) (upK BK206) hg (Kd.R_ne HO209.out BK206.out (by decide)))
                         have n4_ := Aside0.mk (hb)
                         have n5_ := Aside0.mk (ho)
                         clear BK180 HO195 HO198 BK206 HB HO209; have BK180 := n0_; have HO195 := n1_; have HO198 := n2_; have BK206 := n3_; have HB := n4_; have HO216 := n5_; clear n0_ n1_ n2_ n3_ n4_ n5_ ho hb hg hat
                         refine hK.out _ _ trivial (fun hHeld => ?_)
                         clear hK K
                         refine norm_ (a' := ?_) ?_ ?_
                         rotate_left
                         ·show Act.put _ (some 102) _ = _
                          simp only [Act.put, List.setIfInBounds_toArray, List.set_cons_zero, List.set_cons_succ, i64_w, i32_w]
                          rfl
                         exact norm_ (by first | (simp only [putAll, Act.put, List.setIfInBounds_toArray, List.set_cons_zero, List.set_cons_succ]; done) | (simp only [putAll, Act.put, List.setIfInBounds_toArray, List.set_cons_zero, List.set_cons_succ]; rfl)) (hJ0_4 (v208, v215) _ ⟨(upR HO195), (upR HO198), (upR HO216), (upK BK180), (upK BK206), (upB HB)⟩)
                        ·skip
                         refine Kd.R_lit_step k32 _ 32 ?hg (N := 106) ?hd (xs := ([(⟨a1, a2, false⟩ : S32)] : List (S32))) (inner := [.string a1, .string a2, .bool false]) (ok := fun _ => True) (okp := fun _ => True) ?hr ?hp (fun _ hk => hk) trivial (Below.refl _ _) (Nat.le_refl _) (by simp) ?_; (case hd => rfl); (case hg => rfl); (case hr => first | (go_simp; done) | (go_simp; rfl)); (case hp => exact (Reps.c3 (show Kd.M k32 _ _ _ (⟨a1, a2, false⟩ : S32) [.string a1, .string a2, .bool false] from (k32_mkM _ _ _ (⟨a1, a2, false⟩ : S32) )) (Reps.none _ _)))
                         intro v218 w79 ho80 hb hg_ hnew_
                         clear hg_ hnew_
                         (first | rw [← Ny217.out] at ho80 | (simp only [Int.reduceToNat] at ho80; rw [← Ny217.out] at ho80))
                         have n0_ := Aside0.mk (Kd.R_elder' (upR HO195) (Kd.R_base ho80) hb)
                         have n1_ := Aside0.mk (Kd.R_elder' (upR HO198) (Kd.R_base ho80) hb)
                         have n2_ := Aside0.mk (Kd.R_elder' (upR HO209) (Kd.R_base ho80) hb)
                         have n3_ := Aside0.mk (Kd.R_lower (Kd.R_new' (Kd.R_new' (Kd.R_new' ho80 (Kd.R_lt (upR HO195))) (Kd.R_lt (upR HO198))) (Kd.R_lt (upR HO209))) (below_size (upB HB)))
                         have n4_ := Aside0.mk (blk_below (g := gb180) (o := .cells #[.string t173, .string t174, .string t175, .string t176, .bool t177, .int .i64 t178] 26 (0, 0)) (upK BK180) hb)
                         have n5_ := Aside0.mk (blk_below (g := gb206) (o := .cells #[.string t199, .string t200, .string t201, .string t202, .bool t203, .int .i64 t204] 26 (0, 0)) (upK BK206) hb)
                         have n6_ := Aside0.mk (below_step (upB HB) hb)
                         clear HO195 HO198 HO209 BK180 BK206 HB; have HO195 := n0_; have HO198 := n1_; have HO209 := n2_; have HO219 := n3_; have BK180 := n4_; have BK206 := n5_; have HB := n6_; clear n0_ n1_ n2_ n3_ n4_ n5_ n6_ hb ho80
                         refine hK.out _ _ trivial (fun hHeld => ?_)
                         clear hK K
                         refine norm_ (a' := ?_) ?_ ?_
                         rotate_left
                         ·show Act.put _ (some 106) _ = _
                          simp only [Act.put, List.setIfInBounds_toArray, List.set_cons_zero, List.set_cons_succ, i64_w, i32_w]
                          rfl
                         exact norm_ (by first | (simp only [putAll, Act.put, List.setIfInBounds_toArray, List.set_cons_zero, List.set_cons_succ]; done) | (simp only [putAll, Act.put, List.setIfInBounds_toArray, List.set_cons_zero, List.set_cons_succ]; rfl)) (hJ0_8 (v208, v218) _ ⟨(by (with_reducible repeat (first | apply Kd.R_alloc | apply Kd.R_drewN | apply Kd.R_drew)); exact Kd.R_mono HO195.out (fun _ hk => ⟨hk.1.1, ⟨hk.1.2, hk.2⟩⟩)), (by (with_reducible repeat (first | apply Kd.R_alloc | apply Kd.R_drewN | apply Kd.R_drew)); exact Kd.R_mono HO198.out (fun _ hk => ⟨hk.1.1, ⟨hk.1.2, hk.2⟩⟩)), (by (with_reducible repeat (first | apply Kd.R_alloc | apply Kd.R_drewN | apply Kd.R_drew)); exact Kd.R_mono HO209.out (fun _ hk => ⟨hk.1.1, ⟨hk.1.2, hk.2⟩⟩)), (by (with_reducible repeat (first | apply Kd.R_alloc | apply Kd.R_drewN | apply Kd.R_drew)); exact Kd.R_mono HO219.out (fun _ hk => ⟨hk.1.1.2, ⟨hk.1.2, hk.2⟩⟩)), (upK BK180), (upK BK206), (upB HB)⟩)
                        ·skip
                         refine box_step ?hg (N := 12) ?hd (cs := #[.string (⟨#[]⟩ : ByteArray), .string (⟨#[]⟩ : ByteArray), .string (⟨#[]⟩ : ByteArray), .string (⟨#[]⟩ : ByteArray), .bool false, .int .i64 0]) (t := 26) ?hr ?_; (case hd => rfl); (case hg => rfl); (case hr => first | (go_simp; done) | (go_simp; rfl))
                         intro gb237 hg w79 hbox hb
                         have n0_ := Aside0.mk (Kd.R_below (upR HO195) hb)
                         have n1_ := Aside0.mk (Kd.R_below (upR HO198) hb)
                         have n2_ := Aside0.mk (Kd.R_below (upR HO209) hb)
                         have n3_ := Aside0.mk (blk_below (g := gb180) (o := .cells #[.string t173, .string t174, .string t175, .string t176, .bool t177, .int .i64 t178] 26 (0, 0)) (upK BK180) hb)
                         have n4_ := Aside0.mk (blk_below (g := gb206) (o := .cells #[.string t199, .string t200, .string t201, .string t202, .bool t203, .int .i64 t204] 26 (0, 0)) (upK BK206) hb)
                         have n5_ := Aside0.mk (below_step (upB HB) hb)
                         have n6_ := Aside0.mk (hbox)
                         have n7_ := Aside0.mk ((by rw [hg]; exact (below_size (upB HB)) : w.heap.size ≤ gb237))
                         have n8_ := Aside0.mk ((by rw [hg]; exact (below_size (upB HB)) : w.heap.size ≤ gb237))
                         have n9_ := Aside0.mk ((by rw [hg]; exact Nat.ne_of_lt (blk_lt (g := gb180) (o := .cells #[.string t173, .string t174, .string t175, .string t176, .bool t177, .int .i64 t178] 26 (0, 0)) (upK BK180)) : gb180 ≠ gb237))
                         have n10_ := Aside0.mk ((by rw [hg]; exact Nat.ne_of_gt (blk_lt (g := gb180) (o := .cells #[.string t173, .string t174, .string t175, .string t176, .bool t177, .int .i64 t178] 26 (0, 0)) (upK BK180)) : gb237 ≠ gb180))
                         have n11_ := Aside0.mk ((by rw [hg]; exact Nat.ne_of_lt (blk_lt (g := gb206) (o := .cells #[.string t199, .string t200, .string t201, .string t202, .bool t203, .int .i64 t204] 26 (0, 0)) (upK BK206)) : gb206 ≠ gb237))
                         have n12_ := Aside0.mk ((by rw [hg]; exact Nat.ne_of_gt (blk_lt (g := gb206) (o := .cells #[.string t199, .string t200, .string t201, .string t202, .bool t203, .int .i64 t204] 26 (0, 0)) (upK BK206)) : gb237 ≠ gb206))
                         clear HO195 HO198 HO209 BK180 BK206 HB; have HO195 := n0_; have HO198 := n1_; have HO209 := n2_; have BK180 := n3_; have BK206 := n4_; have HB := n5_; have BK237 := n6_; have GW237 := n7_; have GE237 := n8_; have NB180_237 := n9_; have NB237_180 := n10_; have NB206_237 := n11_; have NB237_206 := n12_; clear n0_ n1_ n2_ n3_ n4_ n5_ n6_ n7_ n8_ n9_ n10_ n11_ n12_ hb hbox hg
                         refine hK.out _ _ trivial (fun hHeld => ?_)
                         clear hK K
                         refine norm_ (a' := ?_) ?_ ?_
                         rotate_left
                         ·show Act.put _ (some 12) _ = _
                          simp only [Act.put, List.setIfInBounds_toArray, List.set_cons_zero, List.set_cons_succ, i64_w, i32_w]
                          rfl
                         exact norm_ (by first | (simp only [putAll, Act.put, List.setIfInBounds_toArray, List.set_cons_zero, List.set_cons_succ]; done) | (simp only [putAll, Act.put, List.setIfInBounds_toArray, List.set_cons_zero, List.set_cons_succ]; rfl)) (hJ0_18 (v208, gb237) _ ⟨(upR HO195), (upR HO198), (upR HO209), (upK BK180), (upK BK206), (upK BK237), GW237.out, GE237.out, NB180_237.out, NB237_180.out, NB206_237.out, NB237_206.out, (upB HB)⟩)
                      ·skip
                       rintro ⟨v218, gb237⟩ w79 ⟨h0_, h1_, h2_, h3_, h4_, h5_, h6_, h7_, h8_, h9_, h10_, h11_, h12_⟩
                       have n0_ : Aside0 (Kd.R k32 32 w79 w.heap.size (fun k_ => some k_ ≠ (.slice Ao67 y196.length co67 : Value).ownBlock ∧ some k_ ≠ (v218 : Value).ownBlock) (.slice Ao66 y193.length co66) y193) := ⟨h0_⟩
                       have n1_ : Aside0 (Kd.R k32 32 w79 w.heap.size (fun k_ => some k_ ≠ (.slice Ao66 y193.length co66 : Value).ownBlock ∧ some k_ ≠ (v218 : Value).ownBlock) (.slice Ao67 y196.length co67) y196) := ⟨h1_⟩
                       have n2_ : Aside0 (Kd.R k32 32 w79 w.heap.size (fun k_ => some k_ ≠ (.slice Ao66 y193.length co66 : Value).ownBlock ∧ some k_ ≠ (.slice Ao67 y196.length co67 : Value).ownBlock) v218 y217) := ⟨h2_⟩
                       have n3_ : Aside0 (w79.heap[gb180]? = some (.cells #[.string t173, .string t174, .string t175, .string t176, .bool t177, .int .i64 t178] 26 (0, 0))) := ⟨h3_⟩
                       have n4_ : Aside0 (w79.heap[gb206]? = some (.cells #[.string t199, .string t200, .string t201, .string t202, .bool t203, .int .i64 t204] 26 (0, 0))) := ⟨h4_⟩
                       have n5_ : Aside0 (w79.heap[gb237]? = some (.cells #[.string (⟨#[]⟩ : ByteArray), .string (⟨#[]⟩ : ByteArray), .string (⟨#[]⟩ : ByteArray), .string (⟨#[]⟩ : ByteArray), .bool false, .int .i64 0] 26 (0, 0))) := ⟨h5_⟩
                       have n6_ : Aside0 (w.heap.size ≤ gb237) := ⟨h6_⟩
                       have n7_ : Aside0 (w.heap.size ≤ gb237) := ⟨h7_⟩
                       have n8_ : Aside0 (gb180 ≠ gb237) := ⟨h8_⟩
                       have n9_ : Aside0 (gb237 ≠ gb180) := ⟨h9_⟩
                       have n10_ : Aside0 (gb206 ≠ gb237) := ⟨h10_⟩
                       have n11_ : Aside0 (gb237 ≠ gb206) := ⟨h11_⟩
                       have n12_ : Aside0 (Below w.heap.size w w79) := ⟨h12_⟩
                       clear HO195 HO198 BK180 BK206 HB h0_ h1_ h2_ h3_ h4_ h5_ h6_ h7_ h8_ h9_ h10_ h11_ h12_; have HO195 := n0_; have HO198 := n1_; have HO219 := n2_; have BK180 := n3_; have BK206 := n4_; have BK237 := n5_; have GW237 := n6_; have GE237 := n7_; have NB180_237 := n8_; have NB237_180 := n9_; have NB206_237 := n10_; have NB237_206 := n11_; have HB := n12_; clear n0_ n1_ n2_ n3_ n4_ n5_ n6_ n7_ n8_ n9_ n10_ n11_ n12_; have hHeld := trivial
                       refine norm_ (a' := ?_) ?_ ?_
                       rotate_left
                       ·simp only [putAll, Act.put, List.setIfInBounds_toArray, List.set_cons_zero, List.set_cons_succ]
                        rfl
                       refine one_ (i := 0) (N := some 98) #[true, true, true, true, false, true, true, true, true, false, true, true, true, false, false, false, false, false, true, false, false] rfl rfl (one_of HT_.out (by kernel_rfl)) (by decide) (fun K hK => ?_)
                       refine Kd.R_lit_step k32 _ 32 ?hg (N := 98) ?hd (xs := ([] : List (S32))) (inner := []) (ok := fun _ => True) (okp := fun _ => True) ?hr ?hp (fun _ hk => hk) trivial (Below.refl _ _) (Nat.le_refl _) (by simp) ?_; (case hd => rfl); (case hg => rfl); (case hr => first | (go_simp; done) | (go_simp; rfl)); (case hp => exact (Reps.none _ _))
                       intro v208 w80 ho81 hb hg_ hnew_
                       clear hg_ hnew_
                       (first | rw [← Ny207.out] at ho81 | (simp only [Int.reduceToNat] at ho81; rw [← Ny207.out] at ho81))
                       have n0_ := Aside0.mk (Kd.R_elder' (upR HO195) (Kd.R_base ho81) hb)
                       have n1_ := Aside0.mk (Kd.R_elder' (upR HO198) (Kd.R_base ho81) hb)
                       have n2_ := Aside0.mk (Kd.R_elder' (upR HO219) (Kd.R_base ho81) hb)
                       have n3_ := Aside0.mk (Kd.R_lower (Kd.R_new' (Kd.R_new' (Kd.R_new' ho81 (Kd.R_lt (upR HO195))) (Kd.R_lt (upR HO198))) (Kd.R_lt (upR HO219))) (below_size (upB HB)))
                       have n4_ := Aside0.mk (blk_below (g := gb180) (o := .cells #[.string t173, .string t174, .string t175, .string t176, .bool t177, .int .i64 t178] 26 (0, 0)) (upK BK180) hb)
                       have n5_ := Aside0.mk (blk_below (g := gb206) (o := .cells #[.string t199, .string t200, .string t201, .string t202, .bool t203, .int .i64 t204] 26 (0, 0)) (upK BK206) hb)
                       have n6_ := Aside0.mk (blk_below (g := gb237) (o := .cells #[.string (⟨#[]⟩ : ByteArray), .string (⟨#[]⟩ : ByteArray), .string (⟨#[]⟩ : ByteArray), .string (⟨#[]⟩ : ByteArray), .bool false, .int .i64 0] 26 (0, 0)) (upK BK237) hb)
                       have n7_ := Aside0.mk (below_step (upB HB) hb)
                       clear HO195 HO198 HO219 BK180 BK206 BK237 HB; have HO195 := n0_; have HO198 := n1_; have HO219 := n2_; have HO209 := n3_; have BK180 := n4_; have BK206 := n5_; have BK237 := n6_; have HB := n7_; clear n0_ n1_ n2_ n3_ n4_ n5_ n6_ n7_ hb ho81
                       refine hK.out _ _ trivial (fun hHeld => ?_)
                       clear hK K
                       refine norm_ (a' := ?_) ?_ ?_
                       rotate_left
                       ·show Act.put _ (some 98) _ = _
                        simp only [Act.put, List.setIfInBounds_toArray, List.set_cons_zero, List.set_cons_succ, i64_w, i32_w]
                        rfl
                       exact norm_ (by first | (simp only [putAll, Act.put, List.setIfInBounds_toArray, List.set_cons_zero, List.set_cons_succ]; done) | (simp only [putAll, Act.put, List.setIfInBounds_toArray, List.set_cons_zero, List.set_cons_succ]; rfl)) (hJ0_8_18 (v208, v218, gb237) _ ⟨(by (with_reducible repeat (first | apply Kd.R_alloc | apply Kd.R_drewN | apply Kd.R_drew)); exact Kd.R_mono HO195.out (fun _ hk => ⟨hk.1.1, ⟨hk.2, hk.1.2⟩⟩)), (by (with_reducible repeat (first | apply Kd.R_alloc | apply Kd.R_drewN | apply Kd.R_drew)); exact Kd.R_mono HO198.out (fun _ hk => ⟨hk.1.1, ⟨hk.2, hk.1.2⟩⟩)), (by (with_reducible repeat (first | apply Kd.R_alloc | apply Kd.R_drewN | apply Kd.R_drew)); exact Kd.R_mono HO209.out (fun _ hk => ⟨hk.1.1.2, ⟨hk.1.2, hk.2⟩⟩)), (by (with_reducible repeat (first | apply Kd.R_alloc | apply Kd.R_drewN | apply Kd.R_drew)); exact Kd.R_mono HO219.out (fun _ hk => ⟨hk.1.1, ⟨hk.1.2, hk.2⟩⟩)), (upK BK180), (upK BK206), (upK BK237), GW237.out, GE237.out, NB180_237.out, NB237_180.out, NB206_237.out, NB237_206.out, (upB HB)⟩)
                     ·skip
                      rintro ⟨v208, gb237⟩ w79 ⟨h0_, h1_, h2_, h3_, h4_, h5_, h6_, h7_, h8_, h9_, h10_, h11_, h12_⟩
                      have n0_ : Aside0 (Kd.R k32 32 w79 w.heap.size (fun k_ => some k_ ≠ (.slice Ao67 y196.length co67 : Value).ownBlock ∧ some k_ ≠ (v208 : Value).ownBlock) (.slice Ao66 y193.length co66) y193) := ⟨h0_⟩
                      have n1_ : Aside0 (Kd.R k32 32 w79 w.heap.size (fun k_ => some k_ ≠ (.slice Ao66 y193.length co66 : Value).ownBlock ∧ some k_ ≠ (v208 : Value).ownBlock) (.slice Ao67 y196.length co67) y196) := ⟨h1_⟩
                      have n2_ : Aside0 (Kd.R k32 32 w79 w.heap.size (fun k_ => some k_ ≠ (.slice Ao66 y193.length co66 : Value).ownBlock ∧ some k_ ≠ (.slice Ao67 y196.length co67 : Value).ownBlock) v208 y207) := ⟨h2_⟩
                      have n3_ : Aside0 (w79.heap[gb180]? = some (.cells #[.string t173, .string t174, .string t175, .string t176, .bool t177, .int .i64 t178] 26 (0, 0))) := ⟨h3_⟩
                      have n4_ : Aside0 (w79.heap[gb206]? = some (.cells #[.string t199, .string t200, .string t201, .string t202, .bool t203, .int .i64 t204] 26 (0, 0))) := ⟨h4_⟩
                      have n5_ : Aside0 (w79.heap[gb237]? = some (.cells #[.string (⟨#[]⟩ : ByteArray), .string (⟨#[]⟩ : ByteArray), .string (⟨#[]⟩ : ByteArray), .string (⟨#[]⟩ : ByteArray), .bool false, .int .i64 0] 26 (0, 0))) := ⟨h5_⟩
                      have n6_ : Aside0 (w.heap.size ≤ gb237) := ⟨h6_⟩
                      have n7_ : Aside0 (w.heap.size ≤ gb237) := ⟨h7_⟩
                      have n8_ : Aside0 (gb180 ≠ gb237) := ⟨h8_⟩
                      have n9_ : Aside0 (gb237 ≠ gb180) := ⟨h9_⟩
                      have n10_ : Aside0 (gb206 ≠ gb237) := ⟨h10_⟩
                      have n11_ : Aside0 (gb237 ≠ gb206) := ⟨h11_⟩
                      have n12_ : Aside0 (Below w.heap.size w w79) := ⟨h12_⟩
                      clear HO195 HO198 BK180 BK206 HB h0_ h1_ h2_ h3_ h4_ h5_ h6_ h7_ h8_ h9_ h10_ h11_ h12_; have HO195 := n0_; have HO198 := n1_; have HO209 := n2_; have BK180 := n3_; have BK206 := n4_; have BK237 := n5_; have GW237 := n6_; have GE237 := n7_; have NB180_237 := n8_; have NB237_180 := n9_; have NB206_237 := n10_; have NB237_206 := n11_; have HB := n12_; clear n0_ n1_ n2_ n3_ n4_ n5_ n6_ n7_ n8_ n9_ n10_ n11_ n12_; have hHeld := trivial
                      refine norm_ (a' := ?_) ?_ ?_
                      rotate_left
                      ·simp only [putAll, Act.put, List.setIfInBounds_toArray, List.set_cons_zero, List.set_cons_succ]
                       rfl
                      refine two_ (i := 4) (j := 8) (Ni := some 102) (Nj := some 106) #[true, true, true, true, true, true, true, true, false, false, true, true, true, false, false, false, false, false, true, false, false] #[true, true, true, true, false, true, true, true, true, false, true, true, true, false, false, false, false, false, true, false, false] rfl rfl rfl rfl (two_of HT_.out (by kernel_rfl)) (by decide) (by decide) (fun K hK => ?_) (fun K hK => ?_)
                      ·skip
                       refine Kd.R_append_rows_step k32 (w0 := w) w.heap.size (by rfl) (.tmp 98) (.tmp 101) 22 32 (.agg #[(.string ⟨#[]⟩), (.string ⟨#[]⟩), (.bool false)]) 40 rfl Tryd.underlying22 info32 rfl (by decide) (by omega) v208 y207 y210 _ _ _ (fun k_ => some k_ ≠ (.slice Ao66 y193.length co66 : Value).ownBlock ∧ some k_ ≠ (.slice Ao67 y196.length co67 : Value).ownBlock) (fun _ => False) rfl rfl ?aO ?aR (fun _ _ h => h) (fun _ h => h.elim) ?aF ?aB ?aS ?aL ?_
                       (case aR => repeat (first | exact (Kd.C_below HR213.out HB.out) | (with_reducible refine Kd.C_alloc ?_ _) | (with_reducible refine Kd.C_drewN ?_ _) | (with_reducible refine Kd.C_drew ?_)))
                       (case aB => exact (upB HB))
                       (case aF => exact (fun k_ hk => ⟨Kd.fresh' (Kd.R_lt (upR HO195)) k_ hk, Kd.fresh' (Kd.R_lt (upR HO198)) k_ hk⟩))
                       (case aO => exact (upR HO209))
                       (case aS => exact (below_size (upB HB)))
                       (case aL => have := LMc51.out; omega)
                       intro v215 w80 ho hb hg hat
                       rw [← Ny214.out] at ho
                       have n0_ := Aside0.mk (blk_grown (g := gb180) (o := .cells #[.string t173, .string t174, .string t175, .string t176, .bool t177, .int .i64 t178] 26 (0, 0)) (upK BK180) hg (Kd.R_ne HO209.out BK180.out (by decide)))
                       have n1_ := Aside0.mk (Kd.R_after (ok := (fun k_ => some k_ ≠ (.slice Ao67 y196.length co67 : Value).ownBlock)) (upR HO195) hg hat)
                       have n2_ := Aside0.mk (Kd.R_after (ok := (fun k_ => some k_ ≠ (.slice Ao66 y193.length co66 : Value).ownBlock)) (upR HO198) hg hat)
                       have n3_ := Aside0.mk (blk_grown (g := gb206) (o := .cells #[.string t199, .string t200, .string t201, .string t202, .bool t203, .int .i64 t204] 26 (0, 0)) (upK BK206) hg (Kd.R_ne HO209.out BK206.out (by decide)))
                       have n4_ := Aside0.mk (blk_grown (g := gb237) (o := .cells #[.string (⟨#[]⟩ : ByteArray), .string (⟨#[]⟩ : ByteArray), .string (⟨#[]⟩ : ByteArray), .string (⟨#[]⟩ : ByteArray), .bool false, .int .i64 0] 26 (0, 0)) (upK BK237) hg (Kd.R_ne HO209.out BK237.out (by decide)))
                       have n5_ := Aside0.mk (hb)
                       have n6_ := Aside0.mk (ho)
                       clear BK180 HO195 HO198 BK206 BK237 HB HO209; have BK180 := n0_; have HO195 := n1_; have HO198 := n2_; have BK206 := n3_; have BK237 := n4_; have HB := n5_; have HO216 := n6_; clear n0_ n1_ n2_ n3_ n4_ n5_ n6_ ho hb hg hat
                       refine hK.out _ _ trivial (fun hHeld => ?_)
                       clear hK K
                       refine norm_ (a' := ?_) ?_ ?_
                       rotate_left
                       ·show Act.put _ (some 102) _ = _
                        simp only [Act.put, List.setIfInBounds_toArray, List.set_cons_zero, List.set_cons_succ, i64_w, i32_w]
                        rfl
                       exact norm_ (by first | (simp only [putAll, Act.put, List.setIfInBounds_toArray, List.set_cons_zero, List.set_cons_succ]; done) | (simp only [putAll, Act.put, List.setIfInBounds_toArray, List.set_cons_zero, List.set_cons_succ]; rfl)) (hJ0_4_18 (v208, v215, gb237) _ ⟨(upR HO195), (upR HO198), (upR HO216), (upK BK180), (upK BK206), (upK BK237), GW237.out, GE237.out, NB180_237.out, NB237_180.out, NB206_237.out, NB237_206.out, (upB HB)⟩)
                      ·skip
                       refine Kd.R_lit_step k32 _ 32 ?hg (N := 106) ?hd (xs := ([(⟨a1, a2, false⟩ : S32)] : List (S32))) (inner := [.string a1, .string a2, .bool false]) (ok := fun _ => True) (okp := fun _ => True) ?hr ?hp (fun _ hk => hk) trivial (Below.refl _ _) (Nat.le_refl _) (by simp) ?_; (case hd => rfl); (case hg => rfl); (case hr => first | (go_simp; done) | (go_simp; rfl)); (case hp => exact (Reps.c3 (show Kd.M k32 _ _ _ (⟨a1, a2, false⟩ : S32) [.string a1, .string a2, .bool false] from (k32_mkM _ _ _ (⟨a1, a2, false⟩ : S32) )) (Reps.none _ _)))
                       intro v218 w80 ho81 hb hg_ hnew_
                       clear hg_ hnew_
                       (first | rw [← Ny217.out] at ho81 | (simp only [Int.reduceToNat] at ho81; rw [← Ny217.out] at ho81))
                       have n0_ := Aside0.mk (Kd.R_elder' (upR HO195) (Kd.R_base ho81) hb)
                       have n1_ := Aside0.mk (Kd.R_elder' (upR HO198) (Kd.R_base ho81) hb)
                       have n2_ := Aside0.mk (Kd.R_elder' (upR HO209) (Kd.R_base ho81) hb)
                       have n3_ := Aside0.mk (Kd.R_lower (Kd.R_new' (Kd.R_new' (Kd.R_new' ho81 (Kd.R_lt (upR HO195))) (Kd.R_lt (upR HO198))) (Kd.R_lt (upR HO209))) (below_size (upB HB)))
                       have n4_ := Aside0.mk (blk_below (g := gb180) (o := .cells #[.string t173, .string t174, .string t175, .string t176, .bool t177, .int .i64 t178] 26 (0, 0)) (upK BK180) hb)
                       have n5_ := Aside0.mk (blk_below (g := gb206) (o := .cells #[.string t199, .string t200, .string t201, .string t202, .bool t203, .int .i64 t204] 26 (0, 0)) (upK BK206) hb)
                       have n6_ := Aside0.mk (blk_below (g := gb237) (o := .cells #[.string (⟨#[]⟩ : ByteArray), .string (⟨#[]⟩ : ByteArray), .string (⟨#[]⟩ : ByteArray), .string (⟨#[]⟩ : ByteArray), .bool false, .int .i64 0] 26 (0, 0)) (upK BK237) hb)
                       have n7_ := Aside0.mk (below_step (upB HB) hb)
                       clear HO195 HO198 HO209 BK180 BK206 BK237 HB; have HO195 := n0_; have HO198 := n1_; have HO209 := n2_; have HO219 := n3_; have BK180 := n4_; have BK206 := n5_; have BK237 := n6_; have HB := n7_; clear n0_ n1_ n2_ n3_ n4_ n5_ n6_ n7_ hb ho81
                       refine hK.out _ _ trivial (fun hHeld => ?_)
                       clear hK K
                       refine norm_ (a' := ?_) ?_ ?_
                       rotate_left
                       ·show Act.put _ (some 106) _ = _
                        simp only [Act.put, List.setIfInBounds_toArray, List.set_cons_zero, List.set_cons_succ, i64_w, i32_w]
                        rfl
                       exact norm_ (by first | (simp only [putAll, Act.put, List.setIfInBounds_toArray, List.set_cons_zero, List.set_cons_succ]; done) | (simp only [putAll, Act.put, List.setIfInBounds_toArray, List.set_cons_zero, List.set_cons_succ]; rfl)) (hJ0_8_18 (v208, v218, gb237) _ ⟨(by (with_reducible repeat (first | apply Kd.R_alloc | apply Kd.R_drewN | apply Kd.R_drew)); exact Kd.R_mono HO195.out (fun _ hk => ⟨hk.1.1, ⟨hk.1.2, hk.2⟩⟩)), (by (with_reducible repeat (first | apply Kd.R_alloc | apply Kd.R_drewN | apply Kd.R_drew)); exact Kd.R_mono HO198.out (fun _ hk => ⟨hk.1.1, ⟨hk.1.2, hk.2⟩⟩)), (by (with_reducible repeat (first | apply Kd.R_alloc | apply Kd.R_drewN | apply Kd.R_drew)); exact Kd.R_mono HO209.out (fun _ hk => ⟨hk.1.1, ⟨hk.1.2, hk.2⟩⟩)), (by (with_reducible repeat (first | apply Kd.R_alloc | apply Kd.R_drewN | apply Kd.R_drew)); exact Kd.R_mono HO219.out (fun _ hk => ⟨hk.1.1.2, ⟨hk.1.2, hk.2⟩⟩)), (upK BK180), (upK BK206), (upK BK237), GW237.out, GE237.out, NB180_237.out, NB237_180.out, NB206_237.out, NB237_206.out, (upB HB)⟩)
                    ·skip
                     rintro ⟨v208, v218⟩ w80 ⟨h0_, h1_, h2_, h3_, h4_, h5_, h6_⟩
                     have n0_ : Aside0 (Kd.R k32 32 w80 w.heap.size (fun k_ => some k_ ≠ (.slice Ao67 y196.length co67 : Value).ownBlock ∧ some k_ ≠ (v208 : Value).ownBlock ∧ some k_ ≠ (v218 : Value).ownBlock) (.slice Ao66 y193.length co66) y193) := ⟨h0_⟩
                     have n1_ : Aside0 (Kd.R k32 32 w80 w.heap.size (fun k_ => some k_ ≠ (.slice Ao66 y193.length co66 : Value).ownBlock ∧ some k_ ≠ (v208 : Value).ownBlock ∧ some k_ ≠ (v218 : Value).ownBlock) (.slice Ao67 y196.length co67) y196) := ⟨h1_⟩
                     have n2_ : Aside0 (Kd.R k32 32 w80 w.heap.size (fun k_ => some k_ ≠ (.slice Ao66 y193.length co66 : Value).ownBlock ∧ some k_ ≠ (.slice Ao67 y196.length co67 : Value).ownBlock ∧ some k_ ≠ (v218 : Value).ownBlock) v208 y207) := ⟨h2_⟩
                     have n3_ : Aside0 (Kd.R k32 32 w80 w.heap.size (fun k_ => some k_ ≠ (.slice Ao66 y193.length co66 : Value).ownBlock ∧ some k_ ≠ (.slice Ao67 y196.length co67 : Value).ownBlock ∧ some k_ ≠ (v208 : Value).ownBlock) v218 y217) := ⟨h3_⟩
                     have n4_ : Aside0 (w80.heap[gb180]? = some (.cells #[.string t173, .string t174, .string t175, .string t176, .bool t177, .int .i64 t178] 26 (0, 0))) := ⟨h4_⟩
                     have n5_ : Aside0 (w80.heap[gb206]? = some (.cells #[.string t199, .string t200, .string t201, .string t202, .bool t203, .int .i64 t204] 26 (0, 0))) := ⟨h5_⟩
                     have n6_ : Aside0 (Below w.heap.size w w80) := ⟨h6_⟩
                     clear HO195 HO198 BK180 BK206 HB h0_ h1_ h2_ h3_ h4_ h5_ h6_; have HO195 := n0_; have HO198 := n1_; have HO209 := n2_; have HO219 := n3_; have BK180 := n4_; have BK206 := n5_; have HB := n6_; clear n0_ n1_ n2_ n3_ n4_ n5_ n6_; have hHeld := trivial
                     refine norm_ (a' := ?_) ?_ ?_
                     rotate_left
                     ·simp only [putAll, Act.put, List.setIfInBounds_toArray, List.set_cons_zero, List.set_cons_succ]
                      rfl
                     refine two_ (i := 4) (j := 18) (Ni := some 102) (Nj := some 12) #[true, true, true, true, true, true, true, true, true, false, true, true, true, false, false, false, false, false, false, false, false] #[true, true, true, true, false, true, true, true, true, false, true, true, true, false, false, false, false, false, true, false, false] rfl rfl rfl rfl (two_of HT_.out (by kernel_rfl)) (by decide) (by decide) (fun K hK => ?_) (fun K hK => ?_)
                     ·skip
                      refine Kd.R_append_rows_step k32 (w0 := w) w.heap.size (by rfl) (.tmp 98) (.tmp 101) 22 32 (.agg #[(.string ⟨#[]⟩), (.string ⟨#[]⟩), (.bool false)]) 40 rfl Tryd.underlying22 info32 rfl (by decide) (by omega) v208 y207 y210 _ _ _ (fun k_ => some k_ ≠ (.slice Ao66 y193.length co66 : Value).ownBlock ∧ some k_ ≠ (.slice Ao67 y196.length co67 : Value).ownBlock ∧ some k_ ≠ (v218 : Value).ownBlock) (fun _ => False) rfl rfl ?aO ?aR (fun _ _ h => h) (fun _ h => h.elim) ?aF ?aB ?aS ?aL ?_
                      (case aR => repeat (first | exact (Kd.C_below HR213.out HB.out) | (with_reducible refine Kd.C_alloc ?_ _) | (with_reducible refine Kd.C_drewN ?_ _) | (with_reducible refine Kd.C_drew ?_)))
                      (case aB => exact (upB HB))
                      (case aF => exact (fun k_ hk => ⟨Kd.fresh' (Kd.R_lt (upR HO195)) k_ hk, Kd.fresh' (Kd.R_lt (upR HO198)) k_ hk, Kd.fresh' (Kd.R_lt (upR HO219)) k_ hk⟩))
                      (case aO => exact (upR HO209))
                      (case aS => exact (below_size (upB HB)))
                      (case aL => have := LMc51.out; omega)
                      intro v215 w81 ho hb hg hat
                      rw [← Ny214.out] at ho
                      have n0_ := Aside0.mk (blk_grown (g := gb180) (o := .cells #[.string t173, .string t174, .string t175, .string t176, .bool t177, .int .i64 t178] 26 (0, 0)) (upK BK180) hg (Kd.R_ne HO209.out BK180.out (by decide)))
                      have n1_ := Aside0.mk (Kd.R_after (ok := (fun k_ => some k_ ≠ (.slice Ao67 y196.length co67 : Value).ownBlock ∧ some k_ ≠ (v218 : Value).ownBlock)) (by (with_reducible repeat (first | apply Kd.R_alloc | apply Kd.R_drewN | apply Kd.R_drew)); exact Kd.R_mono HO195.out (fun _ hk => ⟨⟨hk.1, hk.2.2⟩, hk.2.1⟩)) hg hat)
                      have n2_ := Aside0.mk (Kd.R_after (ok := (fun k_ => some k_ ≠ (.slice Ao66 y193.length co66 : Value).ownBlock ∧ some k_ ≠ (v218 : Value).ownBlock)) (by (with_reducible repeat (first | apply Kd.R_alloc | apply Kd.R_drewN | apply Kd.R_drew)); exact Kd.R_mono HO198.out (fun _ hk => ⟨⟨hk.1, hk.2.2⟩, hk.2.1⟩)) hg hat)
                      have n3_ := Aside0.mk (blk_grown (g := gb206) (o := .cells #[.string t199, .string t200, .string t201, .string t202, .bool t203, .int .i64 t204] 26 (0, 0)) (upK BK206) hg (Kd.R_ne HO209.out BK206.out (by decide)))
                      have n4_ := Aside0.mk (Kd.R_after (ok := (fun k_ => some k_ ≠ (.slice Ao66 y193.length co66 : Value).ownBlock ∧ some k_ ≠ (.slice Ao67 y196.length co67 : Value).ownBlock)) (by (with_reducible repeat (first | apply Kd.R_alloc | apply Kd.R_drewN | apply Kd.R_drew)); exact Kd.R_mono HO219.out (fun _ hk => ⟨⟨hk.1, hk.2.1⟩, hk.2.2⟩)) hg hat)
                      have n5_ := Aside0.mk (hb)
                      have n6_ := Aside0.mk (ho)
                      clear BK180 HO195 HO198 BK206 HO219 HB HO209; have BK180 := n0_; have HO195 := n1_; have HO198 := n2_; have BK206 := n3_; have HO219 := n4_; have HB := n5_; have HO216 := n6_; clear n0_ n1_ n2_ n3_ n4_ n5_ n6_ ho hb hg hat
                      refine hK.out _ _ trivial (fun hHeld => ?_)
                      clear hK K
                      refine norm_ (a' := ?_) ?_ ?_
                      rotate_left
                      ·show Act.put _ (some 102) _ = _
                       simp only [Act.put, List.setIfInBounds_toArray, List.set_cons_zero, List.set_cons_succ, i64_w, i32_w]
                       rfl
                      exact norm_ (by first | (simp only [putAll, Act.put, List.setIfInBounds_toArray, List.set_cons_zero, List.set_cons_succ]; done) | (simp only [putAll, Act.put, List.setIfInBounds_toArray, List.set_cons_zero, List.set_cons_succ]; rfl)) (hJ0_4_8 (v208, v215, v218) _ ⟨(by (with_reducible repeat (first | apply Kd.R_alloc | apply Kd.R_drewN | apply Kd.R_drew)); exact Kd.R_mono HO195.out (fun _ hk => ⟨hk.1.1, ⟨hk.2, hk.1.2⟩⟩)), (by (with_reducible repeat (first | apply Kd.R_alloc | apply Kd.R_drewN | apply Kd.R_drew)); exact Kd.R_mono HO198.out (fun _ hk => ⟨hk.1.1, ⟨hk.2, hk.1.2⟩⟩)), (upR HO216), (by (with_reducible repeat (first | apply Kd.R_alloc | apply Kd.R_drewN | apply Kd.R_drew)); exact Kd.R_mono HO219.out (fun _ hk => ⟨hk.1.1, ⟨hk.1.2, hk.2⟩⟩)), (upK BK180), (upK BK206), (upB HB)⟩)
                     ·skip
                      refine box_step ?hg (N := 12) ?hd (cs := #[.string (⟨#[]⟩ : ByteArray), .string (⟨#[]⟩ : ByteArray), .string (⟨#[]⟩ : ByteArray), .string (⟨#[]⟩ : ByteArray), .bool false, .int .i64 0]) (t := 26) ?hr ?_; (case hd => rfl); (case hg => rfl); (case hr => first | (go_simp; done) | (go_simp; rfl))
                      intro gb237 hg w81 hbox hb
                      have n0_ := Aside0.mk (Kd.R_below (upR HO195) hb)
                      have n1_ := Aside0.mk (Kd.R_below (upR HO198) hb)
                      have n2_ := Aside0.mk (Kd.R_below (upR HO209) hb)
                      have n3_ := Aside0.mk (Kd.R_below (upR HO219) hb)
                      have n4_ := Aside0.mk (blk_below (g := gb180) (o := .cells #[.string t173, .string t174, .string t175, .string t176, .bool t177, .int .i64 t178] 26 (0, 0)) (upK BK180) hb)
                      have n5_ := Aside0.mk (blk_below (g := gb206) (o := .cells #[.string t199, .string t200, .string t201, .string t202, .bool t203, .int .i64 t204] 26 (0, 0)) (upK BK206) hb)
                      have n6_ := Aside0.mk (below_step (upB HB) hb)
                      have n7_ := Aside0.mk (hbox)
                      have n8_ := Aside0.mk ((by rw [hg]; exact (below_size (upB HB)) : w.heap.size ≤ gb237))
                      have n9_ := Aside0.mk ((by rw [hg]; exact (below_size (upB HB)) : w.heap.size ≤ gb237))
                      have n10_ := Aside0.mk ((by rw [hg]; exact Nat.ne_of_lt (blk_lt (g := gb180) (o := .cells #[.string t173, .string t174, .string t175, .string t176, .bool t177, .int .i64 t178] 26 (0, 0)) (upK BK180)) : gb180 ≠ gb237))
                      have n11_ := Aside0.mk ((by rw [hg]; exact Nat.ne_of_gt (blk_lt (g := gb180) (o := .cells #[.string t173, .string t174, .string t175, .string t176, .bool t177, .int .i64 t178] 26 (0, 0)) (upK BK180)) : gb237 ≠ gb180))
                      have n12_ := Aside0.mk ((by rw [hg]; exact Nat.ne_of_lt (blk_lt (g := gb206) (o := .cells #[.string t199, .string t200, .string t201, .string t202, .bool t203, .int .i64 t204] 26 (0, 0)) (upK BK206)) : gb206 ≠ gb237))
                      have n13_ := Aside0.mk ((by rw [hg]; exact Nat.ne_of_gt (blk_lt (g := gb206) (o := .cells #[.string t199, .string t200, .string t201, .string t202, .bool t203, .int .i64 t204] 26 (0, 0)) (upK BK206)) : gb237 ≠ gb206))
                      clear HO195 HO198 HO209 HO219 BK180 BK206 HB; have HO195 := n0_; have HO198 := n1_; have HO209 := n2_; have HO219 := n3_; have BK180 := n4_; have BK206 := n5_; have HB := n6_; have BK237 := n7_; have GW237 := n8_; have GE237 := n9_; have NB180_237 := n10_; have NB237_180 := n11_; have NB206_237 := n12_; have NB237_206 := n13_; clear n0_ n1_ n2_ n3_ n4_ n5_ n6_ n7_ n8_ n9_ n10_ n11_ n12_ n13_ hb hbox hg
                      refine hK.out _ _ trivial (fun hHeld => ?_)
                      clear hK K
                      refine norm_ (a' := ?_) ?_ ?_
                      rotate_left
                      ·show Act.put _ (some 12) _ = _
                       simp only [Act.put, List.setIfInBounds_toArray, List.set_cons_zero, List.set_cons_succ, i64_w, i32_w]
                       rfl
                      exact norm_ (by first | (simp only [putAll, Act.put, List.setIfInBounds_toArray, List.set_cons_zero, List.set_cons_succ]; done) | (simp only [putAll, Act.put, List.setIfInBounds_toArray, List.set_cons_zero, List.set_cons_succ]; rfl)) (hJ0_8_18 (v208, v218, gb237) _ ⟨(upR HO195), (upR HO198), (upR HO209), (upR HO219), (upK BK180), (upK BK206), (upK BK237), GW237.out, GE237.out, NB180_237.out, NB237_180.out, NB206_237.out, NB237_206.out, (upB HB)⟩)
                   ·skip
                    rintro ⟨v208, v215⟩ w79 ⟨h0_, h1_, h2_, h3_, h4_, h5_⟩
                    have n0_ : Aside0 (Kd.R k32 32 w79 w.heap.size (fun k_ => some k_ ≠ (.slice Ao67 y196.length co67 : Value).ownBlock ∧ some k_ ≠ (v215 : Value).ownBlock) (.slice Ao66 y193.length co66) y193) := ⟨h0_⟩
                    have n1_ : Aside0 (Kd.R k32 32 w79 w.heap.size (fun k_ => some k_ ≠ (.slice Ao66 y193.length co66 : Value).ownBlock ∧ some k_ ≠ (v215 : Value).ownBlock) (.slice Ao67 y196.length co67) y196) := ⟨h1_⟩
                    have n2_ : Aside0 (Kd.R k32 32 w79 w.heap.size (fun k_ => some k_ ≠ (.slice Ao66 y193.length co66 : Value).ownBlock ∧ some k_ ≠ (.slice Ao67 y196.length co67 : Value).ownBlock) v215 y214) := ⟨h2_⟩
                    have n3_ : Aside0 (w79.heap[gb180]? = some (.cells #[.string t173, .string t174, .string t175, .string t176, .bool t177, .int .i64 t178] 26 (0, 0))) := ⟨h3_⟩
                    have n4_ : Aside0 (w79.heap[gb206]? = some (.cells #[.string t199, .string t200, .string t201, .string t202, .bool t203, .int .i64 t204] 26 (0, 0))) := ⟨h4_⟩
                    have n5_ : Aside0 (Below w.heap.size w w79) := ⟨h5_⟩
                    clear HO195 HO198 BK180 BK206 HB h0_ h1_ h2_ h3_ h4_ h5_; have HO195 := n0_; have HO198 := n1_; have HO216 := n2_; have BK180 := n3_; have BK206 := n4_; have HB := n5_; clear n0_ n1_ n2_ n3_ n4_ n5_; have hHeld := trivial
                    refine norm_ (a' := ?_) ?_ ?_
                    rotate_left
                    ·simp only [putAll, Act.put, List.setIfInBounds_toArray, List.set_cons_zero, List.set_cons_succ]
                     rfl
                    refine two_ (i := 8) (j := 18) (Ni := some 106) (Nj := some 12) #[true, true, true, true, true, true, true, true, true, false, true, true, true, false, false, false, false, false, false, false, false] #[true, true, true, true, true, true, true, true, false, false, true, true, true, false, false, false, false, false, true, false, false] rfl rfl rfl rfl (two_of HT_.out (by kernel_rfl)) (by decide) (by decide) (fun K hK => ?_) (fun K hK => ?_)
                    ·skip
                     refine Kd.R_lit_step k32 _ 32 ?hg (N := 106) ?hd (xs := ([(⟨a1, a2, false⟩ : S32)] : List (S32))) (inner := [.string a1, .string a2, .bool false]) (ok := fun _ => True) (okp := fun _ => True) ?hr ?hp (fun _ hk => hk) trivial (Below.refl _ _) (Nat.le_refl _) (by simp) ?_; (case hd => rfl); (case hg => rfl); (case hr => first | (go_simp; done) | (go_simp; rfl)); (case hp => exact (Reps.c3 (show Kd.M k32 _ _ _ (⟨a1, a2, false⟩ : S32) [.string a1, .string a2, .bool false] from (k32_mkM _ _ _ (⟨a1, a2, false⟩ : S32) )) (Reps.none _ _)))
                     intro v218 w80 ho81 hb hg_ hnew_
                     clear hg_ hnew_
                     (first | rw [← Ny217.out] at ho81 | (simp only [Int.reduceToNat] at ho81; rw [← Ny217.out] at ho81))
                     have n0_ := Aside0.mk (Kd.R_elder' (upR HO195) (Kd.R_base ho81) hb)
                     have n1_ := Aside0.mk (Kd.R_elder' (upR HO198) (Kd.R_base ho81) hb)
                     have n2_ := Aside0.mk (Kd.R_elder' (upR HO216) (Kd.R_base ho81) hb)
                     have n3_ := Aside0.mk (Kd.R_lower (Kd.R_new' (Kd.R_new' (Kd.R_new' ho81 (Kd.R_lt (upR HO195))) (Kd.R_lt (upR HO198))) (Kd.R_lt (upR HO216))) (below_size (upB HB)))
                     have n4_ := Aside0.mk (blk_below (g := gb180) (o := .cells #[.string t173, .string t174, .string t175, .string t176, .bool t177, .int .i64 t178] 26 (0, 0)) (upK BK180) hb)
                     have n5_ := Aside0.mk (blk_below (g := gb206) (o := .cells #[.string t199, .string t200, .string t201, .string t202, .bool t203, .int .i64 t204] 26 (0, 0)) (upK BK206) hb)
                     have n6_ := Aside0.mk (below_step (upB HB) hb)
                     clear HO195 HO198 HO216 BK180 BK206 HB; have HO195 := n0_; have HO198 := n1_; have HO216 := n2_; have HO219 := n3_; have BK180 := n4_; have BK206 := n5_; have HB := n6_; clear n0_ n1_ n2_ n3_ n4_ n5_ n6_ hb ho81
                     refine hK.out _ _ trivial (fun hHeld => ?_)
                     clear hK K
                     refine norm_ (a' := ?_) ?_ ?_
                     rotate_left
                     ·show Act.put _ (some 106) _ = _
                      simp only [Act.put, List.setIfInBounds_toArray, List.set_cons_zero, List.set_cons_succ, i64_w, i32_w]
                      rfl
                     exact norm_ (by first | (simp only [putAll, Act.put, List.setIfInBounds_toArray, List.set_cons_zero, List.set_cons_succ]; done) | (simp only [putAll, Act.put, List.setIfInBounds_toArray, List.set_cons_zero, List.set_cons_succ]; rfl)) (hJ0_4_8 (v208, v215, v218) _ ⟨(by (with_reducible repeat (first | apply Kd.R_alloc | apply Kd.R_drewN | apply Kd.R_drew)); exact Kd.R_mono HO195.out (fun _ hk => ⟨hk.1.1, ⟨hk.1.2, hk.2⟩⟩)), (by (with_reducible repeat (first | apply Kd.R_alloc | apply Kd.R_drewN | apply Kd.R_drew)); exact Kd.R_mono HO198.out (fun _ hk => ⟨hk.1.1, ⟨hk.1.2, hk.2⟩⟩)), (by (with_reducible repeat (first | apply Kd.R_alloc | apply Kd.R_drewN | apply Kd.R_drew)); exact Kd.R_mono HO216.out (fun _ hk => ⟨hk.1.1, ⟨hk.1.2, hk.2⟩⟩)), (by (with_reducible repeat (first | apply Kd.R_alloc | apply Kd.R_drewN | apply Kd.R_drew)); exact Kd.R_mono HO219.out (fun _ hk => ⟨hk.1.1.2, ⟨hk.1.2, hk.2⟩⟩)), (upK BK180), (upK BK206), (upB HB)⟩)
                    ·skip
                     refine box_step ?hg (N := 12) ?hd (cs := #[.string (⟨#[]⟩ : ByteArray), .string (⟨#[]⟩ : ByteArray), .string (⟨#[]⟩ : ByteArray), .string (⟨#[]⟩ : ByteArray), .bool false, .int .i64 0]) (t := 26) ?hr ?_; (case hd => rfl); (case hg => rfl); (case hr => first | (go_simp; done) | (go_simp; rfl))
                     intro gb237 hg w80 hbox hb
                     have n0_ := Aside0.mk (Kd.R_below (upR HO195) hb)
                     have n1_ := Aside0.mk (Kd.R_below (upR HO198) hb)
                     have n2_ := Aside0.mk (Kd.R_below (upR HO216) hb)
                     have n3_ := Aside0.mk (blk_below (g := gb180) (o := .cells #[.string t173, .string t174, .string t175, .string t176, .bool t177, .int .i64 t178] 26 (0, 0)) (upK BK180) hb)
                     have n4_ := Aside0.mk (blk_below (g := gb206) (o := .cells #[.string t199, .string t200, .string t201, .string t202, .bool t203, .int .i64 t204] 26 (0, 0)) (upK BK206) hb)
                     have n5_ := Aside0.mk (below_step (upB HB) hb)
                     have n6_ := Aside0.mk (hbox)
                     have n7_ := Aside0.mk ((by rw [hg]; exact (below_size (upB HB)) : w.heap.size ≤ gb237))
                     have n8_ := Aside0.mk ((by rw [hg]; exact (below_size (upB HB)) : w.heap.size ≤ gb237))
                     have n9_ := Aside0.mk ((by rw [hg]; exact Nat.ne_of_lt (blk_lt (g := gb180) (o := .cells #[.string t173, .string t174, .string t175, .string t176, .bool t177, .int .i64 t178] 26 (0, 0)) (upK BK180)) : gb180 ≠ gb237))
                     have n10_ := Aside0.mk ((by rw [hg]; exact Nat.ne_of_gt (blk_lt (g := gb180) (o := .cells #[.string t173, .string t174, .string t175, .string t176, .bool t177, .int .i64 t178] 26 (0, 0)) (upK BK180)) : gb237 ≠ gb180))
                     have n11_ := Aside0.mk ((by rw [hg]; exact Nat.ne_of_lt (blk_lt (g := gb206) (o := .cells #[.string t199, .string t200, .string t201, .string t202, .bool t203, .int .i64 t204] 26 (0, 0)) (upK BK206)) : gb206 ≠ gb237))
                     have n12_ := Aside0.mk ((by rw [hg]; exact Nat.ne_of_gt (blk_lt (g := gb206) (o := .cells #[.string t199, .string t200, .string t201, .string t202, .bool t203, .int .i64 t204] 26 (0, 0)) (upK BK206)) : gb237 ≠ gb206))
                     clear HO195 HO198 HO216 BK180 BK206 HB; have HO195 := n0_; have HO198 := n1_; have HO216 := n2_; have BK180 := n3_; have BK206 := n4_; have HB := n5_; have BK237 := n6_; have GW237 := n7_; have GE237 := n8_; have NB180_237 := n9_; have NB237_180 := n10_; have NB206_237 := n11_; have NB237_206 := n12_; clear n0_ n1_ n2_ n3_ n4_ n5_ n6_ n7_ n8_ n9_ n10_ n11_ n12_ hb hbox hg
                     refine hK.out _ _ trivial (fun hHeld => ?_)
                     clear hK K
                     refine norm_ (a' := ?_) ?_ ?_
                     rotate_left
                     ·show Act.put _ (some 12) _ = _
                      simp only [Act.put, List.setIfInBounds_toArray, List.set_cons_zero, List.set_cons_succ, i64_w, i32_w]
                      rfl
                     exact norm_ (by first | (simp only [putAll, Act.put, List.setIfInBounds_toArray, List.set_cons_zero, List.set_cons_succ]; done) | (simp only [putAll, Act.put, List.setIfInBounds_toArray, List.set_cons_zero, List.set_cons_succ]; rfl)) (hJ0_4_18 (v208, v215, gb237) _ ⟨(upR HO195), (upR HO198), (upR HO216), (upK BK180), (upK BK206), (upK BK237), GW237.out, GE237.out, NB180_237.out, NB237_180.out, NB206_237.out, NB237_206.out, (upB HB)⟩)
                  ·skip
                   rintro ⟨v208, v218, gb237⟩ w81 ⟨h0_, h1_, h2_, h3_, h4_, h5_, h6_, h7_, h8_, h9_, h10_, h11_, h12_, h13_⟩
                   have n0_ : Aside0 (Kd.R k32 32 w81 w.heap.size (fun k_ => some k_ ≠ (.slice Ao67 y196.length co67 : Value).ownBlock ∧ some k_ ≠ (v208 : Value).ownBlock ∧ some k_ ≠ (v218 : Value).ownBlock) (.slice Ao66 y193.length co66) y193) := ⟨h0_⟩
                   have n1_ : Aside0 (Kd.R k32 32 w81 w.heap.size (fun k_ => some k_ ≠ (.slice Ao66 y193.length co66 : Value).ownBlock ∧ some k_ ≠ (v208 : Value).ownBlock ∧ some k_ ≠ (v218 : Value).ownBlock) (.slice Ao67 y196.length co67) y196) := ⟨h1_⟩
                   have n2_ : Aside0 (Kd.R k32 32 w81 w.heap.size (fun k_ => some k_ ≠ (.slice Ao66 y193.length co66 : Value).ownBlock ∧ some k_ ≠ (.slice Ao67 y196.length co67 : Value).ownBlock ∧ some k_ ≠ (v218 : Value).ownBlock) v208 y207) := ⟨h2_⟩
                   have n3_ : Aside0 (Kd.R k32 32 w81 w.heap.size (fun k_ => some k_ ≠ (.slice Ao66 y193.length co66 : Value).ownBlock ∧ some k_ ≠ (.slice Ao67 y196.length co67 : Value).ownBlock ∧ some k_ ≠ (v208 : Value).ownBlock) v218 y217) := ⟨h3_⟩
                   have n4_ : Aside0 (w81.heap[gb180]? = some (.cells #[.string t173, .string t174, .string t175, .string t176, .bool t177, .int .i64 t178] 26 (0, 0))) := ⟨h4_⟩
                   have n5_ : Aside0 (w81.heap[gb206]? = some (.cells #[.string t199, .string t200, .string t201, .string t202, .bool t203, .int .i64 t204] 26 (0, 0))) := ⟨h5_⟩
                   have n6_ : Aside0 (w81.heap[gb237]? = some (.cells #[.string (⟨#[]⟩ : ByteArray), .string (⟨#[]⟩ : ByteArray), .string (⟨#[]⟩ : ByteArray), .string (⟨#[]⟩ : ByteArray), .bool false, .int .i64 0] 26 (0, 0))) := ⟨h6_⟩
                   have n7_ : Aside0 (w.heap.size ≤ gb237) := ⟨h7_⟩
                   have n8_ : Aside0 (w.heap.size ≤ gb237) := ⟨h8_⟩
                   have n9_ : Aside0 (gb180 ≠ gb237) := ⟨h9_⟩
                   have n10_ : Aside0 (gb237 ≠ gb180) := ⟨h10_⟩
                   have n11_ : Aside0 (gb206 ≠ gb237) := ⟨h11_⟩
                   have n12_ : Aside0 (gb237 ≠ gb206) := ⟨h12_⟩
                   have n13_ : Aside0 (Below w.heap.size w w81) := ⟨h13_⟩
                   clear HO195 HO198 BK180 BK206 HB h0_ h1_ h2_ h3_ h4_ h5_ h6_ h7_ h8_ h9_ h10_ h11_ h12_ h13_; have HO195 := n0_; have HO198 := n1_; have HO209 := n2_; have HO219 := n3_; have BK180 := n4_; have BK206 := n5_; have BK237 := n6_; have GW237 := n7_; have GE237 := n8_; have NB180_237 := n9_; have NB237_180 := n10_; have NB206_237 := n11_; have NB237_206 := n12_; have HB := n13_; clear n0_ n1_ n2_ n3_ n4_ n5_ n6_ n7_ n8_ n9_ n10_ n11_ n12_ n13_; have hHeld := trivial
                   refine norm_ (a' := ?_) ?_ ?_
                   rotate_left
                   ·simp only [putAll, Act.put, List.setIfInBounds_toArray, List.set_cons_zero, List.set_cons_succ]
                    rfl
                   refine one_ (i := 4) (N := some 102) #[true, true, true, true, true, true, true, true, true, false, true, true, true, false, false, false, false, false, true, false, false] rfl rfl (one_of HT_.out (by kernel_rfl)) (by decide) (fun K hK => ?_)
                   refine Kd.R_append_rows_step k32 (w0 := w) w.heap.size (by rfl) (.tmp 98) (.tmp 101) 22 32 (.agg #[(.string ⟨#[]⟩), (.string ⟨#[]⟩), (.bool false)]) 40 rfl Tryd.underlying22 info32 rfl (by decide) (by omega) v208 y207 y210 _ _ _ (fun k_ => some k_ ≠ (.slice Ao66 y193.length co66 : Value).ownBlock ∧ some k_ ≠ (.slice Ao67 y196.length co67 : Value).ownBlock ∧ some k_ ≠ (v218 : Value).ownBlock) (fun _ => False) rfl rfl ?aO ?aR (fun _ _ h => h) (fun _ h => h.elim) ?aF ?aB ?aS ?aL ?_
                   (case aR => repeat (first | exact (Kd.C_below HR213.out HB.out) | (with_reducible refine Kd.C_alloc ?_ _) | (with_reducible refine Kd.C_drewN ?_ _) | (with_reducible refine Kd.C_drew ?_)))
                   (case aB => exact (upB HB))
                   (case aF => exact (fun k_ hk => ⟨Kd.fresh' (Kd.R_lt (upR HO195)) k_ hk, Kd.fresh' (Kd.R_lt (upR HO198)) k_ hk, Kd.fresh' (Kd.R_lt (upR HO219)) k_ hk⟩))
                   (case aO => exact (upR HO209))
                   (case aS => exact (below_size (upB HB)))
                   (case aL => have := LMc51.out; omega)
                   intro v215 w82 ho hb hg hat
                   rw [← Ny214.out] at ho
                   have n0_ := Aside0.mk (blk_grown (g := gb180) (o := .cells #[.string t173, .string t174, .string t175, .string t176, .bool t177, .int .i64 t178] 26 (0, 0)) (upK BK180) hg (Kd.R_ne HO209.out BK180.out (by decide)))
                   have n1_ := Aside0.mk (Kd.R_after (ok := (fun k_ => some k_ ≠ (.slice Ao67 y196.length co67 : Value).ownBlock ∧ some k_ ≠ (v218 : Value).ownBlock)) (by (with_reducible repeat (first | apply Kd.R_alloc | apply Kd.R_drewN | apply Kd.R_drew)); exact Kd.R_mono HO195.out (fun _ hk => ⟨⟨hk.1, hk.2.2⟩, hk.2.1⟩)) hg hat)
                   have n2_ := Aside0.mk (Kd.R_after (ok := (fun k_ => some k_ ≠ (.slice Ao66 y193.length co66 : Value).ownBlock ∧ some k_ ≠ (v218 : Value).ownBlock)) (by (with_reducible repeat (first | apply Kd.R_alloc | apply Kd.R_drewN | apply Kd.R_drew)); exact Kd.R_mono HO198.out (fun _ hk => ⟨⟨hk.1, hk.2.2⟩, hk.2.1⟩)) hg hat)
                   have n3_ := Aside0.mk (blk_grown (g := gb206) (o := .cells #[.string t199, .string t200, .string t201, .string t202, .bool t203, .int .i64 t204] 26 (0, 0)) (upK BK206) hg (Kd.R_ne HO209.out BK206.out (by decide)))
                   have n4_ := Aside0.mk (Kd.R_after (ok := (fun k_ => some k_ ≠ (.slice Ao66 y193.length co66 : Value).ownBlock ∧ some k_ ≠ (.slice Ao67 y196.length co67 : Value).ownBlock)) (by (with_reducible repeat (first | apply Kd.R_alloc | apply Kd.R_drewN | apply Kd.R_drew)); exact Kd.R_mono HO219.out (fun _ hk => ⟨⟨hk.1, hk.2.1⟩, hk.2.2⟩)) hg hat)
                   have n5_ := Aside0.mk (blk_grown (g := gb237) (o := .cells #[.string (⟨#[]⟩ : ByteArray), .string (⟨#[]⟩ : ByteArray), .string (⟨#[]⟩ : ByteArray), .string (⟨#[]⟩ : ByteArray), .bool false, .int .i64 0] 26 (0, 0)) (upK BK237) hg (Kd.R_ne HO209.out BK237.out (by decide)))
                   have n6_ := Aside0.mk (hb)
                   have n7_ := Aside0.mk (ho)
                   clear BK180 HO195 HO198 BK206 HO219 BK237 HB HO209; have BK180 := n0_; have HO195 := n1_; have HO198 := n2_; have BK206 := n3_; have HO219 := n4_; have BK237 := n5_; have HB := n6_; have HO216 := n7_; clear n0_ n1_ n2_ n3_ n4_ n5_ n6_ n7_ ho hb hg hat
                   refine hK.out _ _ trivial (fun hHeld => ?_)
                   clear hK K
                   refine norm_ (a' := ?_) ?_ ?_
                   rotate_left
                   ·show Act.put _ (some 102) _ = _
                    simp only [Act.put, List.setIfInBounds_toArray, List.set_cons_zero, List.set_cons_succ, i64_w, i32_w]
                    rfl
                   exact norm_ (by first | (simp only [putAll, Act.put, List.setIfInBounds_toArray, List.set_cons_zero, List.set_cons_succ]; done) | (simp only [putAll, Act.put, List.setIfInBounds_toArray, List.set_cons_zero, List.set_cons_succ]; rfl)) (hJ0_4_8_18 (v208, v215, v218, gb237) _ ⟨(by (with_reducible repeat (first | apply Kd.R_alloc | apply Kd.R_drewN | apply Kd.R_drew)); exact Kd.R_mono HO195.out (fun _ hk => ⟨hk.1.1, ⟨hk.2, hk.1.2⟩⟩)), (by (with_reducible repeat (first | apply Kd.R_alloc | apply Kd.R_drewN | apply Kd.R_drew)); exact Kd.R_mono HO198.out (fun _ hk => ⟨hk.1.1, ⟨hk.2, hk.1.2⟩⟩)), (upR HO216), (by (with_reducible repeat (first | apply Kd.R_alloc | apply Kd.R_drewN | apply Kd.R_drew)); exact Kd.R_mono HO219.out (fun _ hk => ⟨hk.1.1, ⟨hk.1.2, hk.2⟩⟩)), (upK BK180), (upK BK206), (upK BK237), GW237.out, GE237.out, NB180_237.out, NB237_180.out, NB206_237.out, NB237_206.out, (upB HB)⟩)
                 ·skip
                  rintro ⟨v208, v215, gb237⟩ w80 ⟨h0_, h1_, h2_, h3_, h4_, h5_, h6_, h7_, h8_, h9_, h10_, h11_, h12_⟩
                  have n0_ : Aside0 (Kd.R k32 32 w80 w.heap.size (fun k_ => some k_ ≠ (.slice Ao67 y196.length co67 : Value).ownBlock ∧ some k_ ≠ (v215 : Value).ownBlock) (.slice Ao66 y193.length co66) y193) := ⟨h0_⟩
                  have n1_ : Aside0 (Kd.R k32 32 w80 w.heap.size (fun k_ => some k_ ≠ (.slice Ao66 y193.length co66 : Value).ownBlock ∧ some k_ ≠ (v215 : Value).ownBlock) (.slice Ao67 y196.length co67) y196) := ⟨h1_⟩
                  have n2_ : Aside0 (Kd.R k32 32 w80 w.heap.size (fun k_ => some k_ ≠ (.slice Ao66 y193.length co66 : Value).ownBlock ∧ some k_ ≠ (.slice Ao67 y196.length co67 : Value).ownBlock) v215 y214) := ⟨h2_⟩
                  have n3_ : Aside0 (w80.heap[gb180]? = some (.cells #[.string t173, .string t174, .string t175, .string t176, .bool t177, .int .i64 t178] 26 (0, 0))) := ⟨h3_⟩
                  have n4_ : Aside0 (w80.heap[gb206]? = some (.cells #[.string t199, .string t200, .string t201, .string t202, .bool t203, .int .i64 t204] 26 (0, 0))) := ⟨h4_⟩
                  have n5_ : Aside0 (w80.heap[gb237]? = some (.cells #[.string (⟨#[]⟩ : ByteArray), .string (⟨#[]⟩ : ByteArray), .string (⟨#[]⟩ : ByteArray), .string (⟨#[]⟩ : ByteArray), .bool false, .int .i64 0] 26 (0, 0))) := ⟨h5_⟩
                  have n6_ : Aside0 (w.heap.size ≤ gb237) := ⟨h6_⟩
                  have n7_ : Aside0 (w.heap.size ≤ gb237) := ⟨h7_⟩
                  have n8_ : Aside0 (gb180 ≠ gb237) := ⟨h8_⟩
                  have n9_ : Aside0 (gb237 ≠ gb180) := ⟨h9_⟩
                  have n10_ : Aside0 (gb206 ≠ gb237) := ⟨h10_⟩
                  have n11_ : Aside0 (gb237 ≠ gb206) := ⟨h11_⟩
                  have n12_ : Aside0 (Below w.heap.size w w80) := ⟨h12_⟩
                  clear HO195 HO198 BK180 BK206 HB h0_ h1_ h2_ h3_ h4_ h5_ h6_ h7_ h8_ h9_ h10_ h11_ h12_; have HO195 := n0_; have HO198 := n1_; have HO216 := n2_; have BK180 := n3_; have BK206 := n4_; have BK237 := n5_; have GW237 := n6_; have GE237 := n7_; have NB180_237 := n8_; have NB237_180 := n9_; have NB206_237 := n10_; have NB237_206 := n11_; have HB := n12_; clear n0_ n1_ n2_ n3_ n4_ n5_ n6_ n7_ n8_ n9_ n10_ n11_ n12_; have hHeld := trivial
                  refine norm_ (a' := ?_) ?_ ?_
                  rotate_left
                  ·simp only [putAll, Act.put, List.setIfInBounds_toArray, List.set_cons_zero, List.set_cons_succ]
                   rfl
                  refine one_ (i := 8) (N := some 106) #[true, true, true, true, true, true, true, true, true, false, true, true, true, false, false, false, false, false, true, false, false] rfl rfl (one_of HT_.out (by kernel_rfl)) (by decide) (fun K hK => ?_)
                  refine Kd.R_lit_step k32 _ 32 ?hg (N := 106) ?hd (xs := ([(⟨a1, a2, false⟩ : S32)] : List (S32))) (inner := [.string a1, .string a2, .bool false]) (ok := fun _ => True) (okp := fun _ => True) ?hr ?hp (fun _ hk => hk) trivial (Below.refl _ _) (Nat.le_refl _) (by simp) ?_; (case hd => rfl); (case hg => rfl); (case hr => first | (go_simp; done) | (go_simp; rfl)); (case hp => exact (Reps.c3 (show Kd.M k32 _ _ _ (⟨a1, a2, false⟩ : S32) [.string a1, .string a2, .bool false] from (k32_mkM _ _ _ (⟨a1, a2, false⟩ : S32) )) (Reps.none _ _)))
                  intro v218 w81 ho82 hb hg_ hnew_
                  clear hg_ hnew_
                  (first | rw [← Ny217.out] at ho82 | (simp only [Int.reduceToNat] at ho82; rw [← Ny217.out] at ho82))
                  have n0_ := Aside0.mk (Kd.R_elder' (upR HO195) (Kd.R_base ho82) hb)
                  have n1_ := Aside0.mk (Kd.R_elder' (upR HO198) (Kd.R_base ho82) hb)
                  have n2_ := Aside0.mk (Kd.R_elder' (upR HO216) (Kd.R_base ho82) hb)
                  have n3_ := Aside0.mk (Kd.R_lower (Kd.R_new' (Kd.R_new' (Kd.R_new' ho82 (Kd.R_lt (upR HO195))) (Kd.R_lt (upR HO198))) (Kd.R_lt (upR HO216))) (below_size (upB HB)))
                  have n4_ := Aside0.mk (blk_below (g := gb180) (o := .cells #[.string t173, .string t174, .string t175, .string t176, .bool t177, .int .i64 t178] 26 (0, 0)) (upK BK180) hb)
                  have n5_ := Aside0.mk (blk_below (g := gb206) (o := .cells #[.string t199, .string t200, .string t201, .string t202, .bool t203, .int .i64 t204] 26 (0, 0)) (upK BK206) hb)
                  have n6_ := Aside0.mk (blk_below (g := gb237) (o := .cells #[.string (⟨#[]⟩ : ByteArray), .string (⟨#[]⟩ : ByteArray), .string (⟨#[]⟩ : ByteArray), .string (⟨#[]⟩ : ByteArray), .bool false, .int .i64 0] 26 (0, 0)) (upK BK237) hb)
                  have n7_ := Aside0.mk (below_step (upB HB) hb)
                  clear HO195 HO198 HO216 BK180 BK206 BK237 HB; have HO195 := n0_; have HO198 := n1_; have HO216 := n2_; have HO219 := n3_; have BK180 := n4_; have BK206 := n5_; have BK237 := n6_; have HB := n7_; clear n0_ n1_ n2_ n3_ n4_ n5_ n6_ n7_ hb ho82
                  refine hK.out _ _ trivial (fun hHeld => ?_)
                  clear hK K
                  refine norm_ (a' := ?_) ?_ ?_
                  rotate_left
                  ·show Act.put _ (some 106) _ = _
                   simp only [Act.put, List.setIfInBounds_toArray, List.set_cons_zero, List.set_cons_succ, i64_w, i32_w]
                   rfl
                  exact norm_ (by first | (simp only [putAll, Act.put, List.setIfInBounds_toArray, List.set_cons_zero, List.set_cons_succ]; done) | (simp only [putAll, Act.put, List.setIfInBounds_toArray, List.set_cons_zero, List.set_cons_succ]; rfl)) (hJ0_4_8_18 (v208, v215, v218, gb237) _ ⟨(by (with_reducible repeat (first | apply Kd.R_alloc | apply Kd.R_drewN | apply Kd.R_drew)); exact Kd.R_mono HO195.out (fun _ hk => ⟨hk.1.1, ⟨hk.1.2, hk.2⟩⟩)), (by (with_reducible repeat (first | apply Kd.R_alloc | apply Kd.R_drewN | apply Kd.R_drew)); exact Kd.R_mono HO198.out (fun _ hk => ⟨hk.1.1, ⟨hk.1.2, hk.2⟩⟩)), (by (with_reducible repeat (first | apply Kd.R_alloc | apply Kd.R_drewN | apply Kd.R_drew)); exact Kd.R_mono HO216.out (fun _ hk => ⟨hk.1.1, ⟨hk.1.2, hk.2⟩⟩)), (by (with_reducible repeat (first | apply Kd.R_alloc | apply Kd.R_drewN | apply Kd.R_drew)); exact Kd.R_mono HO219.out (fun _ hk => ⟨hk.1.1.2, ⟨hk.1.2, hk.2⟩⟩)), (upK BK180), (upK BK206), (upK BK237), GW237.out, GE237.out, NB180_237.out, NB237_180.out, NB206_237.out, NB237_206.out, (upB HB)⟩)
                ·skip
                 rintro ⟨v208, v215, v218⟩ w81 ⟨h0_, h1_, h2_, h3_, h4_, h5_, h6_⟩
                 have n0_ : Aside0 (Kd.R k32 32 w81 w.heap.size (fun k_ => some k_ ≠ (.slice Ao67 y196.length co67 : Value).ownBlock ∧ some k_ ≠ (v215 : Value).ownBlock ∧ some k_ ≠ (v218 : Value).ownBlock) (.slice Ao66 y193.length co66) y193) := ⟨h0_⟩
                 have n1_ : Aside0 (Kd.R k32 32 w81 w.heap.size (fun k_ => some k_ ≠ (.slice Ao66 y193.length co66 : Value).ownBlock ∧ some k_ ≠ (v215 : Value).ownBlock ∧ some k_ ≠ (v218 : Value).ownBlock) (.slice Ao67 y196.length co67) y196) := ⟨h1_⟩
                 have n2_ : Aside0 (Kd.R k32 32 w81 w.heap.size (fun k_ => some k_ ≠ (.slice Ao66 y193.length co66 : Value).ownBlock ∧ some k_ ≠ (.slice Ao67 y196.length co67 : Value).ownBlock ∧ some k_ ≠ (v218 : Value).ownBlock) v215 y214) := ⟨h2_⟩
                 have n3_ : Aside0 (Kd.R k32 32 w81 w.heap.size (fun k_ => some k_ ≠ (.slice Ao66 y193.length co66 : Value).ownBlock ∧ some k_ ≠ (.slice Ao67 y196.length co67 : Value).ownBlock ∧ some k_ ≠ (v215 : Value).ownBlock) v218 y217) := ⟨h3_⟩
                 have n4_ : Aside0 (w81.heap[gb180]? = some (.cells #[.string t173, .string t174, .string t175, .string t176, .bool t177, .int .i64 t178] 26 (0, 0))) := ⟨h4_⟩
                 have n5_ : Aside0 (w81.heap[gb206]? = some (.cells #[.string t199, .string t200, .string t201, .string t202, .bool t203, .int .i64 t204] 26 (0, 0))) := ⟨h5_⟩
                 have n6_ : Aside0 (Below w.heap.size w w81) := ⟨h6_⟩
                 clear HO195 HO198 BK180 BK206 HB h0_ h1_ h2_ h3_ h4_ h5_ h6_; have HO195 := n0_; have HO198 := n1_; have HO216 := n2_; have HO219 := n3_; have BK180 := n4_; have BK206 := n5_; have HB := n6_; clear n0_ n1_ n2_ n3_ n4_ n5_ n6_; have hHeld := trivial
                 obtain ⟨Ao83, co83, eo83⟩ := Kd.R_slice HO219.out
                 (first | subst eo83 | (injection eo83 with f1_ f2_ f3_; have f4_ := f1_.symm; have f5_ := f3_.symm; clear f1_ f2_ f3_; subst f4_; subst f5_))
                 refine norm_ (a' := ?_) ?_ ?_
                 rotate_left
                 ·simp only [putAll, Act.put, List.setIfInBounds_toArray, List.set_cons_zero, List.set_cons_succ]
                  rfl
                 refine two_ (i := 9) (j := 18) (Ni := some 107) (Nj := some 12) #[true, true, true, true, true, true, true, true, true, true, true, true, true, false, false, false, false, false, false, false, false] #[true, true, true, true, true, true, true, true, true, false, true, true, true, false, false, false, false, false, true, false, false] rfl rfl rfl rfl (two_of HT_.out (by kernel_rfl)) (by decide) (by decide) (fun K hK => ?_) (fun K hK => ?_)
                 ·skip
                  refine Kd.R_append_rows_step k32 (w0 := w) w.heap.size (by rfl) (.tmp 102) (.tmp 106) 22 32 (.agg #[(.string ⟨#[]⟩), (.string ⟨#[]⟩), (.bool false)]) 40 rfl Tryd.underlying22 info32 rfl (by decide) (by omega) v215 y214 y217 _ _ _ (fun k_ => some k_ ≠ (.slice Ao66 y193.length co66 : Value).ownBlock ∧ some k_ ≠ (.slice Ao67 y196.length co67 : Value).ownBlock ∧ some k_ ≠ (.slice Ao83 y217.length co83 : Value).ownBlock) (fun _ => False) rfl rfl ?aO ?aR (fun _ _ h => h) (fun _ h => h.elim) ?aF ?aB ?aS ?aL ?_
                  (case aR => repeat (first | exact (Kd.R_reads' HO219.out).2.2 | (with_reducible refine Kd.C_alloc ?_ _) | (with_reducible refine Kd.C_drewN ?_ _) | (with_reducible refine Kd.C_drew ?_)))
                  (case aB => exact (upB HB))
                  (case aF => exact (fun k_ hk => ⟨Kd.fresh' (Kd.R_lt (upR HO195)) k_ hk, Kd.fresh' (Kd.R_lt (upR HO198)) k_ hk, Kd.fresh' (Kd.R_lt (upR HO219)) k_ hk⟩))
                  (case aO => exact (upR HO216))
                  (case aS => exact (below_size (upB HB)))
                  (case aL => have := LMc52.out; omega)
                  intro v221 w82 ho hb hg hat
                  rw [← Ny220.out] at ho
                  have n0_ := Aside0.mk (blk_grown (g := gb180) (o := .cells #[.string t173, .string t174, .string t175, .string t176, .bool t177, .int .i64 t178] 26 (0, 0)) (upK BK180) hg (Kd.R_ne HO216.out BK180.out (by decide)))
                  have n1_ := Aside0.mk (Kd.R_after (ok := (fun k_ => some k_ ≠ (.slice Ao67 y196.length co67 : Value).ownBlock ∧ some k_ ≠ (.slice Ao83 y217.length co83 : Value).ownBlock)) (by (with_reducible repeat (first | apply Kd.R_alloc | apply Kd.R_drewN | apply Kd.R_drew)); exact Kd.R_mono HO195.out (fun _ hk => ⟨⟨hk.1, hk.2.2⟩, hk.2.1⟩)) hg hat)
                  have n2_ := Aside0.mk (Kd.R_after (ok := (fun k_ => some k_ ≠ (.slice Ao66 y193.length co66 : Value).ownBlock ∧ some k_ ≠ (.slice Ao83 y217.length co83 : Value).ownBlock)) (by (with_reducible repeat (first | apply Kd.R_alloc | apply Kd.R_drewN | apply Kd.R_drew)); exact Kd.R_mono HO198.out (fun _ hk => ⟨⟨hk.1, hk.2.2⟩, hk.2.1⟩)) hg hat)
                  have n3_ := Aside0.mk (blk_grown (g := gb206) (o := .cells #[.string t199, .string t200, .string t201, .string t202, .bool t203, .int .i64 t204] 26 (0, 0)) (upK BK206) hg (Kd.R_ne HO216.out BK206.out (by decide)))
                  have n4_ := Aside0.mk (Kd.R_after (ok := (fun k_ => some k_ ≠ (.slice Ao66 y193.length co66 : Value).ownBlock ∧ some k_ ≠ (.slice Ao67 y196.length co67 : Value).ownBlock)) (by (with_reducible repeat (first | apply Kd.R_alloc | apply Kd.R_drewN | apply Kd.R_drew)); exact Kd.R_mono HO219.out (fun _ hk => ⟨⟨hk.1, hk.2.1⟩, hk.2.2⟩)) hg hat)
                  have n5_ := Aside0.mk (hb)
                  have n6_ := Aside0.mk (ho)
                  clear BK180 HO195 HO198 BK206 HO219 HB HO216; have BK180 := n0_; have HO195 := n1_; have HO198 := n2_; have BK206 := n3_; have HO219 := n4_; have HB := n5_; have HO222 := n6_; clear n0_ n1_ n2_ n3_ n4_ n5_ n6_ ho hb hg hat
                  refine hK.out _ _ trivial (fun hHeld => ?_)
                  clear hK K
                  refine norm_ (a' := ?_) ?_ ?_
                  rotate_left
                  ·show Act.put _ (some 107) _ = _
                   simp only [Act.put, List.setIfInBounds_toArray, List.set_cons_zero, List.set_cons_succ, i64_w, i32_w]
                   rfl
                  exact norm_ (by first | (simp only [putAll, Act.put, List.setIfInBounds_toArray, List.set_cons_zero, List.set_cons_succ]; done) | (simp only [putAll, Act.put, List.setIfInBounds_toArray, List.set_cons_zero, List.set_cons_succ]; rfl)) (hJ0_4_8_9 (v208, v215, .slice Ao83 y217.length co83, v221) _ ⟨(by (with_reducible repeat (first | apply Kd.R_alloc | apply Kd.R_drewN | apply Kd.R_drew)); exact Kd.R_mono HO195.out (fun _ hk => ⟨hk.1.1, ⟨hk.1.2, hk.2⟩⟩)), (by (with_reducible repeat (first | apply Kd.R_alloc | apply Kd.R_drewN | apply Kd.R_drew)); exact Kd.R_mono HO198.out (fun _ hk => ⟨hk.1.1, ⟨hk.1.2, hk.2⟩⟩)), (by (with_reducible repeat (first | apply Kd.R_alloc | apply Kd.R_drewN | apply Kd.R_drew)); exact Kd.R_mono HO219.out (fun _ hk => ⟨hk.1.1, ⟨hk.1.2, hk.2⟩⟩)), (upR HO222), (upK BK180), (upK BK206), (upB HB)⟩)
                 ·skip
                  refine box_step ?hg (N := 12) ?hd (cs := #[.string (⟨#[]⟩ : ByteArray), .string (⟨#[]⟩ : ByteArray), .string (⟨#[]⟩ : ByteArray), .string (⟨#[]⟩ : ByteArray), .bool false, .int .i64 0]) (t := 26) ?hr ?_; (case hd => rfl); (case hg => rfl); (case hr => first | (go_simp; done) | (go_simp; rfl))
                  intro gb237 hg w82 hbox hb
                  have n0_ := Aside0.mk (Kd.R_below (upR HO195) hb)
                  have n1_ := Aside0.mk (Kd.R_below (upR HO198) hb)
                  have n2_ := Aside0.mk (Kd.R_below (upR HO216) hb)
                  have n3_ := Aside0.mk (Kd.R_below (upR HO219) hb)
                  have n4_ := Aside0.mk (blk_below (g := gb180) (o := .cells #[.string t173, .string t174, .string t175, .string t176, .bool t177, .int .i64 t178] 26 (0, 0)) (upK BK180) hb)
                  have n5_ := Aside0.mk (blk_below (g := gb206) (o := .cells #[.string t199, .string t200, .string t201, .string t202, .bool t203, .int .i64 t204] 26 (0, 0)) (upK BK206) hb)
                  have n6_ := Aside0.mk (below_step (upB HB) hb)
                  have n7_ := Aside0.mk (hbox)
                  have n8_ := Aside0.mk ((by rw [hg]; exact (below_size (upB HB)) : w.heap.size ≤ gb237))
                  have n9_ := Aside0.mk ((by rw [hg]; exact (below_size (upB HB)) : w.heap.size ≤ gb237))
                  have n10_ := Aside0.mk ((by rw [hg]; exact Nat.ne_of_lt (blk_lt (g := gb180) (o := .cells #[.string t173, .string t174, .string t175, .string t176, .bool t177, .int .i64 t178] 26 (0, 0)) (upK BK180)) : gb180 ≠ gb237))
                  have n11_ := Aside0.mk ((by rw [hg]; exact Nat.ne_of_gt (blk_lt (g := gb180) (o := .cells #[.string t173, .string t174, .string t175, .string t176, .bool t177, .int .i64 t178] 26 (0, 0)) (upK BK180)) : gb237 ≠ gb180))
                  have n12_ := Aside0.mk ((by rw [hg]; exact Nat.ne_of_lt (blk_lt (g := gb206) (o := .cells #[.string t199, .string t200, .string t201, .string t202, .bool t203, .int .i64 t204] 26 (0, 0)) (upK BK206)) : gb206 ≠ gb237))
                  have n13_ := Aside0.mk ((by rw [hg]; exact Nat.ne_of_gt (blk_lt (g := gb206) (o := .cells #[.string t199, .string t200, .string t201, .string t202, .bool t203, .int .i64 t204] 26 (0, 0)) (upK BK206)) : gb237 ≠ gb206))
                  clear HO195 HO198 HO216 HO219 BK180 BK206 HB; have HO195 := n0_; have HO198 := n1_; have HO216 := n2_; have HO219 := n3_; have BK180 := n4_; have BK206 := n5_; have HB := n6_; have BK237 := n7_; have GW237 := n8_; have GE237 := n9_; have NB180_237 := n10_; have NB237_180 := n11_; have NB206_237 := n12_; have NB237_206 := n13_; clear n0_ n1_ n2_ n3_ n4_ n5_ n6_ n7_ n8_ n9_ n10_ n11_ n12_ n13_ hb hbox hg
                  refine hK.out _ _ trivial (fun hHeld => ?_)
                  clear hK K
                  refine norm_ (a' := ?_) ?_ ?_
                  rotate_left
                  ·show Act.put _ (some 12) _ = _
                   simp only [Act.put, List.setIfInBounds_toArray, List.set_cons_zero, List.set_cons_succ, i64_w, i32_w]
                   rfl
                  exact norm_ (by first | (simp only [putAll, Act.put, List.setIfInBounds_toArray, List.set_cons_zero, List.set_cons_succ]; done) | (simp only [putAll, Act.put, List.setIfInBounds_toArray, List.set_cons_zero, List.set_cons_succ]; rfl)) (hJ0_4_8_18 (v208, v215, _, gb237) _ ⟨(upR HO195), (upR HO198), (upR HO216), (upR HO219), (upK BK180), (upK BK206), (upK BK237), GW237.out, GE237.out, NB180_237.out, NB237_180.out, NB206_237.out, NB237_206.out, (upB HB)⟩)
               ·skip
                rintro ⟨v208, v215, v218, gb237⟩ w82 ⟨h0_, h1_, h2_, h3_, h4_, h5_, h6_, h7_, h8_, h9_, h10_, h11_, h12_, h13_⟩
                have n0_ : Aside0 (Kd.R k32 32 w82 w.heap.size (fun k_ => some k_ ≠ (.slice Ao67 y196.length co67 : Value).ownBlock ∧ some k_ ≠ (v215 : Value).ownBlock ∧ some k_ ≠ (v218 : Value).ownBlock) (.slice Ao66 y193.length co66) y193) := ⟨h0_⟩
                have n1_ : Aside0 (Kd.R k32 32 w82 w.heap.size (fun k_ => some k_ ≠ (.slice Ao66 y193.length co66 : Value).ownBlock ∧ some k_ ≠ (v215 : Value).ownBlock ∧ some k_ ≠ (v218 : Value).ownBlock) (.slice Ao67 y196.length co67) y196) := ⟨h1_⟩
                have n2_ : Aside0 (Kd.R k32 32 w82 w.heap.size (fun k_ => some k_ ≠ (.slice Ao66 y193.length co66 : Value).ownBlock ∧ some k_ ≠ (.slice Ao67 y196.length co67 : Value).ownBlock ∧ some k_ ≠ (v218 : Value).ownBlock) v215 y214) := ⟨h2_⟩
                have n3_ : Aside0 (Kd.R k32 32 w82 w.heap.size (fun k_ => some k_ ≠ (.slice Ao66 y193.length co66 : Value).ownBlock ∧ some k_ ≠ (.slice Ao67 y196.length co67 : Value).ownBlock ∧ some k_ ≠ (v215 : Value).ownBlock) v218 y217) := ⟨h3_⟩
                have n4_ : Aside0 (w82.heap[gb180]? = some (.cells #[.string t173, .string t174, .string t175, .string t176, .bool t177, .int .i64 t178] 26 (0, 0))) := ⟨h4_⟩
                have n5_ : Aside0 (w82.heap[gb206]? = some (.cells #[.string t199, .string t200, .string t201, .string t202, .bool t203, .int .i64 t204] 26 (0, 0))) := ⟨h5_⟩
                have n6_ : Aside0 (w82.heap[gb237]? = some (.cells #[.string (⟨#[]⟩ : ByteArray), .string (⟨#[]⟩ : ByteArray), .string (⟨#[]⟩ : ByteArray), .string (⟨#[]⟩ : ByteArray), .bool false, .int .i64 0] 26 (0, 0))) := ⟨h6_⟩
                have n7_ : Aside0 (w.heap.size ≤ gb237) := ⟨h7_⟩
                have n8_ : Aside0 (w.heap.size ≤ gb237) := ⟨h8_⟩
                have n9_ : Aside0 (gb180 ≠ gb237) := ⟨h9_⟩
                have n10_ : Aside0 (gb237 ≠ gb180) := ⟨h10_⟩
                have n11_ : Aside0 (gb206 ≠ gb237) := ⟨h11_⟩
                have n12_ : Aside0 (gb237 ≠ gb206) := ⟨h12_⟩
                have n13_ : Aside0 (Below w.heap.size w w82) := ⟨h13_⟩
                clear HO195 HO198 BK180 BK206 HB h0_ h1_ h2_ h3_ h4_ h5_ h6_ h7_ h8_ h9_ h10_ h11_ h12_ h13_; have HO195 := n0_; have HO198 := n1_; have HO216 := n2_; have HO219 := n3_; have BK180 := n4_; have BK206 := n5_; have BK237 := n6_; have GW237 := n7_; have GE237 := n8_; have NB180_237 := n9_; have NB237_180 := n10_; have NB206_237 := n11_; have NB237_206 := n12_; have HB := n13_; clear n0_ n1_ n2_ n3_ n4_ n5_ n6_ n7_ n8_ n9_ n10_ n11_ n12_ n13_; have hHeld := trivial
                obtain ⟨Ao84, co84, eo84⟩ := Kd.R_slice HO219.out
                (first | subst eo84 | (injection eo84 with f1_ f2_ f3_; have f4_ := f1_.symm; have f5_ := f3_.symm; clear f1_ f2_ f3_; subst f4_; subst f5_))
                refine norm_ (a' := ?_) ?_ ?_
                rotate_left
                ·simp only [putAll, Act.put, List.setIfInBounds_toArray, List.set_cons_zero, List.set_cons_succ]
                 rfl
                refine one_ (i := 9) (N := some 107) #[true, true, true, true, true, true, true, true, true, true, true, true, true, false, false, false, false, false, true, false, false] rfl rfl (one_of HT_.out (by kernel_rfl)) (by decide) (fun K hK => ?_)
                refine Kd.R_append_rows_step k32 (w0 := w) w.heap.size (by rfl) (.tmp 102) (.tmp 106) 22 32 (.agg #[(.string ⟨#[]⟩), (.string ⟨#[]⟩), (.bool false)]) 40 rfl Tryd.underlying22 info32 rfl (by decide) (by omega) v215 y214 y217 _ _ _ (fun k_ => some k_ ≠ (.slice Ao66 y193.length co66 : Value).ownBlock ∧ some k_ ≠ (.slice Ao67 y196.length co67 : Value).ownBlock ∧ some k_ ≠ (.slice Ao84 y217.length co84 : Value).ownBlock) (fun _ => False) rfl rfl ?aO ?aR (fun _ _ h => h) (fun _ h => h.elim) ?aF ?aB ?aS ?aL ?_
                (case aR => repeat (first | exact (Kd.R_reads' HO219.out).2.2 | (with_reducible refine Kd.C_alloc ?_ _) | (with_reducible refine Kd.C_drewN ?_ _) | (with_reducible refine Kd.C_drew ?_)))
                (case aB => exact (upB HB))
                (case aF => exact (fun k_ hk => ⟨Kd.fresh' (Kd.R_lt (upR HO195)) k_ hk, Kd.fresh' (Kd.R_lt (upR HO198)) k_ hk, Kd.fresh' (Kd.R_lt (upR HO219)) k_ hk⟩))
                (case aO => exact (upR HO216))
                (case aS => exact (below_size (upB HB)))
                (case aL => have := LMc52.out; omega)
                intro v221 w83 ho hb hg hat
                rw [← Ny220.out] at ho
                have n0_ := Aside0.mk (blk_grown (g := gb180) (o := .cells #[.string t173, .string t174, .string t175, .string t176, .bool t177, .int .i64 t178] 26 (0, 0)) (upK BK180) hg (Kd.R_ne HO216.out BK180.out (by decide)))
                have n1_ := Aside0.mk (Kd.R_after (ok := (fun k_ => some k_ ≠ (.slice Ao67 y196.length co67 : Value).ownBlock ∧ some k_ ≠ (.slice Ao84 y217.length co84 : Value).ownBlock)) (by (with_reducible repeat (first | apply Kd.R_alloc | apply Kd.R_drewN | apply Kd.R_drew)); exact Kd.R_mono HO195.out (fun _ hk => ⟨⟨hk.1, hk.2.2⟩, hk.2.1⟩)) hg hat)
                have n2_ := Aside0.mk (Kd.R_after (ok := (fun k_ => some k_ ≠ (.slice Ao66 y193.length co66 : Value).ownBlock ∧ some k_ ≠ (.slice Ao84 y217.length co84 : Value).ownBlock)) (by (with_reducible repeat (first | apply Kd.R_alloc | apply Kd.R_drewN | apply Kd.R_drew)); exact Kd.R_mono HO198.out (fun _ hk => ⟨⟨hk.1, hk.2.2⟩, hk.2.1⟩)) hg hat)
                have n3_ := Aside0.mk (blk_grown (g := gb206) (o := .cells #[.string t199, .string t200, .string t201, .string t202, .bool t203, .int .i64 t204] 26 (0, 0)) (upK BK206) hg (Kd.R_ne HO216.out BK206.out (by decide)))
                have n4_ := Aside0.mk (Kd.R_after (ok := (fun k_ => some k_ ≠ (.slice Ao66 y193.length co66 : Value).ownBlock ∧ some k_ ≠ (.slice Ao67 y196.length co67 : Value).ownBlock)) (by (with_reducible repeat (first | apply Kd.R_alloc | apply Kd.R_drewN | apply Kd.R_drew)); exact Kd.R_mono HO219.out (fun _ hk => ⟨⟨hk.1, hk.2.1⟩, hk.2.2⟩)) hg hat)
                have n5_ := Aside0.mk (blk_grown (g := gb237) (o := .cells #[.string (⟨#[]⟩ : ByteArray), .string (⟨#[]⟩ : ByteArray), .string (⟨#[]⟩ : ByteArray), .string (⟨#[]⟩ : ByteArray), .bool false, .int .i64 0] 26 (0, 0)) (upK BK237) hg (Kd.R_ne HO216.out BK237.out (by decide)))
                have n6_ := Aside0.mk (hb)
                have n7_ := Aside0.mk (ho)
                clear BK180 HO195 HO198 BK206 HO219 BK237 HB HO216; have BK180 := n0_; have HO195 := n1_; have HO198 := n2_; have BK206 := n3_; have HO219 := n4_; have BK237 := n5_; have HB := n6_; have HO222 := n7_; clear n0_ n1_ n2_ n3_ n4_ n5_ n6_ n7_ ho hb hg hat
                refine hK.out _ _ trivial (fun hHeld => ?_)
                clear hK K
                refine norm_ (a' := ?_) ?_ ?_
                rotate_left
                ·show Act.put _ (some 107) _ = _
                 simp only [Act.put, List.setIfInBounds_toArray, List.set_cons_zero, List.set_cons_succ, i64_w, i32_w]
                 rfl
                exact norm_ (by first | (simp only [putAll, Act.put, List.setIfInBounds_toArray, List.set_cons_zero, List.set_cons_succ]; done) | (simp only [putAll, Act.put, List.setIfInBounds_toArray, List.set_cons_zero, List.set_cons_succ]; rfl)) (hJ0_4_8_9_18 (v208, v215, .slice Ao84 y217.length co84, v221, gb237) _ ⟨(by (with_reducible repeat (first | apply Kd.R_alloc | apply Kd.R_drewN | apply Kd.R_drew)); exact Kd.R_mono HO195.out (fun _ hk => ⟨hk.1.1, ⟨hk.1.2, hk.2⟩⟩)), (by (with_reducible repeat (first | apply Kd.R_alloc | apply Kd.R_drewN | apply Kd.R_drew)); exact Kd.R_mono HO198.out (fun _ hk => ⟨hk.1.1, ⟨hk.1.2, hk.2⟩⟩)), (by (with_reducible repeat (first | apply Kd.R_alloc | apply Kd.R_drewN | apply Kd.R_drew)); exact Kd.R_mono HO219.out (fun _ hk => ⟨hk.1.1, ⟨hk.1.2, hk.2⟩⟩)), (upR HO222), (upK BK180), (upK BK206), (upK BK237), GW237.out, GE237.out, NB180_237.out, NB237_180.out, NB206_237.out, NB237_206.out, (upB HB)⟩)
              ·skip
               rintro ⟨v208, v215, v218, v221⟩ w83 ⟨h0_, h1_, h2_, h3_, h4_, h5_, h6_⟩
               have n0_ : Aside0 (Kd.R k32 32 w83 w.heap.size (fun k_ => some k_ ≠ (.slice Ao67 y196.length co67 : Value).ownBlock ∧ some k_ ≠ (v218 : Value).ownBlock ∧ some k_ ≠ (v221 : Value).ownBlock) (.slice Ao66 y193.length co66) y193) := ⟨h0_⟩
               have n1_ : Aside0 (Kd.R k32 32 w83 w.heap.size (fun k_ => some k_ ≠ (.slice Ao66 y193.length co66 : Value).ownBlock ∧ some k_ ≠ (v218 : Value).ownBlock ∧ some k_ ≠ (v221 : Value).ownBlock) (.slice Ao67 y196.length co67) y196) := ⟨h1_⟩
               have n2_ : Aside0 (Kd.R k32 32 w83 w.heap.size (fun k_ => some k_ ≠ (.slice Ao66 y193.length co66 : Value).ownBlock ∧ some k_ ≠ (.slice Ao67 y196.length co67 : Value).ownBlock ∧ some k_ ≠ (v221 : Value).ownBlock) v218 y217) := ⟨h2_⟩
               have n3_ : Aside0 (Kd.R k32 32 w83 w.heap.size (fun k_ => some k_ ≠ (.slice Ao66 y193.length co66 : Value).ownBlock ∧ some k_ ≠ (.slice Ao67 y196.length co67 : Value).ownBlock ∧ some k_ ≠ (v218 : Value).ownBlock) v221 y220) := ⟨h3_⟩
               have n4_ : Aside0 (w83.heap[gb180]? = some (.cells #[.string t173, .string t174, .string t175, .string t176, .bool t177, .int .i64 t178] 26 (0, 0))) := ⟨h4_⟩
               have n5_ : Aside0 (w83.heap[gb206]? = some (.cells #[.string t199, .string t200, .string t201, .string t202, .bool t203, .int .i64 t204] 26 (0, 0))) := ⟨h5_⟩
               have n6_ : Aside0 (Below w.heap.size w w83) := ⟨h6_⟩
               clear HO195 HO198 BK180 BK206 HB h0_ h1_ h2_ h3_ h4_ h5_ h6_; have HO195 := n0_; have HO198 := n1_; have HO219 := n2_; have HO222 := n3_; have BK180 := n4_; have BK206 := n5_; have HB := n6_; clear n0_ n1_ n2_ n3_ n4_ n5_ n6_; have hHeld := trivial
               refine norm_ (a' := ?_) ?_ ?_
               rotate_left
               ·simp only [putAll, Act.put, List.setIfInBounds_toArray, List.set_cons_zero, List.set_cons_succ]
                rfl
               refine two_ (i := 13) (j := 18) (Ni := some 111) (Nj := some 12) #[true, true, true, true, true, true, true, true, true, true, true, true, true, true, false, false, false, false, false, false, false] #[true, true, true, true, true, true, true, true, true, true, true, true, true, false, false, false, false, false, true, false, false] rfl rfl rfl rfl (two_of HT_.out (by kernel_rfl)) (by decide) (by decide) (fun K hK => ?_) (fun K hK => ?_)
               ·skip
                refine Kd.R_append_rows_step k32 (w0 := w) w.heap.size (by rfl) (.tmp 107) (.tmp 110) 22 32 (.agg #[(.string ⟨#[]⟩), (.string ⟨#[]⟩), (.bool false)]) 40 rfl Tryd.underlying22 info32 rfl (by decide) (by omega) v221 y220 y223 _ _ _ (fun k_ => some k_ ≠ (.slice Ao66 y193.length co66 : Value).ownBlock ∧ some k_ ≠ (.slice Ao67 y196.length co67 : Value).ownBlock ∧ some k_ ≠ (v218 : Value).ownBlock) (fun _ => False) rfl rfl ?aO ?aR (fun _ _ h => h) (fun _ h => h.elim) ?aF ?aB ?aS ?aL ?_
                (case aR => repeat (first | exact (Kd.C_below HR226.out HB.out) | (with_reducible refine Kd.C_alloc ?_ _) | (with_reducible refine Kd.C_drewN ?_ _) | (with_reducible refine Kd.C_drew ?_)))
                (case aB => exact (upB HB))
                (case aF => exact (fun k_ hk => ⟨Kd.fresh' (Kd.R_lt (upR HO195)) k_ hk, Kd.fresh' (Kd.R_lt (upR HO198)) k_ hk, Kd.fresh' (Kd.R_lt (upR HO219)) k_ hk⟩))
                (case aO => exact (upR HO222))
                (case aS => exact (below_size (upB HB)))
                (case aL => have := LMc55.out; omega)
                intro v228 w84 ho hb hg hat
                rw [← Ny227.out] at ho
                have n0_ := Aside0.mk (blk_grown (g := gb180) (o := .cells #[.string t173, .string t174, .string t175, .string t176, .bool t177, .int .i64 t178] 26 (0, 0)) (upK BK180) hg (Kd.R_ne HO222.out BK180.out (by decide)))
                have n1_ := Aside0.mk (Kd.R_after (ok := (fun k_ => some k_ ≠ (.slice Ao67 y196.length co67 : Value).ownBlock ∧ some k_ ≠ (v218 : Value).ownBlock)) (by (with_reducible repeat (first | apply Kd.R_alloc | apply Kd.R_drewN | apply Kd.R_drew)); exact Kd.R_mono HO195.out (fun _ hk => ⟨⟨hk.1, hk.2.1⟩, hk.2.2⟩)) hg hat)
                have n2_ := Aside0.mk (Kd.R_after (ok := (fun k_ => some k_ ≠ (.slice Ao66 y193.length co66 : Value).ownBlock ∧ some k_ ≠ (v218 : Value).ownBlock)) (by (with_reducible repeat (first | apply Kd.R_alloc | apply Kd.R_drewN | apply Kd.R_drew)); exact Kd.R_mono HO198.out (fun _ hk => ⟨⟨hk.1, hk.2.1⟩, hk.2.2⟩)) hg hat)
                have n3_ := Aside0.mk (blk_grown (g := gb206) (o := .cells #[.string t199, .string t200, .string t201, .string t202, .bool t203, .int .i64 t204] 26 (0, 0)) (upK BK206) hg (Kd.R_ne HO222.out BK206.out (by decide)))
                have n4_ := Aside0.mk (Kd.R_after (ok := (fun k_ => some k_ ≠ (.slice Ao66 y193.length co66 : Value).ownBlock ∧ some k_ ≠ (.slice Ao67 y196.length co67 : Value).ownBlock)) (by (with_reducible repeat (first | apply Kd.R_alloc | apply Kd.R_drewN | apply Kd.R_drew)); exact Kd.R_mono HO219.out (fun _ hk => ⟨⟨hk.1, hk.2.1⟩, hk.2.2⟩)) hg hat)
                have n5_ := Aside0.mk (hb)
                have n6_ := Aside0.mk (ho)
                clear BK180 HO195 HO198 BK206 HO219 HB HO222; have BK180 := n0_; have HO195 := n1_; have HO198 := n2_; have BK206 := n3_; have HO219 := n4_; have HB := n5_; have HO229 := n6_; clear n0_ n1_ n2_ n3_ n4_ n5_ n6_ ho hb hg hat
                refine hK.out _ _ trivial (fun hHeld => ?_)
                clear hK K
                refine norm_ (a' := ?_) ?_ ?_
                rotate_left
                ·show Act.put _ (some 111) _ = _
                 simp only [Act.put, List.setIfInBounds_toArray, List.set_cons_zero, List.set_cons_succ, i64_w, i32_w]
                 rfl
                exact norm_ (by first | (simp only [putAll, Act.put, List.setIfInBounds_toArray, List.set_cons_zero, List.set_cons_succ]; done) | (simp only [putAll, Act.put, List.setIfInBounds_toArray, List.set_cons_zero, List.set_cons_succ]; rfl)) (hJ0_4_8_9_13 (v208, v215, v218, v221, v228) _ ⟨(by (with_reducible repeat (first | apply Kd.R_alloc | apply Kd.R_drewN | apply Kd.R_drew)); exact Kd.R_mono HO195.out (fun _ hk => ⟨hk.1.1, ⟨hk.1.2, hk.2⟩⟩)), (by (with_reducible repeat (first | apply Kd.R_alloc | apply Kd.R_drewN | apply Kd.R_drew)); exact Kd.R_mono HO198.out (fun _ hk => ⟨hk.1.1, ⟨hk.1.2, hk.2⟩⟩)), (by (with_reducible repeat (first | apply Kd.R_alloc | apply Kd.R_drewN | apply Kd.R_drew)); exact Kd.R_mono HO219.out (fun _ hk => ⟨hk.1.1, ⟨hk.1.2, hk.2⟩⟩)), (upR HO229), (upK BK180), (upK BK206), (upB HB)⟩)
               ·skip
                refine box_step ?hg (N := 12) ?hd (cs := #[.string (⟨#[]⟩ : ByteArray), .string (⟨#[]⟩ : ByteArray), .string (⟨#[]⟩ : ByteArray), .string (⟨#[]⟩ : ByteArray), .bool false, .int .i64 0]) (t := 26) ?hr ?_; (case hd => rfl); (case hg => rfl); (case hr => first | (go_simp; done) | (go_simp; rfl))
                intro gb237 hg w84 hbox hb
                have n0_ := Aside0.mk (Kd.R_below (upR HO195) hb)
                have n1_ := Aside0.mk (Kd.R_below (upR HO198) hb)
                have n2_ := Aside0.mk (Kd.R_below (upR HO219) hb)
                have n3_ := Aside0.mk (Kd.R_below (upR HO222) hb)
                have n4_ := Aside0.mk (blk_below (g := gb180) (o := .cells #[.string t173, .string t174, .string t175, .string t176, .bool t177, .int .i64 t178] 26 (0, 0)) (upK BK180) hb)
                have n5_ := Aside0.mk (blk_below (g := gb206) (o := .cells #[.string t199, .string t200, .string t201, .string t202, .bool t203, .int .i64 t204] 26 (0, 0)) (upK BK206) hb)
                have n6_ := Aside0.mk (below_step (upB HB) hb)
                have n7_ := Aside0.mk (hbox)
                have n8_ := Aside0.mk ((by rw [hg]; exact (below_size (upB HB)) : w.heap.size ≤ gb237))
                have n9_ := Aside0.mk ((by rw [hg]; exact (below_size (upB HB)) : w.heap.size ≤ gb237))
                have n10_ := Aside0.mk ((by rw [hg]; exact Nat.ne_of_lt (blk_lt (g := gb180) (o := .cells #[.string t173, .string t174, .string t175, .string t176, .bool t177, .int .i64 t178] 26 (0, 0)) (upK BK180)) : gb180 ≠ gb237))
                have n11_ := Aside0.mk ((by rw [hg]; exact Nat.ne_of_gt (blk_lt (g := gb180) (o := .cells #[.string t173, .string t174, .string t175, .string t176, .bool t177, .int .i64 t178] 26 (0, 0)) (upK BK180)) : gb237 ≠ gb180))
                have n12_ := Aside0.mk ((by rw [hg]; exact Nat.ne_of_lt (blk_lt (g := gb206) (o := .cells #[.string t199, .string t200, .string t201, .string t202, .bool t203, .int .i64 t204] 26 (0, 0)) (upK BK206)) : gb206 ≠ gb237))
                have n13_ := Aside0.mk ((by rw [hg]; exact Nat.ne_of_gt (blk_lt (g := gb206) (o := .cells #[.string t199, .string t200, .string t201, .string t202, .bool t203, .int .i64 t204] 26 (0, 0)) (upK BK206)) : gb237 ≠ gb206))
                clear HO195 HO198 HO219 HO222 BK180 BK206 HB; have HO195 := n0_; have HO198 := n1_; have HO219 := n2_; have HO222 := n3_; have BK180 := n4_; have BK206 := n5_; have HB := n6_; have BK237 := n7_; have GW237 := n8_; have GE237 := n9_; have NB180_237 := n10_; have NB237_180 := n11_; have NB206_237 := n12_; have NB237_206 := n13_; clear n0_ n1_ n2_ n3_ n4_ n5_ n6_ n7_ n8_ n9_ n10_ n11_ n12_ n13_ hb hbox hg
                refine hK.out _ _ trivial (fun hHeld => ?_)
                clear hK K
                refine norm_ (a' := ?_) ?_ ?_
                rotate_left
                ·show Act.put _ (some 12) _ = _
                 simp only [Act.put, List.setIfInBounds_toArray, List.set_cons_zero, List.set_cons_succ, i64_w, i32_w]
                 rfl
                exact norm_ (by first | (simp only [putAll, Act.put, List.setIfInBounds_toArray, List.set_cons_zero, List.set_cons_succ]; done) | (simp only [putAll, Act.put, List.setIfInBounds_toArray, List.set_cons_zero, List.set_cons_succ]; rfl)) (hJ0_4_8_9_18 (v208, v215, v218, v221, gb237) _ ⟨(upR HO195), (upR HO198), (upR HO219), (upR HO222), (upK BK180), (upK BK206), (upK BK237), GW237.out, GE237.out, NB180_237.out, NB237_180.out, NB206_237.out, NB237_206.out, (upB HB)⟩)
             ·skip
              rintro ⟨v208, v215, v218, v221, gb237⟩ w84 ⟨h0_, h1_, h2_, h3_, h4_, h5_, h6_, h7_, h8_, h9_, h10_, h11_, h12_, h13_⟩
              have n0_ : Aside0 (Kd.R k32 32 w84 w.heap.size (fun k_ => some k_ ≠ (.slice Ao67 y196.length co67 : Value).ownBlock ∧ some k_ ≠ (v218 : Value).ownBlock ∧ some k_ ≠ (v221 : Value).ownBlock) (.slice Ao66 y193.length co66) y193) := ⟨h0_⟩
              have n1_ : Aside0 (Kd.R k32 32 w84 w.heap.size (fun k_ => some k_ ≠ (.slice Ao66 y193.length co66 : Value).ownBlock ∧ some k_ ≠ (v218 : Value).ownBlock ∧ some k_ ≠ (v221 : Value).ownBlock) (.slice Ao67 y196.length co67) y196) := ⟨h1_⟩
              have n2_ : Aside0 (Kd.R k32 32 w84 w.heap.size (fun k_ => some k_ ≠ (.slice Ao66 y193.length co66 : Value).ownBlock ∧ some k_ ≠ (.slice Ao67 y196.length co67 : Value).ownBlock ∧ some k_ ≠ (v221 : Value).ownBlock) v218 y217) := ⟨h2_⟩
              have n3_ : Aside0 (Kd.R k32 32 w84 w.heap.size (fun k_ => some k_ ≠ (.slice Ao66 y193.length co66 : Value).ownBlock ∧ some k_ ≠ (.slice Ao67 y196.length co67 : Value).ownBlock ∧ some k_ ≠ (v218 : Value).ownBlock) v221 y220) := ⟨h3_⟩
              have n4_ : Aside0 (w84.heap[gb180]? = some (.cells #[.string t173, .string t174, .string t175, .string t176, .bool t177, .int .i64 t178] 26 (0, 0))) := ⟨h4_⟩
              have n5_ : Aside0 (w84.heap[gb206]? = some (.cells #[.string t199, .string t200, .string t201, .string t202, .bool t203, .int .i64 t204] 26 (0, 0))) := ⟨h5_⟩
              have n6_ : Aside0 (w84.heap[gb237]? = some (.cells #[.string (⟨#[]⟩ : ByteArray), .string (⟨#[]⟩ : ByteArray), .string (⟨#[]⟩ : ByteArray), .string (⟨#[]⟩ : ByteArray), .bool false, .int .i64 0] 26 (0, 0))) := ⟨h6_⟩
              have n7_ : Aside0 (w.heap.size ≤ gb237) := ⟨h7_⟩
              have n8_ : Aside0 (w.heap.size ≤ gb237) := ⟨h8_⟩
              have n9_ : Aside0 (gb180 ≠ gb237) := ⟨h9_⟩
              have n10_ : Aside0 (gb237 ≠ gb180) := ⟨h10_⟩
              have n11_ : Aside0 (gb206 ≠ gb237) := ⟨h11_⟩
              have n12_ : Aside0 (gb237 ≠ gb206) := ⟨h12_⟩
              have n13_ : Aside0 (Below w.heap.size w w84) := ⟨h13_⟩
              clear HO195 HO198 BK180 BK206 HB h0_ h1_ h2_ h3_ h4_ h5_ h6_ h7_ h8_ h9_ h10_ h11_ h12_ h13_; have HO195 := n0_; have HO198 := n1_; have HO219 := n2_; have HO222 := n3_; have BK180 := n4_; have BK206 := n5_; have BK237 := n6_; have GW237 := n7_; have GE237 := n8_; have NB180_237 := n9_; have NB237_180 := n10_; have NB206_237 := n11_; have NB237_206 := n12_; have HB := n13_; clear n0_ n1_ n2_ n3_ n4_ n5_ n6_ n7_ n8_ n9_ n10_ n11_ n12_ n13_; have hHeld := trivial
              refine norm_ (a' := ?_) ?_ ?_
              rotate_left
              ·simp only [putAll, Act.put, List.setIfInBounds_toArray, List.set_cons_zero, List.set_cons_succ]
               rfl
              refine one_ (i := 13) (N := some 111) #[true, true, true, true, true, true, true, true, true, true, true, true, true, true, false, false, false, false, true, false, false] rfl rfl (one_of HT_.out (by kernel_rfl)) (by decide) (fun K hK => ?_)
              refine Kd.R_append_rows_step k32 (w0 := w) w.heap.size (by rfl) (.tmp 107) (.tmp 110) 22 32 (.agg #[(.string ⟨#[]⟩), (.string ⟨#[]⟩), (.bool false)]) 40 rfl Tryd.underlying22 info32 rfl (by decide) (by omega) v221 y220 y223 _ _ _ (fun k_ => some k_ ≠ (.slice Ao66 y193.length co66 : Value).ownBlock ∧ some k_ ≠ (.slice Ao67 y196.length co67 : Value).ownBlock ∧ some k_ ≠ (v218 : Value).ownBlock) (fun _ => False) rfl rfl ?aO ?aR (fun _ _ h => h) (fun _ h => h.elim) ?aF ?aB ?aS ?aL ?_
              (case aR => repeat (first | exact (Kd.C_below HR226.out HB.out) | (with_reducible refine Kd.C_alloc ?_ _) | (with_reducible refine Kd.C_drewN ?_ _) | (with_reducible refine Kd.C_drew ?_)))
              (case aB => exact (upB HB))
              (case aF => exact (fun k_ hk => ⟨Kd.fresh' (Kd.R_lt (upR HO195)) k_ hk, Kd.fresh' (Kd.R_lt (upR HO198)) k_ hk, Kd.fresh' (Kd.R_lt (upR HO219)) k_ hk⟩))
              (case aO => exact (upR HO222))
              (case aS => exact (below_size (upB HB)))
              (case aL => have := LMc55.out; omega)
              intro v228 w85 ho hb hg hat
              rw [← Ny227.out] at ho
              have n0_ := Aside0.mk (blk_grown (g := gb180) (o := .cells #[.string t173, .string t174, .string t175, .string t176, .bool t177, .int .i64 t178] 26 (0, 0)) (upK BK180) hg (Kd.R_ne HO222.out BK180.out (by decide)))
              have n1_ := Aside0.mk (Kd.R_after (ok := (fun k_ => some k_ ≠ (.slice Ao67 y196.length co67 : Value).ownBlock ∧ some k_ ≠ (v218 : Value).ownBlock)) (by (with_reducible repeat (first | apply Kd.R_alloc | apply Kd.R_drewN | apply Kd.R_drew)); exact Kd.R_mono HO195.out (fun _ hk => ⟨⟨hk.1, hk.2.1⟩, hk.2.2⟩)) hg hat)
              have n2_ := Aside0.mk (Kd.R_after (ok := (fun k_ => some k_ ≠ (.slice Ao66 y193.length co66 : Value).ownBlock ∧ some k_ ≠ (v218 : Value).ownBlock)) (by (with_reducible repeat (first | apply Kd.R_alloc | apply Kd.R_drewN | apply Kd.R_drew)); exact Kd.R_mono HO198.out (fun _ hk => ⟨⟨hk.1, hk.2.1⟩, hk.2.2⟩)) hg hat)
              have n3_ := Aside0.mk (blk_grown (g := gb206) (o := .cells #[.string t199, .string t200, .string t201, .string t202, .bool t203, .int .i64 t204] 26 (0, 0)) (upK BK206) hg (Kd.R_ne HO222.out BK206.out (by decide)))
              have n4_ := Aside0.mk (Kd.R_after (ok := (fun k_ => some k_ ≠ (.slice Ao66 y193.length co66 : Value).ownBlock ∧ some k_ ≠ (.slice Ao67 y196.length co67 : Value).ownBlock)) (by (with_reducible repeat (first | apply Kd.R_alloc | apply Kd.R_drewN | apply Kd.R_drew)); exact Kd.R_mono HO219.out (fun _ hk => ⟨⟨hk.1, hk.2.1⟩, hk.2.2⟩)) hg hat)
              have n5_ := Aside0.mk (blk_grown (g := gb237) (o := .cells #[.string (⟨#[]⟩ : ByteArray), .string (⟨#[]⟩ : ByteArray), .string (⟨#[]⟩ : ByteArray), .string (⟨#[]⟩ : ByteArray), .bool false, .int .i64 0] 26 (0, 0)) (upK BK237) hg (Kd.R_ne HO222.out BK237.out (by decide)))
              have n6_ := Aside0.mk (hb)
              have n7_ := Aside0.mk (ho)
              clear BK180 HO195 HO198 BK206 HO219 BK237 HB HO222; have BK180 := n0_; have HO195 := n1_; have HO198 := n2_; have BK206 := n3_; have HO219 := n4_; have BK237 := n5_; have HB := n6_; have HO229 := n7_; clear n0_ n1_ n2_ n3_ n4_ n5_ n6_ n7_ ho hb hg hat
              refine hK.out _ _ trivial (fun hHeld => ?_)
              clear hK K
              refine norm_ (a' := ?_) ?_ ?_
              rotate_left
              ·show Act.put _ (some 111) _ = _
               simp only [Act.put, List.setIfInBounds_toArray, List.set_cons_zero, List.set_cons_succ, i64_w, i32_w]
               rfl
              exact norm_ (by first | (simp only [putAll, Act.put, List.setIfInBounds_toArray, List.set_cons_zero, List.set_cons_succ]; done) | (simp only [putAll, Act.put, List.setIfInBounds_toArray, List.set_cons_zero, List.set_cons_succ]; rfl)) (hJ0_4_8_9_13_18 (v208, v215, v218, v221, v228, gb237) _ ⟨(by (with_reducible repeat (first | apply Kd.R_alloc | apply Kd.R_drewN | apply Kd.R_drew)); exact Kd.R_mono HO195.out (fun _ hk => ⟨hk.1.1, ⟨hk.1.2, hk.2⟩⟩)), (by (with_reducible repeat (first | apply Kd.R_alloc | apply Kd.R_drewN | apply Kd.R_drew)); exact Kd.R_mono HO198.out (fun _ hk => ⟨hk.1.1, ⟨hk.1.2, hk.2⟩⟩)), (by (with_reducible repeat (first | apply Kd.R_alloc | apply Kd.R_drewN | apply Kd.R_drew)); exact Kd.R_mono HO219.out (fun _ hk => ⟨hk.1.1, ⟨hk.1.2, hk.2⟩⟩)), (upR HO229), (upK BK180), (upK BK206), (upK BK237), GW237.out, GE237.out, NB180_237.out, NB237_180.out, NB206_237.out, NB237_206.out, (upB HB)⟩)
            ·skip
             rintro ⟨v208, v215, v218, v221, v228⟩ w84 ⟨h0_, h1_, h2_, h3_, h4_, h5_, h6_⟩
             have n0_ : Aside0 (Kd.R k32 32 w84 w.heap.size (fun k_ => some k_ ≠ (.slice Ao67 y196.length co67 : Value).ownBlock ∧ some k_ ≠ (v218 : Value).ownBlock ∧ some k_ ≠ (v228 : Value).ownBlock) (.slice Ao66 y193.length co66) y193) := ⟨h0_⟩
             have n1_ : Aside0 (Kd.R k32 32 w84 w.heap.size (fun k_ => some k_ ≠ (.slice Ao66 y193.length co66 : Value).ownBlock ∧ some k_ ≠ (v218 : Value).ownBlock ∧ some k_ ≠ (v228 : Value).ownBlock) (.slice Ao67 y196.length co67) y196) := ⟨h1_⟩
             have n2_ : Aside0 (Kd.R k32 32 w84 w.heap.size (fun k_ => some k_ ≠ (.slice Ao66 y193.length co66 : Value).ownBlock ∧ some k_ ≠ (.slice Ao67 y196.length co67 : Value).ownBlock ∧ some k_ ≠ (v228 : Value).ownBlock) v218 y217) := ⟨h2_⟩
             have n3_ : Aside0 (Kd.R k32 32 w84 w.heap.size (fun k_ => some k_ ≠ (.slice Ao66 y193.length co66 : Value).ownBlock ∧ some k_ ≠ (.slice Ao67 y196.length co67 : Value).ownBlock ∧ some k_ ≠ (v218 : Value).ownBlock) v228 y227) := ⟨h3_⟩
             have n4_ : Aside0 (w84.heap[gb180]? = some (.cells #[.string t173, .string t174, .string t175, .string t176, .bool t177, .int .i64 t178] 26 (0, 0))) := ⟨h4_⟩
             have n5_ : Aside0 (w84.heap[gb206]? = some (.cells #[.string t199, .string t200, .string t201, .string t202, .bool t203, .int .i64 t204] 26 (0, 0))) := ⟨h5_⟩
             have n6_ : Aside0 (Below w.heap.size w w84) := ⟨h6_⟩
             clear HO195 HO198 BK180 BK206 HB h0_ h1_ h2_ h3_ h4_ h5_ h6_; have HO195 := n0_; have HO198 := n1_; have HO219 := n2_; have HO229 := n3_; have BK180 := n4_; have BK206 := n5_; have HB := n6_; clear n0_ n1_ n2_ n3_ n4_ n5_ n6_; have hHeld := trivial
             obtain ⟨Ao85, co85, eo85⟩ := Kd.R_slice HO229.out
             (first | subst eo85 | (injection eo85 with f1_ f2_ f3_; have f4_ := f1_.symm; have f5_ := f3_.symm; clear f1_ f2_ f3_; subst f4_; subst f5_))
             refine norm_ (a' := ?_) ?_ ?_
             rotate_left
             ·simp only [putAll, Act.put, List.setIfInBounds_toArray, List.set_cons_zero, List.set_cons_succ]
              rfl
             refine two_ (i := 14) (j := 18) (Ni := some 112) (Nj := some 12) #[true, true, true, true, true, true, true, true, true, true, true, true, true, true, true, false, false, false, false, false, false] #[true, true, true, true, true, true, true, true, true, true, true, true, true, true, false, false, false, false, true, false, false] rfl rfl rfl rfl (two_of HT_.out (by kernel_rfl)) (by decide) (by decide) (fun K hK => ?_) (fun K hK => ?_)
             ·skip
              refine goes_ Tryd.func8 (by kernel_rfl) rfl #[.slice Ao85 y227.length co85] (by rfl) rfl rfl (by (try simp only [List.map_toArray, List.map_cons, List.map_nil]); first | done | rfl | (simp only [List.length_drop, List.length_take]; rfl)) ?_
              with_reducible refine (head_Request.calls _ _ y227 t230 t231 t232 t233 t234 t235 t236 _ ?side1 ?side2 A56.out).mono ?_
              (case side1 => repeat (first | exact (Kd.R_reads' HO229.out).2.2 | (with_reducible refine Kd.C_alloc ?_ _) | (with_reducible refine Kd.C_drewN ?_ _) | (with_reducible refine Kd.C_drew ?_)))
              (case side2 => exact (Kd.R_reads' HO229.out).2.1)
              rintro e w86 ⟨rfl, hb⟩
              refine ⟨_, rfl, ?_⟩
              have n0_ := Aside0.mk (Kd.R_below (upR HO195) hb)
              have n1_ := Aside0.mk (Kd.R_below (upR HO198) hb)
              have n2_ := Aside0.mk (Kd.R_below (upR HO219) hb)
              have n3_ := Aside0.mk (Kd.R_below (upR HO229) hb)
              have n4_ := Aside0.mk (blk_below (g := gb180) (o := .cells #[.string t173, .string t174, .string t175, .string t176, .bool t177, .int .i64 t178] 26 (0, 0)) (upK BK180) hb)
              have n5_ := Aside0.mk (blk_below (g := gb206) (o := .cells #[.string t199, .string t200, .string t201, .string t202, .bool t203, .int .i64 t204] 26 (0, 0)) (upK BK206) hb)
              have n6_ := Aside0.mk (below_step (upB HB) hb)
              clear HO195 HO198 HO219 HO229 BK180 BK206 HB; have HO195 := n0_; have HO198 := n1_; have HO219 := n2_; have HO229 := n3_; have BK180 := n4_; have BK206 := n5_; have HB := n6_; clear n0_ n1_ n2_ n3_ n4_ n5_ n6_; (try clear hb); (try clear hb2); (try clear hk); (try clear hi)
              refine hK.out _ _ trivial (fun hHeld => ?_)
              clear hK K
              refine norm_ (a' := ?_) ?_ ?_
              rotate_left
              ·show Act.put _ (some 112) _ = _
               simp only [Act.put, List.setIfInBounds_toArray, List.set_cons_zero, List.set_cons_succ, i64_w, i32_w]
               rfl
              refine pure_ (i := 15) (N := some 97) (v := ?_) (a' := ?_) #[true, true, true, true, true, true, true, true, true, true, true, true, true, true, true, true, false, false, false, false, false] rfl rfl (any_of HT_.out (by kernel_rfl)) (fun _ _ _ h => h) (Or.inl ⟨by rfl, ?_⟩) ?_ ?_
              rotate_left
              ·intro w'
               go_simp
               with_reducible rfl
              rotate_left
              ·simp only [Act.put, List.setIfInBounds_toArray, List.set_cons_zero, List.set_cons_succ, i64_w, i32_w]
               rfl
              refine pure_ (i := 16) (N := some 113) (v := ?_) (a' := ?_) #[true, true, true, true, true, true, true, true, true, true, true, true, true, true, true, true, true, false, false, false, false] rfl rfl (any_of HT_.out (by kernel_rfl)) (fun _ _ _ h => h) (Or.inl ⟨by rfl, ?_⟩) ?_ ?_
              rotate_left
              ·intro w'
               go_simp
               with_reducible rfl
              rotate_left
              ·simp only [Act.put, List.setIfInBounds_toArray, List.set_cons_zero, List.set_cons_succ, i64_w, i32_w]
               rfl
              refine pure_ (i := 17) (N := some 114) (v := ?_) (a' := ?_) #[true, true, true, true, true, true, true, true, true, true, true, true, true, true, true, true, true, true, false, false, false] rfl rfl (any_of HT_.out (by kernel_rfl)) (fun _ _ _ h => h) (Or.inl ⟨by rfl, ?_⟩) ?_ ?_
              rotate_left
              ·intro w'
               go_simp
               with_reducible rfl
              rotate_left
              ·simp only [Act.put, List.setIfInBounds_toArray, List.set_cons_zero, List.set_cons_succ, i64_w, i32_w]
               rfl
              exact norm_ (by first | (simp only [putAll, Act.put, List.setIfInBounds_toArray, List.set_cons_zero, List.set_cons_succ]; done) | (simp only [putAll, Act.put, List.setIfInBounds_toArray, List.set_cons_zero, List.set_cons_succ]; rfl)) (hJ0_4_8_9_13_14 (v208, v215, v218, v221, .slice Ao85 y227.length co85) _ ⟨(upR HO195), (upR HO198), (upR HO219), (upR HO229), (upK BK180), (upK BK206), (upB HB)⟩)
             ·skip
              refine box_step ?hg (N := 12) ?hd (cs := #[.string (⟨#[]⟩ : ByteArray), .string (⟨#[]⟩ : ByteArray), .string (⟨#[]⟩ : ByteArray), .string (⟨#[]⟩ : ByteArray), .bool false, .int .i64 0]) (t := 26) ?hr ?_; (case hd => rfl); (case hg => rfl); (case hr => first | (go_simp; done) | (go_simp; rfl))
              intro gb237 hg w85 hbox hb
              have n0_ := Aside0.mk (Kd.R_below (upR HO195) hb)
              have n1_ := Aside0.mk (Kd.R_below (upR HO198) hb)
              have n2_ := Aside0.mk (Kd.R_below (upR HO219) hb)
              have n3_ := Aside0.mk (Kd.R_below (upR HO229) hb)
              have n4_ := Aside0.mk (blk_below (g := gb180) (o := .cells #[.string t173, .string t174, .string t175, .string t176, .bool t177, .int .i64 t178] 26 (0, 0)) (upK BK180) hb)
              have n5_ := Aside0.mk (blk_below (g := gb206) (o := .cells #[.string t199, .string t200, .string t201, .string t202, .bool t203, .int .i64 t204] 26 (0, 0)) (upK BK206) hb)
              have n6_ := Aside0.mk (below_step (upB HB) hb)
              have n7_ := Aside0.mk (hbox)
              have n8_ := Aside0.mk ((by rw [hg]; exact (below_size (upB HB)) : w.heap.size ≤ gb237))
              have n9_ := Aside0.mk ((by rw [hg]; exact (below_size (upB HB)) : w.heap.size ≤ gb237))
              have n10_ := Aside0.mk ((by rw [hg]; exact Nat.ne_of_lt (blk_lt (g := gb180) (o := .cells #[.string t173, .string t174, .string t175, .string t176, .bool t177, .int .i64 t178] 26 (0, 0)) (upK BK180)) : gb180 ≠ gb237))
              have n11_ := Aside0.mk ((by rw [hg]; exact Nat.ne_of_gt (blk_lt (g := gb180) (o := .cells #[.string t173, .string t174, .string t175, .string t176, .bool t177, .int .i64 t178] 26 (0, 0)) (upK BK180)) : gb237 ≠ gb180))
              have n12_ := Aside0.mk ((by rw [hg]; exact Nat.ne_of_lt (blk_lt (g := gb206) (o := .cells #[.string t199, .string t200, .string t201, .string t202, .bool t203, .int .i64 t204] 26 (0, 0)) (upK BK206)) : gb206 ≠ gb237))
              have n13_ := Aside0.mk ((by rw [hg]; exact Nat.ne_of_gt (blk_lt (g := gb206) (o := .cells #[.string t199, .string t200, .string t201, .string t202, .bool t203, .int .i64 t204] 26 (0, 0)) (upK BK206)) : gb237 ≠ gb206))
              clear HO195 HO198 HO219 HO229 BK180 BK206 HB; have HO195 := n0_; have HO198 := n1_; have HO219 := n2_; have HO229 := n3_; have BK180 := n4_; have BK206 := n5_; have HB := n6_; have BK237 := n7_; have GW237 := n8_; have GE237 := n9_; have NB180_237 := n10_; have NB237_180 := n11_; have NB206_237 := n12_; have NB237_206 := n13_; clear n0_ n1_ n2_ n3_ n4_ n5_ n6_ n7_ n8_ n9_ n10_ n11_ n12_ n13_ hb hbox hg
              refine hK.out _ _ trivial (fun hHeld => ?_)
              clear hK K
              refine norm_ (a' := ?_) ?_ ?_
              rotate_left
              ·show Act.put _ (some 12) _ = _
               simp only [Act.put, List.setIfInBounds_toArray, List.set_cons_zero, List.set_cons_succ, i64_w, i32_w]
               rfl
              exact norm_ (by first | (simp only [putAll, Act.put, List.setIfInBounds_toArray, List.set_cons_zero, List.set_cons_succ]; done) | (simp only [putAll, Act.put, List.setIfInBounds_toArray, List.set_cons_zero, List.set_cons_succ]; rfl)) (hJ0_4_8_9_13_18 (v208, v215, v218, v221, _, gb237) _ ⟨(upR HO195), (upR HO198), (upR HO219), (upR HO229), (upK BK180), (upK BK206), (upK BK237), GW237.out, GE237.out, NB180_237.out, NB237_180.out, NB206_237.out, NB237_206.out, (upB HB)⟩)
           ·skip
            rintro ⟨v208, v215, v218, v221, v228, gb237⟩ w85 ⟨h0_, h1_, h2_, h3_, h4_, h5_, h6_, h7_, h8_, h9_, h10_, h11_, h12_, h13_⟩
            have n0_ : Aside0 (Kd.R k32 32 w85 w.heap.size (fun k_ => some k_ ≠ (.slice Ao67 y196.length co67 : Value).ownBlock ∧ some k_ ≠ (v218 : Value).ownBlock ∧ some k_ ≠ (v228 : Value).ownBlock) (.slice Ao66 y193.length co66) y193) := ⟨h0_⟩
            have n1_ : Aside0 (Kd.R k32 32 w85 w.heap.size (fun k_ => some k_ ≠ (.slice Ao66 y193.length co66 : Value).ownBlock ∧ some k_ ≠ (v218 : Value).ownBlock ∧ some k_ ≠ (v228 : Value).ownBlock) (.slice Ao67 y196.length co67) y196) := ⟨h1_⟩
            have n2_ : Aside0 (Kd.R k32 32 w85 w.heap.size (fun k_ => some k_ ≠ (.slice Ao66 y193.length co66 : Value).ownBlock ∧ some k_ ≠ (.slice Ao67 y196.length co67 : Value).ownBlock ∧ some k_ ≠ (v228 : Value).ownBlock) v218 y217) := ⟨h2_⟩
            have n3_ : Aside0 (Kd.R k32 32 w85 w.heap.size (fun k_ => some k_ ≠ (.slice Ao66 y193.length co66 : Value).ownBlock ∧ some k_ ≠ (.slice Ao67 y196.length co67 : Value).ownBlock ∧ some k_ ≠ (v218 : Value).ownBlock) v228 y227) := ⟨h3_⟩
            have n4_ : Aside0 (w85.heap[gb180]? = some (.cells #[.string t173, .string t174, .string t175, .string t176, .bool t177, .int .i64 t178] 26 (0, 0))) := ⟨h4_⟩
            have n5_ : Aside0 (w85.heap[gb206]? = some (.cells #[.string t199, .string t200, .string t201, .string t202, .bool t203, .int .i64 t204] 26 (0, 0))) := ⟨h5_⟩
            have n6_ : Aside0 (w85.heap[gb237]? = some (.cells #[.string (⟨#[]⟩ : ByteArray), .string (⟨#[]⟩ : ByteArray), .string (⟨#[]⟩ : ByteArray), .string (⟨#[]⟩ : ByteArray), .bool false, .int .i64 0] 26 (0, 0))) := ⟨h6_⟩
            have n7_ : Aside0 (w.heap.size ≤ gb237) := ⟨h7_⟩
            have n8_ : Aside0 (w.heap.size ≤ gb237) := ⟨h8_⟩
            have n9_ : Aside0 (gb180 ≠ gb237) := ⟨h9_⟩
            have n10_ : Aside0 (gb237 ≠ gb180) := ⟨h10_⟩
            have n11_ : Aside0 (gb206 ≠ gb237) := ⟨h11_⟩
            have n12_ : Aside0 (gb237 ≠ gb206) := ⟨h12_⟩
            have n13_ : Aside0 (Below w.heap.size w w85) := ⟨h13_⟩
            clear HO195 HO198 BK180 BK206 HB h0_ h1_ h2_ h3_ h4_ h5_ h6_ h7_ h8_ h9_ h10_ h11_ h12_ h13_; have HO195 := n0_; have HO198 := n1_; have HO219 := n2_; have HO229 := n3_; have BK180 := n4_; have BK206 := n5_; have BK237 := n6_; have GW237 := n7_; have GE237 := n8_; have NB180_237 := n9_; have NB237_180 := n10_; have NB206_237 := n11_; have NB237_206 := n12_; have HB := n13_; clear n0_ n1_ n2_ n3_ n4_ n5_ n6_ n7_ n8_ n9_ n10_ n11_ n12_ n13_; have hHeld := trivial
            obtain ⟨Ao86, co86, eo86⟩ := Kd.R_slice HO229.out
            (first | subst eo86 | (injection eo86 with f1_ f2_ f3_; have f4_ := f1_.symm; have f5_ := f3_.symm; clear f1_ f2_ f3_; subst f4_; subst f5_))
            refine norm_ (a' := ?_) ?_ ?_
            rotate_left
            ·simp only [putAll, Act.put, List.setIfInBounds_toArray, List.set_cons_zero, List.set_cons_succ]
             rfl
            refine one_ (i := 14) (N := some 112) #[true, true, true, true, true, true, true, true, true, true, true, true, true, true, true, false, false, false, true, false, false] rfl rfl (one_of HT_.out (by kernel_rfl)) (by decide) (fun K hK => ?_)
            refine goes_ Tryd.func8 (by kernel_rfl) rfl #[.slice Ao86 y227.length co86] (by rfl) rfl rfl (by (try simp only [List.map_toArray, List.map_cons, List.map_nil]); first | done | rfl | (simp only [List.length_drop, List.length_take]; rfl)) ?_
            with_reducible refine (head_Request.calls _ _ y227 t230 t231 t232 t233 t234 t235 t236 _ ?side1 ?side2 A56.out).mono ?_
            (case side1 => repeat (first | exact (Kd.R_reads' HO229.out).2.2 | (with_reducible refine Kd.C_alloc ?_ _) | (with_reducible refine Kd.C_drewN ?_ _) | (with_reducible refine Kd.C_drew ?_)))
            (case side2 => exact (Kd.R_reads' HO229.out).2.1)
            rintro e w87 ⟨rfl, hb⟩
            refine ⟨_, rfl, ?_⟩
            have n0_ := Aside0.mk (Kd.R_below (upR HO195) hb)
            have n1_ := Aside0.mk (Kd.R_below (upR HO198) hb)
            have n2_ := Aside0.mk (Kd.R_below (upR HO219) hb)
            have n3_ := Aside0.mk (Kd.R_below (upR HO229) hb)
            have n4_ := Aside0.mk (blk_below (g := gb180) (o := .cells #[.string t173, .string t174, .string t175, .string t176, .bool t177, .int .i64 t178] 26 (0, 0)) (upK BK180) hb)
            have n5_ := Aside0.mk (blk_below (g := gb206) (o := .cells #[.string t199, .string t200, .string t201, .string t202, .bool t203, .int .i64 t204] 26 (0, 0)) (upK BK206) hb)
            have n6_ := Aside0.mk (blk_below (g := gb237) (o := .cells #[.string (⟨#[]⟩ : ByteArray), .string (⟨#[]⟩ : ByteArray), .string (⟨#[]⟩ : ByteArray), .string (⟨#[]⟩ : ByteArray), .bool false, .int .i64 0] 26 (0, 0)) (upK BK237) hb)
            have n7_ := Aside0.mk (below_step (upB HB) hb)
            clear HO195 HO198 HO219 HO229 BK180 BK206 BK237 HB; have HO195 := n0_; have HO198 := n1_; have HO219 := n2_; have HO229 := n3_; have BK180 := n4_; have BK206 := n5_; have BK237 := n6_; have HB := n7_; clear n0_ n1_ n2_ n3_ n4_ n5_ n6_ n7_; (try clear hb); (try clear hb2); (try clear hk); (try clear hi)
            refine hK.out _ _ trivial (fun hHeld => ?_)
            clear hK K
            refine norm_ (a' := ?_) ?_ ?_
            rotate_left
            ·show Act.put _ (some 112) _ = _
             simp only [Act.put, List.setIfInBounds_toArray, List.set_cons_zero, List.set_cons_succ, i64_w, i32_w]
             rfl
            refine pure_ (i := 15) (N := some 97) (v := ?_) (a' := ?_) #[true, true, true, true, true, true, true, true, true, true, true, true, true, true, true, true, false, false, true, false, false] rfl rfl (any_of HT_.out (by kernel_rfl)) (fun _ _ _ h => h) (Or.inl ⟨by rfl, ?_⟩) ?_ ?_
            rotate_left
            ·intro w'
             go_simp
             with_reducible rfl
            rotate_left
            ·simp only [Act.put, List.setIfInBounds_toArray, List.set_cons_zero, List.set_cons_succ, i64_w, i32_w]
             rfl
            refine pure_ (i := 16) (N := some 113) (v := ?_) (a' := ?_) #[true, true, true, true, true, true, true, true, true, true, true, true, true, true, true, true, true, false, true, false, false] rfl rfl (any_of HT_.out (by kernel_rfl)) (fun _ _ _ h => h) (Or.inl ⟨by rfl, ?_⟩) ?_ ?_
            rotate_left
            ·intro w'
             go_simp
             with_reducible rfl
            rotate_left
            ·simp only [Act.put, List.setIfInBounds_toArray, List.set_cons_zero, List.set_cons_succ, i64_w, i32_w]
             rfl
            refine pure_ (i := 17) (N := some 114) (v := ?_) (a' := ?_) #[true, true, true, true, true, true, true, true, true, true, true, true, true, true, true, true, true, true, true, false, false] rfl rfl (any_of HT_.out (by kernel_rfl)) (fun _ _ _ h => h) (Or.inl ⟨by rfl, ?_⟩) ?_ ?_
            rotate_left
            ·intro w'
             go_simp
             with_reducible rfl
            rotate_left
            ·simp only [Act.put, List.setIfInBounds_toArray, List.set_cons_zero, List.set_cons_succ, i64_w, i32_w]
             rfl
            exact norm_ (by first | (simp only [putAll, Act.put, List.setIfInBounds_toArray, List.set_cons_zero, List.set_cons_succ]; done) | (simp only [putAll, Act.put, List.setIfInBounds_toArray, List.set_cons_zero, List.set_cons_succ]; rfl)) (hJ0_4_8_9_13_14_18 (v208, v215, v218, v221, .slice Ao86 y227.length co86, gb237) _ ⟨(upR HO195), (upR HO198), (upR HO219), (upR HO229), (upK BK180), (upK BK206), (upK BK237), GW237.out, GE237.out, NB180_237.out, NB237_180.out, NB206_237.out, NB237_206.out, (upB HB)⟩)
          ·skip
           rintro ⟨v208, v215, v218, v221, v228⟩ w86 ⟨h0_, h1_, h2_, h3_, h4_, h5_, h6_⟩
           have n0_ : Aside0 (Kd.R k32 32 w86 w.heap.size (fun k_ => some k_ ≠ (.slice Ao67 y196.length co67 : Value).ownBlock ∧ some k_ ≠ (v218 : Value).ownBlock ∧ some k_ ≠ (v228 : Value).ownBlock) (.slice Ao66 y193.length co66) y193) := ⟨h0_⟩
           have n1_ : Aside0 (Kd.R k32 32 w86 w.heap.size (fun k_ => some k_ ≠ (.slice Ao66 y193.length co66 : Value).ownBlock ∧ some k_ ≠ (v218 : Value).ownBlock ∧ some k_ ≠ (v228 : Value).ownBlock) (.slice Ao67 y196.length co67) y196) := ⟨h1_⟩
           have n2_ : Aside0 (Kd.R k32 32 w86 w.heap.size (fun k_ => some k_ ≠ (.slice Ao66 y193.length co66 : Value).ownBlock ∧ some k_ ≠ (.slice Ao67 y196.length co67 : Value).ownBlock ∧ some k_ ≠ (v228 : Value).ownBlock) v218 y217) := ⟨h2_⟩
           have n3_ : Aside0 (Kd.R k32 32 w86 w.heap.size (fun k_ => some k_ ≠ (.slice Ao66 y193.length co66 : Value).ownBlock ∧ some k_ ≠ (.slice Ao67 y196.length co67 : Value).ownBlock ∧ some k_ ≠ (v218 : Value).ownBlock) v228 y227) := ⟨h3_⟩
           have n4_ : Aside0 (w86.heap[gb180]? = some (.cells #[.string t173, .string t174, .string t175, .string t176, .bool t177, .int .i64 t178] 26 (0, 0))) := ⟨h4_⟩
           have n5_ : Aside0 (w86.heap[gb206]? = some (.cells #[.string t199, .string t200, .string t201, .string t202, .bool t203, .int .i64 t204] 26 (0, 0))) := ⟨h5_⟩
           have n6_ : Aside0 (Below w.heap.size w w86) := ⟨h6_⟩
           clear HO195 HO198 BK180 BK206 HB h0_ h1_ h2_ h3_ h4_ h5_ h6_; have HO195 := n0_; have HO198 := n1_; have HO219 := n2_; have HO229 := n3_; have BK180 := n4_; have BK206 := n5_; have HB := n6_; clear n0_ n1_ n2_ n3_ n4_ n5_ n6_; have hHeld := trivial
           refine norm_ (a' := ?_) ?_ ?_
           rotate_left
           ·simp only [putAll, Act.put, List.setIfInBounds_toArray, List.set_cons_zero, List.set_cons_succ]
            rfl
           refine one_ (i := 18) (N := some 12) #[true, true, true, true, true, true, true, true, true, true, true, true, true, true, true, true, true, true, true, false, false] rfl rfl (one_of HT_.out (by kernel_rfl)) (by decide) (fun K hK => ?_)
           refine box_step ?hg (N := 12) ?hd (cs := #[.string (⟨#[]⟩ : ByteArray), .string (⟨#[]⟩ : ByteArray), .string (⟨#[]⟩ : ByteArray), .string (⟨#[]⟩ : ByteArray), .bool false, .int .i64 0]) (t := 26) ?hr ?_; (case hd => rfl); (case hg => rfl); (case hr => first | (go_simp; done) | (go_simp; rfl))
           intro gb237 hg w87 hbox hb
           have n0_ := Aside0.mk (Kd.R_below (upR HO195) hb)
           have n1_ := Aside0.mk (Kd.R_below (upR HO198) hb)
           have n2_ := Aside0.mk (Kd.R_below (upR HO219) hb)
           have n3_ := Aside0.mk (Kd.R_below (upR HO229) hb)
           have n4_ := Aside0.mk (blk_below (g := gb180) (o := .cells #[.string t173, .string t174, .string t175, .string t176, .bool t177, .int .i64 t178] 26 (0, 0)) (upK BK180) hb)
           have n5_ := Aside0.mk (blk_below (g := gb206) (o := .cells #[.string t199, .string t200, .string t201, .string t202, .bool t203, .int .i64 t204] 26 (0, 0)) (upK BK206) hb)
           have n6_ := Aside0.mk (below_step (upB HB) hb)
           have n7_ := Aside0.mk (hbox)
           have n8_ := Aside0.mk ((by rw [hg]; exact (below_size (upB HB)) : w.heap.size ≤ gb237))
           have n9_ := Aside0.mk ((by rw [hg]; exact (below_size (upB HB)) : w.heap.size ≤ gb237))
           have n10_ := Aside0.mk ((by rw [hg]; exact Nat.ne_of_lt (blk_lt (g := gb180) (o := .cells #[.string t173, .string t174, .string t175, .string t176, .bool t177, .int .i64 t178] 26 (0, 0)) (upK BK180)) : gb180 ≠ gb237))
           have n11_ := Aside0.mk ((by rw [hg]; exact Nat.ne_of_gt (blk_lt (g := gb180) (o := .cells #[.string t173, .string t174, .string t175, .string t176, .bool t177, .int .i64 t178] 26 (0, 0)) (upK BK180)) : gb237 ≠ gb180))
           have n12_ := Aside0.mk ((by rw [hg]; exact Nat.ne_of_lt (blk_lt (g := gb206) (o := .cells #[.string t199, .string t200, .string t201, .string t202, .bool t203, .int .i64 t204] 26 (0, 0)) (upK BK206)) : gb206 ≠ gb237))
           have n13_ := Aside0.mk ((by rw [hg]; exact Nat.ne_of_gt (blk_lt (g := gb206) (o := .cells #[.string t199, .string t200, .string t201, .string t202, .bool t203, .int .i64 t204] 26 (0, 0)) (upK BK206)) : gb237 ≠ gb206))
           clear HO195 HO198 HO219 HO229 BK180 BK206 HB; have HO195 := n0_; have HO198 := n1_; have HO219 := n2_; have HO229 := n3_; have BK180 := n4_; have BK206 := n5_; have HB := n6_; have BK237 := n7_; have GW237 := n8_; have GE237 := n9_; have NB180_237 := n10_; have NB237_180 := n11_; have NB206_237 := n12_; have NB237_206 := n13_; clear n0_ n1_ n2_ n3_ n4_ n5_ n6_ n7_ n8_ n9_ n10_ n11_ n12_ n13_ hb hbox hg
           refine hK.out _ _ trivial (fun hHeld => ?_)
           clear hK K
           refine norm_ (a' := ?_) ?_ ?_
           rotate_left
           ·show Act.put _ (some 12) _ = _
            simp only [Act.put, List.setIfInBounds_toArray, List.set_cons_zero, List.set_cons_succ, i64_w, i32_w]
            rfl
           exact norm_ (by first | (simp only [putAll, Act.put, List.setIfInBounds_toArray, List.set_cons_zero, List.set_cons_succ]; done) | (simp only [putAll, Act.put, List.setIfInBounds_toArray, List.set_cons_zero, List.set_cons_succ]; rfl)) (hJ0_4_8_9_13_14_18 (v208, v215, v218, v221, v228, gb237) _ ⟨(upR HO195), (upR HO198), (upR HO219), (upR HO229), (upK BK180), (upK BK206), (upK BK237), GW237.out, GE237.out, NB180_237.out, NB237_180.out, NB206_237.out, NB237_206.out, (upB HB)⟩)
         rintro ⟨v208, v215, v218, v221, v228, gb237⟩ w87 ⟨h0_, h1_, h2_, h3_, h4_, h5_, h6_, h7_, h8_, h9_, h10_, h11_, h12_, h13_⟩
         have n0_ : Aside0 (Kd.R k32 32 w87 w.heap.size (fun k_ => some k_ ≠ (.slice Ao67 y196.length co67 : Value).ownBlock ∧ some k_ ≠ (v218 : Value).ownBlock ∧ some k_ ≠ (v228 : Value).ownBlock) (.slice Ao66 y193.length co66) y193) := ⟨h0_⟩
         have n1_ : Aside0 (Kd.R k32 32 w87 w.heap.size (fun k_ => some k_ ≠ (.slice Ao66 y193.length co66 : Value).ownBlock ∧ some k_ ≠ (v218 : Value).ownBlock ∧ some k_ ≠ (v228 : Value).ownBlock) (.slice Ao67 y196.length co67) y196) := ⟨h1_⟩
         have n2_ : Aside0 (Kd.R k32 32 w87 w.heap.size (fun k_ => some k_ ≠ (.slice Ao66 y193.length co66 : Value).ownBlock ∧ some k_ ≠ (.slice Ao67 y196.length co67 : Value).ownBlock ∧ some k_ ≠ (v228 : Value).ownBlock) v218 y217) := ⟨h2_⟩
         have n3_ : Aside0 (Kd.R k32 32 w87 w.heap.size (fun k_ => some k_ ≠ (.slice Ao66 y193.length co66 : Value).ownBlock ∧ some k_ ≠ (.slice Ao67 y196.length co67 : Value).ownBlock ∧ some k_ ≠ (v218 : Value).ownBlock) v228 y227) := ⟨h3_⟩
         have n4_ : Aside0 (w87.heap[gb180]? = some (.cells #[.string t173, .string t174, .string t175, .string t176, .bool t177, .int .i64 t178] 26 (0, 0))) := ⟨h4_⟩
         have n5_ : Aside0 (w87.heap[gb206]? = some (.cells #[.string t199, .string t200, .string t201, .string t202, .bool t203, .int .i64 t204] 26 (0, 0))) := ⟨h5_⟩
         have n6_ : Aside0 (w87.heap[gb237]? = some (.cells #[.string (⟨#[]⟩ : ByteArray), .string (⟨#[]⟩ : ByteArray), .string (⟨#[]⟩ : ByteArray), .string (⟨#[]⟩ : ByteArray), .bool false, .int .i64 0] 26 (0, 0))) := ⟨h6_⟩
         have n7_ : Aside0 (w.heap.size ≤ gb237) := ⟨h7_⟩
         have n8_ : Aside0 (w.heap.size ≤ gb237) := ⟨h8_⟩
         have n9_ : Aside0 (gb180 ≠ gb237) := ⟨h9_⟩
         have n10_ : Aside0 (gb237 ≠ gb180) := ⟨h10_⟩
         have n11_ : Aside0 (gb206 ≠ gb237) := ⟨h11_⟩
         have n12_ : Aside0 (gb237 ≠ gb206) := ⟨h12_⟩
         have n13_ : Aside0 (Below w.heap.size w w87) := ⟨h13_⟩
         clear HO195 HO198 BK180 BK206 HB h0_ h1_ h2_ h3_ h4_ h5_ h6_ h7_ h8_ h9_ h10_ h11_ h12_ h13_; have HO195 := n0_; have HO198 := n1_; have HO219 := n2_; have HO229 := n3_; have BK180 := n4_; have BK206 := n5_; have BK237 := n6_; have GW237 := n7_; have GE237 := n8_; have NB180_237 := n9_; have NB237_180 := n10_; have NB206_237 := n11_; have NB237_206 := n12_; have HB := n13_; clear n0_ n1_ n2_ n3_ n4_ n5_ n6_ n7_ n8_ n9_ n10_ n11_ n12_ n13_; have hHeld := trivial
         refine norm_ (a' := ?_) ?_ ?_
         rotate_left
         ·simp only [putAll, Act.put, List.setIfInBounds_toArray, List.set_cons_zero, List.set_cons_succ]
          rfl
         refine one_ (i := 19) (N := none) #[true, true, true, true, true, true, true, true, true, true, true, true, true, true, true, true, true, true, true, true, false] rfl rfl (one_of HT_.out (by kernel_rfl)) (by decide) (fun K hK => ?_)
         have hs88 : w87.cell? ⟨gb237, 0, none⟩ = some (.string (⟨#[]⟩ : ByteArray)) := (blk_cell BK237.out 0).trans rfl
         have hfs88 := blk_frozen BK237.out 0
         have hns88_0 := NB180_237.out
         have hns88_1 := NB206_237.out
         have hms88_0 := NB237_180.out
         have hms88_1 := NB237_206.out
         have hs89 : w87.cell? ⟨gb237, 1, none⟩ = some (.string (⟨#[]⟩ : ByteArray)) := (blk_cell BK237.out 1).trans rfl
         have hfs89 := blk_frozen BK237.out 1
         have hns89_0 := NB180_237.out
         have hns89_1 := NB206_237.out
         have hms89_0 := NB237_180.out
         have hms89_1 := NB237_206.out
         have hs90 : w87.cell? ⟨gb237, 2, none⟩ = some (.string (⟨#[]⟩ : ByteArray)) := (blk_cell BK237.out 2).trans rfl
         have hfs90 := blk_frozen BK237.out 2
         have hns90_0 := NB180_237.out
         have hns90_1 := NB206_237.out
         have hms90_0 := NB237_180.out
         have hms90_1 := NB237_206.out
         have hs91 : w87.cell? ⟨gb237, 3, none⟩ = some (.string (⟨#[]⟩ : ByteArray)) := (blk_cell BK237.out 3).trans rfl
         have hfs91 := blk_frozen BK237.out 3
         have hns91_0 := NB180_237.out
         have hns91_1 := NB206_237.out
         have hms91_0 := NB237_180.out
         have hms91_1 := NB237_206.out
         have hs92 : w87.cell? ⟨gb237, 4, none⟩ = some (.bool false) := (blk_cell BK237.out 4).trans rfl
         have hfs92 := blk_frozen BK237.out 4
         have hns92_0 := NB180_237.out
         have hns92_1 := NB206_237.out
         have hms92_0 := NB237_180.out
         have hms92_1 := NB237_206.out
         have hs93 : w87.cell? ⟨gb237, 5, none⟩ = some (.int .i64 0) := (blk_cell BK237.out 5).trans rfl
         have hfs93 := blk_frozen BK237.out 5
         have hns93_0 := NB180_237.out
         have hns93_1 := NB206_237.out
         have hms93_0 := NB237_180.out
         have hms93_1 := NB237_206.out
         refine skip_ (w1 := ?_) (by rfl) rfl ?_ ?_
         rotate_left
         ·go_simp
          rfl
         refine hK.out _ _ trivial (fun hHeld => ?_)
         clear hK K
         refine pure_ (i := 20) (N := some 13) (v := ?_) (a' := ?_) #[true, true, true, true, true, true, true, true, true, true, true, true, true, true, true, true, true, true, true, true, true] rfl rfl (any_of HT_.out (by kernel_rfl)) (fun _ _ _ h => h) (Or.inl ⟨by rfl, ?_⟩) ?_ ?_
         rotate_left
         ·intro w'
          go_simp
          with_reducible rfl
         rotate_left
         ·simp only [Act.put, List.setIfInBounds_toArray, List.set_cons_zero, List.set_cons_succ, i64_w, i32_w]
          rfl
         refine done_ (done_of HT_.out (by kernel_rfl)) ?_
         have n0_ : Aside0 (Kd.R k32 32 ((((((w87.setCell ⟨gb237, 0, none⟩ (.string t230)).setCell ⟨gb237, 1, none⟩ (.string t231)).setCell ⟨gb237, 2, none⟩ (.string t232)).setCell ⟨gb237, 3, none⟩ (.string t233)).setCell ⟨gb237, 4, none⟩ (.bool t234)).setCell ⟨gb237, 5, none⟩ (.int .i64 t235)) w.heap.size (fun k_ => some k_ ≠ (.slice Ao67 y196.length co67 : Value).ownBlock ∧ some k_ ≠ (v218 : Value).ownBlock ∧ some k_ ≠ (v228 : Value).ownBlock) (.slice Ao66 y193.length co66) y193) := ⟨by (with_reducible repeat (first | apply Kd.R_alloc | apply Kd.R_drewN | apply Kd.R_drew)); exact Kd.R_mono (Kd.R_far (p := ⟨gb237, 5, none⟩) (Kd.R_far (p := ⟨gb237, 4, none⟩) (Kd.R_far (p := ⟨gb237, 3, none⟩) (Kd.R_far (p := ⟨gb237, 2, none⟩) (Kd.R_far (p := ⟨gb237, 1, none⟩) (Kd.R_far (p := ⟨gb237, 0, none⟩) (Kd.R_types HO195.out BK237.out (by decide)) (fun _ hk => hk.2) (.string t230)) (fun _ hk => hk.2) (.string t231)) (fun _ hk => hk.2) (.string t232)) (fun _ hk => hk.2) (.string t233)) (fun _ hk => hk.2) (.bool t234)) (fun _ hk => hk.2) (.int .i64 t235)) (fun _ hk => ⟨hk.1.1, ⟨hk.1.2.1, hk.1.2.2⟩⟩)⟩
         have n1_ : Aside0 (Kd.R k32 32 ((((((w87.setCell ⟨gb237, 0, none⟩ (.string t230)).setCell ⟨gb237, 1, none⟩ (.string t231)).setCell ⟨gb237, 2, none⟩ (.string t232)).setCell ⟨gb237, 3, none⟩ (.string t233)).setCell ⟨gb237, 4, none⟩ (.bool t234)).setCell ⟨gb237, 5, none⟩ (.int .i64 t235)) w.heap.size (fun k_ => some k_ ≠ (.slice Ao66 y193.length co66 : Value).ownBlock ∧ some k_ ≠ (v218 : Value).ownBlock ∧ some k_ ≠ (v228 : Value).ownBlock) (.slice Ao67 y196.length co67) y196) := ⟨by (with_reducible repeat (first | apply Kd.R_alloc | apply Kd.R_drewN | apply Kd.R_drew)); exact Kd.R_mono (Kd.R_far (p := ⟨gb237, 5, none⟩) (Kd.R_far (p := ⟨gb237, 4, none⟩) (Kd.R_far (p := ⟨gb237, 3, none⟩) (Kd.R_far (p := ⟨gb237, 2, none⟩) (Kd.R_far (p := ⟨gb237, 1, none⟩) (Kd.R_far (p := ⟨gb237, 0, none⟩) (Kd.R_types HO198.out BK237.out (by decide)) (fun _ hk => hk.2) (.string t230)) (fun _ hk => hk.2) (.string t231)) (fun _ hk => hk.2) (.string t232)) (fun _ hk => hk.2) (.string t233)) (fun _ hk => hk.2) (.bool t234)) (fun _ hk => hk.2) (.int .i64 t235)) (fun _ hk => ⟨hk.1.1, ⟨hk.1.2.1, hk.1.2.2⟩⟩)⟩
         have n2_ : Aside0 (Kd.R k32 32 ((((((w87.setCell ⟨gb237, 0, none⟩ (.string t230)).setCell ⟨gb237, 1, none⟩ (.string t231)).setCell ⟨gb237, 2, none⟩ (.string t232)).setCell ⟨gb237, 3, none⟩ (.string t233)).setCell ⟨gb237, 4, none⟩ (.bool t234)).setCell ⟨gb237, 5, none⟩ (.int .i64 t235)) w.heap.size (fun k_ => some k_ ≠ (.slice Ao66 y193.length co66 : Value).ownBlock ∧ some k_ ≠ (.slice Ao67 y196.length co67 : Value).ownBlock ∧ some k_ ≠ (v228 : Value).ownBlock) v218 y217) := ⟨by (with_reducible repeat (first | apply Kd.R_alloc | apply Kd.R_drewN | apply Kd.R_drew)); exact Kd.R_mono (Kd.R_far (p := ⟨gb237, 5, none⟩) (Kd.R_far (p := ⟨gb237, 4, none⟩) (Kd.R_far (p := ⟨gb237, 3, none⟩) (Kd.R_far (p := ⟨gb237, 2, none⟩) (Kd.R_far (p := ⟨gb237, 1, none⟩) (Kd.R_far (p := ⟨gb237, 0, none⟩) (Kd.R_types HO219.out BK237.out (by decide)) (fun _ hk => hk.2) (.string t230)) (fun _ hk => hk.2) (.string t231)) (fun _ hk => hk.2) (.string t232)) (fun _ hk => hk.2) (.string t233)) (fun _ hk => hk.2) (.bool t234)) (fun _ hk => hk.2) (.int .i64 t235)) (fun _ hk => ⟨hk.1.1, ⟨hk.1.2.1, hk.1.2.2⟩⟩)⟩
         have n3_ : Aside0 (Kd.R k32 32 ((((((w87.setCell ⟨gb237, 0, none⟩ (.string t230)).setCell ⟨gb237, 1, none⟩ (.string t231)).setCell ⟨gb237, 2, none⟩ (.string t232)).setCell ⟨gb237, 3, none⟩ (.string t233)).setCell ⟨gb237, 4, none⟩ (.bool t234)).setCell ⟨gb237, 5, none⟩ (.int .i64 t235)) w.heap.size (fun k_ => some k_ ≠ (.slice Ao66 y193.length co66 : Value).ownBlock ∧ some k_ ≠ (.slice Ao67 y196.length co67 : Value).ownBlock ∧ some k_ ≠ (v218 : Value).ownBlock) v228 y227) := ⟨by (with_reducible repeat (first | apply Kd.R_alloc | apply Kd.R_drewN | apply Kd.R_drew)); exact Kd.R_mono (Kd.R_far (p := ⟨gb237, 5, none⟩) (Kd.R_far (p := ⟨gb237, 4, none⟩) (Kd.R_far (p := ⟨gb237, 3, none⟩) (Kd.R_far (p := ⟨gb237, 2, none⟩) (Kd.R_far (p := ⟨gb237, 1, none⟩) (Kd.R_far (p := ⟨gb237, 0, none⟩) (Kd.R_types HO229.out BK237.out (by decide)) (fun _ hk => hk.2) (.string t230)) (fun _ hk => hk.2) (.string t231)) (fun _ hk => hk.2) (.string t232)) (fun _ hk => hk.2) (.string t233)) (fun _ hk => hk.2) (.bool t234)) (fun _ hk => hk.2) (.int .i64 t235)) (fun _ hk => ⟨hk.1.1, ⟨hk.1.2.1, hk.1.2.2⟩⟩)⟩
         have n4_ : Aside0 (((((((w87.setCell ⟨gb237, 0, none⟩ (.string t230)).setCell ⟨gb237, 1, none⟩ (.string t231)).setCell ⟨gb237, 2, none⟩ (.string t232)).setCell ⟨gb237, 3, none⟩ (.string t233)).setCell ⟨gb237, 4, none⟩ (.bool t234)).setCell ⟨gb237, 5, none⟩ (.int .i64 t235)).heap[gb180]? = some (.cells #[.string t173, .string t174, .string t175, .string t176, .bool t177, .int .i64 t178] 26 (0, 0))) := ⟨by (with_reducible repeat (first | refine blk_drewN ?_ _ | refine blk_drew ?_ | refine blk_alloc ?_ _)); refine blk_far ?_ NB180_237.out _; (with_reducible repeat (first | refine blk_drewN ?_ _ | refine blk_drew ?_ | refine blk_alloc ?_ _)); refine blk_far ?_ NB180_237.out _; (with_reducible repeat (first | refine blk_drewN ?_ _ | refine blk_drew ?_ | refine blk_alloc ?_ _)); refine blk_far ?_ NB180_237.out _; (with_reducible repeat (first | refine blk_drewN ?_ _ | refine blk_drew ?_ | refine blk_alloc ?_ _)); refine blk_far ?_ NB180_237.out _; (with_reducible repeat (first | refine blk_drewN ?_ _ | refine blk_drew ?_ | refine blk_alloc ?_ _)); refine blk_far ?_ NB180_237.out _; (with_reducible repeat (first | refine blk_drewN ?_ _ | refine blk_drew ?_ | refine blk_alloc ?_ _)); refine blk_far ?_ NB180_237.out _; (with_reducible repeat (first | refine blk_drewN ?_ _ | refine blk_drew ?_ | refine blk_alloc ?_ _)); exact BK180.out⟩
         have n5_ : Aside0 (((((((w87.setCell ⟨gb237, 0, none⟩ (.string t230)).setCell ⟨gb237, 1, none⟩ (.string t231)).setCell ⟨gb237, 2, none⟩ (.string t232)).setCell ⟨gb237, 3, none⟩ (.string t233)).setCell ⟨gb237, 4, none⟩ (.bool t234)).setCell ⟨gb237, 5, none⟩ (.int .i64 t235)).heap[gb206]? = some (.cells #[.string t199, .string t200, .string t201, .string t202, .bool t203, .int .i64 t204] 26 (0, 0))) := ⟨by (with_reducible repeat (first | refine blk_drewN ?_ _ | refine blk_drew ?_ | refine blk_alloc ?_ _)); refine blk_far ?_ NB206_237.out _; (with_reducible repeat (first | refine blk_drewN ?_ _ | refine blk_drew ?_ | refine blk_alloc ?_ _)); refine blk_far ?_ NB206_237.out _; (with_reducible repeat (first | refine blk_drewN ?_ _ | refine blk_drew ?_ | refine blk_alloc ?_ _)); refine blk_far ?_ NB206_237.out _; (with_reducible repeat (first | refine blk_drewN ?_ _ | refine blk_drew ?_ | refine blk_alloc ?_ _)); refine blk_far ?_ NB206_237.out _; (with_reducible repeat (first | refine blk_drewN ?_ _ | refine blk_drew ?_ | refine blk_alloc ?_ _)); refine blk_far ?_ NB206_237.out _; (with_reducible repeat (first | refine blk_drewN ?_ _ | refine blk_drew ?_ | refine blk_alloc ?_ _)); refine blk_far ?_ NB206_237.out _; (with_reducible repeat (first | refine blk_drewN ?_ _ | refine blk_drew ?_ | refine blk_alloc ?_ _)); exact BK206.out⟩
         have n6_ : Aside0 (((((((w87.setCell ⟨gb237, 0, none⟩ (.string t230)).setCell ⟨gb237, 1, none⟩ (.string t231)).setCell ⟨gb237, 2, none⟩ (.string t232)).setCell ⟨gb237, 3, none⟩ (.string t233)).setCell ⟨gb237, 4, none⟩ (.bool t234)).setCell ⟨gb237, 5, none⟩ (.int .i64 t235)).heap[gb237]? = some (.cells #[.string t230, .string t231, .string t232, .string t233, .bool t234, .int .i64 t235] 26 (0, 0))) := ⟨by (with_reducible repeat (first | refine blk_drewN ?_ _ | refine blk_drew ?_ | refine blk_alloc ?_ _)); refine blk_put (cs := #[.string t230, .string t231, .string t232, .string t233, .bool t234, .int .i64 0]) ?_ 5 _ rfl; (with_reducible repeat (first | refine blk_drewN ?_ _ | refine blk_drew ?_ | refine blk_alloc ?_ _)); refine blk_put (cs := #[.string t230, .string t231, .string t232, .string t233, .bool false, .int .i64 0]) ?_ 4 _ rfl; (with_reducible repeat (first | refine blk_drewN ?_ _ | refine blk_drew ?_ | refine blk_alloc ?_ _)); refine blk_put (cs := #[.string t230, .string t231, .string t232, .string (⟨#[]⟩ : ByteArray), .bool false, .int .i64 0]) ?_ 3 _ rfl; (with_reducible repeat (first | refine blk_drewN ?_ _ | refine blk_drew ?_ | refine blk_alloc ?_ _)); refine blk_put (cs := #[.string t230, .string t231, .string (⟨#[]⟩ : ByteArray), .string (⟨#[]⟩ : ByteArray), .bool false, .int .i64 0]) ?_ 2 _ rfl; (with_reducible repeat (first | refine blk_drewN ?_ _ | refine blk_drew ?_ | refine blk_alloc ?_ _)); refine blk_put (cs := #[.string t230, .string (⟨#[]⟩ : ByteArray), .string (⟨#[]⟩ : ByteArray), .string (⟨#[]⟩ : ByteArray), .bool false, .int .i64 0]) ?_ 1 _ rfl; (with_reducible repeat (first | refine blk_drewN ?_ _ | refine blk_drew ?_ | refine blk_alloc ?_ _)); refine blk_put (cs := #[.string (⟨#[]⟩ : ByteArray), .string (⟨#[]⟩ : ByteArray), .string (⟨#[]⟩ : ByteArray), .string (⟨#[]⟩ : ByteArray), .bool false, .int .i64 0]) ?_ 0 _ rfl; (with_reducible repeat (first | refine blk_drewN ?_ _ | refine blk_drew ?_ | refine blk_alloc ?_ _)); exact BK237.out⟩
         have n7_ : Aside0 (Below w.heap.size w ((((((w87.setCell ⟨gb237, 0, none⟩ (.string t230)).setCell ⟨gb237, 1, none⟩ (.string t231)).setCell ⟨gb237, 2, none⟩ (.string t232)).setCell ⟨gb237, 3, none⟩ (.string t233)).setCell ⟨gb237, 4, none⟩ (.bool t234)).setCell ⟨gb237, 5, none⟩ (.int .i64 t235))) := ⟨upB HB⟩
         (try clear HO195); (try clear HO198); (try clear HO219); (try clear HO229); (try clear BK180); (try clear BK206); (try clear BK237); (try clear HB)
         generalize ((((((w87.setCell ⟨gb237, 0, none⟩ (.string t230)).setCell ⟨gb237, 1, none⟩ (.string t231)).setCell ⟨gb237, 2, none⟩ (.string t232)).setCell ⟨gb237, 3, none⟩ (.string t233)).setCell ⟨gb237, 4, none⟩ (.bool t234)).setCell ⟨gb237, 5, none⟩ (.int .i64 t235)) = w94 at n0_ n1_ n2_ n3_ n4_ n5_ n6_ n7_ ⊢
         have HO195 := n0_; have HO198 := n1_; have HO219 := n2_; have HO229 := n3_; have BK180 := n4_; have BK206 := n5_; have BK237 := n6_; have HB := n7_; clear n0_ n1_ n2_ n3_ n4_ n5_ n6_ n7_
         have q95 : (x9_38 : Int) ≤ ((l0.length : Int) : Int) := of_decide_eq_true (by first | (with_reducible assumption) | assumption)
         obtain ⟨i095, hi095, _, hsz95, _⟩ := info_parts info32
         have hroom95 : l0.length ≤ c0 := HC0.out
         have hC95 : Kd.C k32 _ A0 l0.length l0 := HR0.out
         have hcut95 := cut_to (P := Tryd.prog) 22 32 .i64 Tryd.underlying22 hi095 A0 l0.length c0 x9_38 (of_decide_eq_true (by first | (with_reducible assumption) | assumption)) q95 hroom95
         have hr95 := Kd.C_take (m := (x9_38 : Int).toNat) hC95 (by omega)
         have hy95 : y238.length = (x9_38 : Int).toNat := (by rw [Ny238.out, List.length_take]; omega)
         rw [← Ny238.out] at hr95
         rw [← hy95] at hcut95
         have HR241 := Aside0.mk hr95
         have HC241 := Aside0.mk (show y238.length ≤ c0 from by omega)
         clear hr95 hC95 hroom95 hi095 hsz95
         have KY95 := Aside0.mk hy95
         clear hy95
         replace q95 := eq_true q95
         (try clear hcut74)
         go_wp2_with (first | ((with_reducible refine gate_builtin (b := .append) (xs := #[.tmp 115, .tmp 118]) rfl ?_); (try (refine gate_guard (by rfl) ?_; dsimp only)); at_builtin; (refine Kd.R_append_rows k32 (w0 := w) w.heap.size rfl (.tmp 115) (.tmp 118) 22 32 (.agg #[(.string ⟨#[]⟩), (.string ⟨#[]⟩), (.bool false)]) 40 rfl Tryd.underlying22 info32 rfl (by decide) (by omega) (.slice none 0 0) ([] : List (S32)) y238 _ _ _ (fun k_ => some k_ ≠ (.slice Ao66 y193.length co66 : Value).ownBlock ∧ some k_ ≠ (.slice Ao67 y196.length co67 : Value).ownBlock ∧ some k_ ≠ (v218 : Value).ownBlock ∧ some k_ ≠ (v228 : Value).ownBlock) (fun _ => False) rfl rfl ?aO ?aR (fun _ _ h => h) (fun _ h => h.elim) ?aF ?aB ?aS ?aL ?_; (case aR => repeat (first | exact (Kd.C_below HR241.out HB.out) | (with_reducible refine Kd.C_alloc ?_ _) | (with_reducible refine Kd.C_drewN ?_ _) | (with_reducible refine Kd.C_drew ?_))); (case aB => exact (upB HB)); (case aF => exact (fun k_ hk => ⟨Kd.fresh' (Kd.R_lt (upR HO195)) k_ hk, Kd.fresh' (Kd.R_lt (upR HO198)) k_ hk, Kd.fresh' (Kd.R_lt (upR HO219)) k_ hk, Kd.fresh' (Kd.R_lt (upR HO229)) k_ hk⟩)); (case aO => exact ((Kd.R_nil _ _ _ _ (fun k_ => some k_ ≠ (.slice Ao66 y193.length co66 : Value).ownBlock ∧ some k_ ≠ (.slice Ao67 y196.length co67 : Value).ownBlock ∧ some k_ ≠ (v218 : Value).ownBlock ∧ some k_ ≠ (v228 : Value).ownBlock)))); (case aS => exact (below_size (upB HB))); (case aL => have := LMc59.out; omega); intro v243 w96 ho hb hg hat; rw [← Ny242.out] at ho; have n0_ := Aside0.mk (blk_grown (g := gb180) (o := .cells #[.string t173, .string t174, .string t175, .string t176, .bool t177, .int .i64 t178] 26 (0, 0)) (upK BK180) hg (by simp [Value.ownBlock])); have n1_ := Aside0.mk (Kd.R_after (Kd.R_apart_nil (upR HO195)) hg hat); have n2_ := Aside0.mk (Kd.R_after (Kd.R_apart_nil (upR HO198)) hg hat); have n3_ := Aside0.mk (blk_grown (g := gb206) (o := .cells #[.string t199, .string t200, .string t201, .string t202, .bool t203, .int .i64 t204] 26 (0, 0)) (upK BK206) hg (by simp [Value.ownBlock])); have n4_ := Aside0.mk (Kd.R_after (Kd.R_apart_nil (upR HO219)) hg hat); have n5_ := Aside0.mk (Kd.R_after (Kd.R_apart_nil (upR HO229)) hg hat); have n6_ := Aside0.mk (blk_grown (g := gb237) (o := .cells #[.string t230, .string t231, .string t232, .string t233, .bool t234, .int .i64 t235] 26 (0, 0)) (upK BK237) hg (by simp [Value.ownBlock])); have n7_ := Aside0.mk (hb); have n8_ := Aside0.mk (ho); clear BK180; clear HO195; clear HO198; clear BK206; clear HO219; clear HO229; clear BK237; clear HB; have BK180 := n0_; have HO195 := n1_; have HO198 := n2_; have BK206 := n3_; have HO219 := n4_; have HO229 := n5_; have BK237 := n6_; have HB := n7_; have HO244 := n8_; clear n0_ n1_ n2_ n3_ n4_ n5_ n6_ n7_ n8_; clear ho hb hg hat)))
         skip
         go_loopg [14, 15] kj38 (fun kq v14 v15 w' => ∃ (x14_4 : List (S32)) (x15_4 : Int), v15 = .int .i64 x15_4 ∧ Aside0 (nunciolaw20_HeadOther.l1 kq l0 x9_38 t205 t236 x14_4 x15_4 t173 t174 t175 t176 t177 t178 t199 t200 t201 t202 t203 t204 t230 t231 t232 t233 t234 t235 = some r) ∧ Aside0 (kq ≤ kj38) ∧ Aside0 (Kd.R k32 32 w' w.heap.size (fun _ => True) v14 x14_4) ∧ Aside0 (w'.heap[gb180]? = some (.cells #[.string t173, .string t174, .string t175, .string t176, .bool t177, .int .i64 t178] 26 (0, 0))) ∧ Aside0 (w'.heap[gb206]? = some (.cells #[.string t199, .string t200, .string t201, .string t202, .bool t203, .int .i64 t204] 26 (0, 0))) ∧ Aside0 (w'.heap[gb237]? = some (.cells #[.string t230, .string t231, .string t232, .string t233, .bool t234, .int .i64 t235] 26 (0, 0))) ∧ Aside0 (Below w.heap.size w w'))
         case atStart => exact ⟨(y242), (wrap64 ((l0.length : Int) - 1)), (by first | rfl | (simp; done) | (simp [*]; done)), H', ⟨Nat.le_refl _⟩, ⟨by (with_reducible repeat (first | apply Kd.R_alloc | apply Kd.R_drewN | apply Kd.R_drew)); exact Kd.R_mono HO244.out (fun _ hk => trivial)⟩, ⟨upK BK180⟩, ⟨upK BK206⟩, ⟨upK BK237⟩, ⟨upB HB⟩⟩
         case round =>
          clear H'
          try clear p2; try clear c5; try clear p6; try clear c8; try clear q9; try clear c55; try clear c59; try clear p64; try clear q95; try clear q95
          obtain ⟨x14_4, x15_4, rfl, HA, HK4, HO_14, BK180, BK206, BK237, HB⟩ := hrel
          cases gk with
          | zero => exact absurd HA.out (by simp [nunciolaw20_HeadOther.l1])
          | succ k4 =>
           have H := HA.out
           clear HA
           simp only [nunciolaw20_HeadOther.l1] at H
           by_cases c97 : x15_4 ≥ x9_38
           ·rw [if_pos c97] at H
            have c97b0 : decide (x9_38 ≤ x15_4) = true := decide_eq_true c97
            clear c97
            by_cases c98 : 0 ≤ x15_4
            ·rw [if_pos c98] at H
             have c98b0 : decide (0 ≤ x15_4) = true := decide_eq_true c98
             clear c98
             by_cases c99 : x15_4 < (l0.length : Int)
             ·rw [if_pos c99] at H
              have c99b0 : decide (x15_4 < (l0.length : Int)) = true := decide_eq_true c99
              clear c99
              obtain ⟨y246, hy246⟩ : ∃ y_ : List (S32), y_ = (([(⟨(rd_T32 l0 x15_4).f0, (rd_T32 l0 x15_4).f1, (rd_T32 l0 x15_4).f2⟩ : S32)] : List (S32))) := ⟨_, rfl⟩
              replace H : (if x14_4.length + y246.length < 3518437208883 then (nunciolaw20_HeadOther.l1 k4 l0 x9_38 t205 t236 (x14_4 ++ y246) (wrap64 (x15_4 - 1)) t173 t174 t175 t176 t177 t178 t199 t200 t201 t202 t203 t204 t230 t231 t232 t233 t234 t235) else (none)) = some r := by first | (rw [hy246]; with_reducible exact H) | (have H2_ := (Option.bind_some _ _).symm.trans H; rw [hy246]; with_reducible exact H2_) | (have H2_ := (Option.bind_some _ _).symm.trans H; with_reducible exact H2_) | with_reducible exact H | (rw [hy246]; exact H) | exact H
              have Ny246 := Aside0.mk hy246
              clear hy246
              by_cases c100 : x14_4.length + y246.length < 3518437208883
              ·rw [if_pos c100] at H
               have LMc100 := Aside0.mk c100
               clear c100
               obtain ⟨y249, hy249⟩ : ∃ y_ : List (S32), y_ = (x14_4 ++ y246) := ⟨_, rfl⟩
               replace H : (nunciolaw20_HeadOther.l1 k4 l0 x9_38 t205 t236 y249 (wrap64 (x15_4 - 1)) t173 t174 t175 t176 t177 t178 t199 t200 t201 t202 t203 t204 t230 t231 t232 t233 t234 t235) = some r := by first | (rw [hy249]; with_reducible exact H) | (have H2_ := (Option.bind_some _ _).symm.trans H; rw [hy249]; with_reducible exact H2_) | (have H2_ := (Option.bind_some _ _).symm.trans H; with_reducible exact H2_) | with_reducible exact H | (rw [hy249]; exact H) | exact H
               have Ny249 := Aside0.mk hy249
               clear hy249
               have H' := Aside0.mk H
               clear H
               have p245 : 0 ≤ (x15_4 : Int) := of_decide_eq_true (by first | (with_reducible assumption) | assumption)
               have q245 : x15_4 < (l0.length : Int) := of_decide_eq_true (by first | (with_reducible assumption) | assumption)
               obtain ⟨ad245, e245, hx245_0, hx245_1, hx245_2⟩ := at_T32 HR0.out x15_4 p245 q245
               cases e245
               replace hx245_0 := (HB.out.cell (World.block_lt_of_cell? w _ hx245_0)).trans hx245_0
               replace hx245_1 := (HB.out.cell (World.block_lt_of_cell? w _ hx245_1)).trans hx245_1
               replace hx245_2 := (HB.out.cell (World.block_lt_of_cell? w _ hx245_2)).trans hx245_2
               replace p245 := eq_true p245
               replace q245 := eq_true q245
               go_wp2_with (first | ((with_reducible refine gate_dst (N := 133) rfl ?_); (try (refine gate_guard (by rfl) ?_; dsimp only)); refine Kd.R_lit k32 _ 32 ?hg (N := 133) ?hd (xs := ([(⟨(rd_T32 l0 x15_4).f0, (rd_T32 l0 x15_4).f1, (rd_T32 l0 x15_4).f2⟩ : S32)] : List (S32))) (inner := [.string ((rd_T32 l0 x15_4).f0), .string ((rd_T32 l0 x15_4).f1), .bool ((rd_T32 l0 x15_4).f2)]) (ok := fun _ => True) (okp := fun _ => True) ?hr ?hp (fun _ hk => hk) trivial (Below.refl _ _) (Nat.le_refl _) (by simp) ?_; (case hd => rfl); (case hg => rfl); (case hr => first | (go_simp; done) | (go_simp; rfl)); (case hp => exact (Reps.c3 (show Kd.M k32 _ _ _ (⟨(rd_T32 l0 x15_4).f0, (rd_T32 l0 x15_4).f1, (rd_T32 l0 x15_4).f2⟩ : S32) [.string ((rd_T32 l0 x15_4).f0), .string ((rd_T32 l0 x15_4).f1), .bool ((rd_T32 l0 x15_4).f2)] from (k32_mkM _ _ _ (⟨(rd_T32 l0 x15_4).f0, (rd_T32 l0 x15_4).f1, (rd_T32 l0 x15_4).f2⟩ : S32) )) (Reps.none _ _))); intro v247 w101 ho102 hb hg_ hnew_; clear hg_ hnew_; (first | rw [← Ny246.out] at ho102 | (simp only [Int.reduceToNat] at ho102; rw [← Ny246.out] at ho102)); have n0_ := Aside0.mk (Kd.R_elder' (upR HO_14) (Kd.R_base ho102) hb); have n1_ := Aside0.mk (Kd.R_lower (Kd.R_new' ho102 (Kd.R_lt (upR HO_14))) (below_size (upB HB))); have n2_ := Aside0.mk (blk_below (g := gb180) (o := .cells #[.string t173, .string t174, .string t175, .string t176, .bool t177, .int .i64 t178] 26 (0, 0)) (upK BK180) hb); have n3_ := Aside0.mk (blk_below (g := gb206) (o := .cells #[.string t199, .string t200, .string t201, .string t202, .bool t203, .int .i64 t204] 26 (0, 0)) (upK BK206) hb); have n4_ := Aside0.mk (blk_below (g := gb237) (o := .cells #[.string t230, .string t231, .string t232, .string t233, .bool t234, .int .i64 t235] 26 (0, 0)) (upK BK237) hb); have n5_ := Aside0.mk (below_step (upB HB) hb); clear HO_14; clear BK180; clear BK206; clear BK237; clear HB; have HO_14 := n0_; have HO248 := n1_; have BK180 := n2_; have BK206 := n3_; have BK237 := n4_; have HB := n5_; clear n0_ n1_ n2_ n3_ n4_ n5_; clear hb ho102; obtain ⟨Ao104, co104, eo104⟩ := Kd.R_slice HO248.out; subst eo104) | ((with_reducible refine gate_builtin (b := .append) (xs := #[.tmp 128, .tmp 133]) rfl ?_); (try (refine gate_guard (by rfl) ?_; dsimp only)); at_builtin; refine Kd.R_append_rows k32 (w0 := w) w.heap.size rfl (.tmp 128) (.tmp 133) 22 32 (.agg #[(.string ⟨#[]⟩), (.string ⟨#[]⟩), (.bool false)]) 40 rfl Tryd.underlying22 info32 rfl (by decide) (by omega) u14 x14_4 y246 _ _ _ (fun k_ => some k_ ≠ (.slice Ao104 y246.length co104 : Value).ownBlock) (fun _ => False) rfl rfl ?aO ?aR (fun _ _ h => h) (fun _ h => h.elim) ?aF ?aB ?aS ?aL ?_; (case aR => repeat (first | exact (Kd.R_reads' HO248.out).2.2 | (with_reducible refine Kd.C_alloc ?_ _) | (with_reducible refine Kd.C_drewN ?_ _) | (with_reducible refine Kd.C_drew ?_))); (case aB => exact (upB HB)); (case aF => exact (fun k_ hk => Kd.fresh' (Kd.R_lt (upR HO248)) k_ hk)); (case aO => exact (by (with_reducible repeat (first | apply Kd.R_alloc | apply Kd.R_drewN | apply Kd.R_drew)); exact Kd.R_mono HO_14.out (fun _ hk => hk.2))); (case aS => exact (below_size (upB HB))); (case aL => have := LMc100.out; omega); intro v250 w103 ho hb hg hat; rw [← Ny249.out] at ho; have n0_ := Aside0.mk (blk_grown (g := gb180) (o := .cells #[.string t173, .string t174, .string t175, .string t176, .bool t177, .int .i64 t178] 26 (0, 0)) (upK BK180) hg (Kd.R_ne HO_14.out BK180.out (by decide))); have n1_ := Aside0.mk (blk_grown (g := gb206) (o := .cells #[.string t199, .string t200, .string t201, .string t202, .bool t203, .int .i64 t204] 26 (0, 0)) (upK BK206) hg (Kd.R_ne HO_14.out BK206.out (by decide))); have n2_ := Aside0.mk (blk_grown (g := gb237) (o := .cells #[.string t230, .string t231, .string t232, .string t233, .bool t234, .int .i64 t235] 26 (0, 0)) (upK BK237) hg (Kd.R_ne HO_14.out BK237.out (by decide))); have n3_ := Aside0.mk (Kd.R_after (ok := (fun _ => True)) (upR HO248) hg hat); have n4_ := Aside0.mk (hb); have n5_ := Aside0.mk (ho); clear BK180; clear BK206; clear BK237; clear HO248; clear HB; clear HO_14; have BK180 := n0_; have BK206 := n1_; have BK237 := n2_; have HO248 := n3_; have HB := n4_; have HO251 := n5_; clear n0_ n1_ n2_ n3_ n4_ n5_; clear ho hb hg hat))
               go_roundg k4
               case measure => have := HJ5.out; have := HJ17.out; have := HJ38.out; have := HK4.out; omega
               case rel => exact ⟨(y249), (wrap64 (x15_4 - 1)), (by first | rfl | (simp; done) | (simp [*]; done)), H', ⟨by have := HJ5.out; have := HJ17.out; have := HJ38.out; have := HK4.out; omega⟩, ⟨by (with_reducible repeat (first | apply Kd.R_alloc | apply Kd.R_drewN | apply Kd.R_drew)); exact Kd.R_mono HO251.out (fun _ hk => trivial)⟩, ⟨upK BK180⟩, ⟨upK BK206⟩, ⟨upK BK237⟩, ⟨upB HB⟩⟩
              ·rw [if_neg c100] at H
               exact absurd H (by simp)
             ·rw [if_neg c99] at H
              exact absurd H (by simp)
            ·rw [if_neg c98] at H
             exact absurd H (by simp)
           ·rw [if_neg c97] at H
            have c97b0 : decide (x9_38 ≤ x15_4) = false := decide_eq_false c97
            clear c97
            replace H := Option.bind_eq_some_iff.mp H
            obtain ⟨⟨t252, t253, t254, t255, t256, t257, t258⟩, A1050, H⟩ := H
            replace H : (if (t199.toList == t173.toList && (t200.toList == t174.toList && (t201.toList == t175.toList && (t202.toList == t176.toList && (t203 == t177 && (t204 == t178)))))) = true then (if (t230.toList == t173.toList && (t231.toList == t174.toList && (t232.toList == t175.toList && (t233.toList == t176.toList && (t234 == t177 && (t235 == t178)))))) = true then (if (t252.toList == t173.toList && (t253.toList == t174.toList && (t254.toList == t175.toList && (t255.toList == t176.toList && (t256 == t177 && (t257 == t178)))))) = true then (if t205 = 0 then (if t236 = 0 then (some (t258 == 0)) else (none)) else (none)) else (none)) else (none)) else (none)) = some r := H
            have A105 := Aside0.mk A1050
            clear A1050
            by_cases c106 : (t199.toList == t173.toList && (t200.toList == t174.toList && (t201.toList == t175.toList && (t202.toList == t176.toList && (t203 == t177 && (t204 == t178)))))) = true
            ·rw [if_pos c106] at H
             have c106b0 : (t199.toList == t173.toList && (t200.toList == t174.toList && (t201.toList == t175.toList && (t202.toList == t176.toList && (t203 == t177 && (t204 == t178)))))) = true := c106
             (try (have c106b1 : decide (t199.toList = t173.toList && (t200.toList == t174.toList && (t201.toList == t175.toList && (t202.toList == t176.toList && (t203 == t177 && (t204 == t178)))))) = true := by simpa using c106))
             (try (have c106b2 : (t199.toList == t173.toList && (t200.toList == t174.toList && (t201.toList == t175.toList && (t202.toList == t176.toList && (t203 == t177 && (t204 == t178)))))) = true := by simpa using c106))
             clear c106
             by_cases c107 : (t230.toList == t173.toList && (t231.toList == t174.toList && (t232.toList == t175.toList && (t233.toList == t176.toList && (t234 == t177 && (t235 == t178)))))) = true
             ·rw [if_pos c107] at H
              have c107b0 : (t230.toList == t173.toList && (t231.toList == t174.toList && (t232.toList == t175.toList && (t233.toList == t176.toList && (t234 == t177 && (t235 == t178)))))) = true := c107
              (try (have c107b1 : decide (t230.toList = t173.toList && (t231.toList == t174.toList && (t232.toList == t175.toList && (t233.toList == t176.toList && (t234 == t177 && (t235 == t178)))))) = true := by simpa using c107))
              (try (have c107b2 : (t230.toList == t173.toList && (t231.toList == t174.toList && (t232.toList == t175.toList && (t233.toList == t176.toList && (t234 == t177 && (t235 == t178)))))) = true := by simpa using c107))
              clear c107
              by_cases c108 : (t252.toList == t173.toList && (t253.toList == t174.toList && (t254.toList == t175.toList && (t255.toList == t176.toList && (t256 == t177 && (t257 == t178)))))) = true
              ·rw [if_pos c108] at H
               have c108b0 : (t252.toList == t173.toList && (t253.toList == t174.toList && (t254.toList == t175.toList && (t255.toList == t176.toList && (t256 == t177 && (t257 == t178)))))) = true := c108
               (try (have c108b1 : decide (t252.toList = t173.toList && (t253.toList == t174.toList && (t254.toList == t175.toList && (t255.toList == t176.toList && (t256 == t177 && (t257 == t178)))))) = true := by simpa using c108))
               (try (have c108b2 : (t252.toList == t173.toList && (t253.toList == t174.toList && (t254.toList == t175.toList && (t255.toList == t176.toList && (t256 == t177 && (t257 == t178)))))) = true := by simpa using c108))
               clear c108
               by_cases c109 : t205 = 0
               ·rw [if_pos c109] at H
                have c109b0 : (t205 == 0) = true := beq_iff_eq.mpr c109
                have c109b1 : (t205 != 0) = false := bne_eq_false_iff_eq.mpr c109
                clear c109
                by_cases c110 : t236 = 0
                ·rw [if_pos c110] at H
                 have c110b0 : (t236 == 0) = true := beq_iff_eq.mpr c110
                 have c110b1 : (t236 != 0) = false := bne_eq_false_iff_eq.mpr c110
                 clear c110
                 obtain rfl := Option.some.inj H
                 obtain ⟨Ao111, co111, eo111⟩ := Kd.R_slice HO_14.out
                 subst eo111
                 go_wp2_with (first | ((with_reducible refine gate_callee (f := 8) rfl ?_); refine goesL_ (some 137) rfl rfl Tryd.func8 (by kernel_rfl) rfl #[.slice Ao111 x14_4.length co111] rfl (by (try simp only [List.map_toArray, List.map_cons, List.map_nil]); first | done | rfl | (simp only [List.length_drop, List.length_take]; rfl)) ?_; (with_reducible refine (head_Request.calls _ _ x14_4 t252 t253 t254 t255 t256 t257 t258 _ ?side1 ?side2 A105.out).mono ?_); (case side1 => repeat (first | exact (Kd.R_reads' HO_14.out).2.2 | (with_reducible refine Kd.C_alloc ?_ _) | (with_reducible refine Kd.C_drewN ?_ _) | (with_reducible refine Kd.C_drew ?_))); (case side2 => exact (Kd.R_reads' HO_14.out).2.1); rintro e w112 ⟨rfl, hb⟩; refine ⟨_, rfl, ?_⟩; have n0_ := Aside0.mk (Kd.R_below (upR HO_14) hb); have n1_ := Aside0.mk (blk_below (g := gb180) (o := .cells #[.string t173, .string t174, .string t175, .string t176, .bool t177, .int .i64 t178] 26 (0, 0)) (upK BK180) hb); have n2_ := Aside0.mk (blk_below (g := gb206) (o := .cells #[.string t199, .string t200, .string t201, .string t202, .bool t203, .int .i64 t204] 26 (0, 0)) (upK BK206) hb); have n3_ := Aside0.mk (blk_below (g := gb237) (o := .cells #[.string t230, .string t231, .string t232, .string t233, .bool t234, .int .i64 t235] 26 (0, 0)) (upK BK237) hb); have n4_ := Aside0.mk (below_step (upB HB) hb); clear HO_14; clear BK180; clear BK206; clear BK237; clear HB; have HO_14 := n0_; have BK180 := n1_; have BK206 := n2_; have BK237 := n3_; have HB := n4_; clear n0_ n1_ n2_ n3_ n4_; (try clear hb); (try clear hb2); (try clear hk); (try clear hi)) | ((with_reducible refine gate_dst (N := 16) rfl ?_); (try (refine gate_guard (by rfl) ?_; dsimp only)); refine box_event ?hg (N := 16) ?hd (cs := #[.string (⟨#[]⟩ : ByteArray), .string (⟨#[]⟩ : ByteArray), .string (⟨#[]⟩ : ByteArray), .string (⟨#[]⟩ : ByteArray), .bool false, .int .i64 0]) (t := 26) ?hr ?_; (case hd => rfl); (case hg => rfl); (case hr => first | (go_simp; done) | (go_simp; rfl)); intro gb259 hg w113 hbox hb; have n0_ := Aside0.mk (Kd.R_below (upR HO_14) hb); have n1_ := Aside0.mk (blk_below (g := gb180) (o := .cells #[.string t173, .string t174, .string t175, .string t176, .bool t177, .int .i64 t178] 26 (0, 0)) (upK BK180) hb); have n2_ := Aside0.mk (blk_below (g := gb206) (o := .cells #[.string t199, .string t200, .string t201, .string t202, .bool t203, .int .i64 t204] 26 (0, 0)) (upK BK206) hb); have n3_ := Aside0.mk (blk_below (g := gb237) (o := .cells #[.string t230, .string t231, .string t232, .string t233, .bool t234, .int .i64 t235] 26 (0, 0)) (upK BK237) hb); have n4_ := Aside0.mk (below_step (upB HB) hb); have n5_ := Aside0.mk (hbox); have n6_ := Aside0.mk ((by rw [hg]; exact (below_size (upB HB)) : w.heap.size ≤ gb259)); have n7_ := Aside0.mk ((by rw [hg]; exact (below_size (upB HB)) : w.heap.size ≤ gb259)); have n8_ := Aside0.mk ((by rw [hg]; exact Nat.ne_of_lt (blk_lt (g := gb180) (o := .cells #[.string t173, .string t174, .string t175, .string t176, .bool t177, .int .i64 t178] 26 (0, 0)) (upK BK180)) : gb180 ≠ gb259)); have n9_ := Aside0.mk ((by rw [hg]; exact Nat.ne_of_gt (blk_lt (g := gb180) (o := .cells #[.string t173, .string t174, .string t175, .string t176, .bool t177, .int .i64 t178] 26 (0, 0)) (upK BK180)) : gb259 ≠ gb180)); have n10_ := Aside0.mk ((by rw [hg]; exact Nat.ne_of_lt (blk_lt (g := gb206) (o := .cells #[.string t199, .string t200, .string t201, .string t202, .bool t203, .int .i64 t204] 26 (0, 0)) (upK BK206)) : gb206 ≠ gb259)); have n11_ := Aside0.mk ((by rw [hg]; exact Nat.ne_of_gt (blk_lt (g := gb206) (o := .cells #[.string t199, .string t200, .string t201, .string t202, .bool t203, .int .i64 t204] 26 (0, 0)) (upK BK206)) : gb259 ≠ gb206)); have n12_ := Aside0.mk ((by rw [hg]; exact Nat.ne_of_lt (blk_lt (g := gb237) (o := .cells #[.string t230, .string t231, .string t232, .string t233, .bool t234, .int .i64 t235] 26 (0, 0)) (upK BK237)) : gb237 ≠ gb259)); have n13_ := Aside0.mk ((by rw [hg]; exact Nat.ne_of_gt (blk_lt (g := gb237) (o := .cells #[.string t230, .string t231, .string t232, .string t233, .bool t234, .int .i64 t235] 26 (0, 0)) (upK BK237)) : gb259 ≠ gb237)); clear HO_14; clear BK180; clear BK206; clear BK237; clear HB; have HO_14 := n0_; have BK180 := n1_; have BK206 := n2_; have BK237 := n3_; have HB := n4_; have BK259 := n5_; have GW259 := n6_; have GE259 := n7_; have NB180_259 := n8_; have NB259_180 := n9_; have NB206_259 := n10_; have NB259_206 := n11_; have NB237_259 := n12_; have NB259_237 := n13_; clear n0_ n1_ n2_ n3_ n4_ n5_ n6_ n7_ n8_ n9_ n10_ n11_ n12_ n13_; clear hb hbox hg; have hnb114 := NB259_180.out; have hnc114 := NB180_259.out; have hnb115 := NB259_206.out; have hnc115 := NB206_259.out; have hnb116 := NB259_237.out; have hnc116 := NB237_259.out; have hcz117_0 : w113.cell? ⟨gb259, 0, none⟩ = some (.string (⟨#[]⟩ : ByteArray)) := (blk_cell BK259.out 0).trans rfl; have hcz117_1 : w113.cell? ⟨gb259, 1, none⟩ = some (.string (⟨#[]⟩ : ByteArray)) := (blk_cell BK259.out 1).trans rfl; have hcz117_2 : w113.cell? ⟨gb259, 2, none⟩ = some (.string (⟨#[]⟩ : ByteArray)) := (blk_cell BK259.out 2).trans rfl; have hcz117_3 : w113.cell? ⟨gb259, 3, none⟩ = some (.string (⟨#[]⟩ : ByteArray)) := (blk_cell BK259.out 3).trans rfl; have hcz117_4 : w113.cell? ⟨gb259, 4, none⟩ = some (.bool false) := (blk_cell BK259.out 4).trans rfl; have hcz117_5 : w113.cell? ⟨gb259, 5, none⟩ = some (.int .i64 0) := (blk_cell BK259.out 5).trans rfl; have hfz117_0 := blk_frozen BK259.out 0; have hfz117_1 := blk_frozen BK259.out 1; have hfz117_2 := blk_frozen BK259.out 2; have hfz117_3 := blk_frozen BK259.out 3; have hfz117_4 := blk_frozen BK259.out 4; have hfz117_5 := blk_frozen BK259.out 5; have hnb118 := NB206_180.out; have hnc118 := NB180_206.out; have hnb119 := NB206_237.out; have hnc119 := NB237_206.out; have hcz120_0 : w113.cell? ⟨gb206, 0, none⟩ = some (.string t199) := (blk_cell BK206.out 0).trans rfl; have hcz120_1 : w113.cell? ⟨gb206, 1, none⟩ = some (.string t200) := (blk_cell BK206.out 1).trans rfl; have hcz120_2 : w113.cell? ⟨gb206, 2, none⟩ = some (.string t201) := (blk_cell BK206.out 2).trans rfl; have hcz120_3 : w113.cell? ⟨gb206, 3, none⟩ = some (.string t202) := (blk_cell BK206.out 3).trans rfl; have hcz120_4 : w113.cell? ⟨gb206, 4, none⟩ = some (.bool t203) := (blk_cell BK206.out 4).trans rfl; have hcz120_5 : w113.cell? ⟨gb206, 5, none⟩ = some (.int .i64 t204) := (blk_cell BK206.out 5).trans rfl; have hfz120_0 := blk_frozen BK206.out 0; have hfz120_1 := blk_frozen BK206.out 1; have hfz120_2 := blk_frozen BK206.out 2; have hfz120_3 := blk_frozen BK206.out 3; have hfz120_4 := blk_frozen BK206.out 4; have hfz120_5 := blk_frozen BK206.out 5; have hnb121 := NB180_237.out; have hnc121 := NB237_180.out; have hcz122_0 : w113.cell? ⟨gb180, 0, none⟩ = some (.string t173) := (blk_cell BK180.out 0).trans rfl; have hcz122_1 : w113.cell? ⟨gb180, 1, none⟩ = some (.string t174) := (blk_cell BK180.out 1).trans rfl; have hcz122_2 : w113.cell? ⟨gb180, 2, none⟩ = some (.string t175) := (blk_cell BK180.out 2).trans rfl; have hcz122_3 : w113.cell? ⟨gb180, 3, none⟩ = some (.string t176) := (blk_cell BK180.out 3).trans rfl; have hcz122_4 : w113.cell? ⟨gb180, 4, none⟩ = some (.bool t177) := (blk_cell BK180.out 4).trans rfl; have hcz122_5 : w113.cell? ⟨gb180, 5, none⟩ = some (.int .i64 t178) := (blk_cell BK180.out 5).trans rfl; have hfz122_0 := blk_frozen BK180.out 0; have hfz122_1 := blk_frozen BK180.out 1; have hfz122_2 := blk_frozen BK180.out 2; have hfz122_3 := blk_frozen BK180.out 3; have hfz122_4 := blk_frozen BK180.out 4; have hfz122_5 := blk_frozen BK180.out 5; have hcz123_0 : w113.cell? ⟨gb237, 0, none⟩ = some (.string t230) := (blk_cell BK237.out 0).trans rfl; have hcz123_1 : w113.cell? ⟨gb237, 1, none⟩ = some (.string t231) := (blk_cell BK237.out 1).trans rfl; have hcz123_2 : w113.cell? ⟨gb237, 2, none⟩ = some (.string t232) := (blk_cell BK237.out 2).trans rfl; have hcz123_3 : w113.cell? ⟨gb237, 3, none⟩ = some (.string t233) := (blk_cell BK237.out 3).trans rfl; have hcz123_4 : w113.cell? ⟨gb237, 4, none⟩ = some (.bool t234) := (blk_cell BK237.out 4).trans rfl; have hcz123_5 : w113.cell? ⟨gb237, 5, none⟩ = some (.int .i64 t235) := (blk_cell BK237.out 5).trans rfl; have hfz123_0 := blk_frozen BK237.out 0; have hfz123_1 := blk_frozen BK237.out 1; have hfz123_2 := blk_frozen BK237.out 2; have hfz123_3 := blk_frozen BK237.out 3; have hfz123_4 := blk_frozen BK237.out 4; have hfz123_5 := blk_frozen BK237.out 5))
                 go_ret
                 exact ⟨by first | rfl | (simp [errW_none, errW_some] <;> rfl) | (simp [*, errW_none, errW_some] <;> rfl), by repeat (first | (with_reducible first | exact HB.out | apply below_alloc | apply pw_below_drewN | apply below_drew1 | refine below_set ?_ GE180.out | refine below_set ?_ GE206.out | refine below_set ?_ GE237.out | refine below_set ?_ GE259.out) | exact HB.out)⟩
                ·rw [if_neg c110] at H
                 exact absurd H (by simp)
               ·rw [if_neg c109] at H
                exact absurd H (by simp)
              ·rw [if_neg c108] at H
               exact absurd H (by simp)
             ·rw [if_neg c107] at H
              exact absurd H (by simp)
            ·rw [if_neg c106] at H
             exact absurd H (by simp)
        ·rw [if_neg c59] at H
         exact absurd H (by simp)
       ·rw [if_neg c55] at H
        exact absurd H (by simp)
      ·rw [if_neg c52] at H
       exact absurd H (by simp)
     ·rw [if_neg c51] at H
      exact absurd H (by simp)
    ·rw [if_neg c50] at H
     exact absurd H (by simp)
   ·rw [if_neg c49] at H
    exact absurd H (by simp)
  ·rw [if_neg c47] at H
   exact absurd H (by simp)
 ·rw [if_neg c46] at H
  exact absurd H (by simp)
end Go.Proofs.YtgfdmaohnngpjaaDoor.P
