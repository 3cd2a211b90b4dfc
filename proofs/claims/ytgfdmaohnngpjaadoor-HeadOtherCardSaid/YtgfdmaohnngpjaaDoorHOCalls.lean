/- The law HeadOther's walk. Conditions: those that the theorem names. -/
import Derived.Test.YtgfdmaohnngpjaaDoorPx0
import Derived.Test.YtgfdmaohnngpjaaDoorPx1
import Derived.Test.YtgfdmaohnngpjaaDoorPx13
import Derived.Test.YtgfdmaohnngpjaaDoorPx14
import Derived.Test.YtgfdmaohnngpjaaDoorPx16
import Derived.Test.YtgfdmaohnngpjaaDoorPx18
import Derived.Test.YtgfdmaohnngpjaaDoorHODefs
import Derived.Test.YtgfdmaohnngpjaaDoorHORest
namespace Go.Proofs.YtgfdmaohnngpjaaDoor.P
open Go.RowKit Go.Proofs.YtgfdmaohnngpjaaDoorW.PrintWords Go.Proofs.YtgfdmaohnngpjaaDoorW.PrintLast Go.Proofs.YtgfdmaohnngpjaaDoorW.PrintMore
attribute [local go_sem] max2_int min2_int max_two min_two max_three min_three max_four min_four   -- for this text's walks alone
set_option linter.unusedVariables false
set_option linter.unusedSimpArgs false

attribute [local go_sem high] eqA26
set_option maxHeartbeats 8000000 in
set_option maxRecDepth 100000 in
theorem nunciolaw20_HeadOther.calls (k : Nat) (A0 : Option Addr) (c0 : Nat) (l0 : List (S32)) (a1 : ByteArray) (a2 : ByteArray) (r : Bool) (w : World) (hr0 : Kd.C k32 w A0 l0.length l0) (hc0 : l0.length ≤ c0) (h : nunciolaw20_HeadOther.f k l0 a1 a2 = some r) :
  Calls Tryd.prog 3 #[.slice A0 l0.length c0, .string a1, .string a2] w fun e w' => e = .returned (.bool r) ∧ Below w.heap.size w w' := by
 have hu26 := Tryd.underlying26
 have hu32 := Tryd.underlying32
 have HR0 := Aside0.mk hr0
 have HC0 := Aside0.mk hc0
 clear hr0 hc0
 have HB := Aside0.mk (Below.refl w.heap.size w)
 have H : ((nunciolaw20_awake.f).bind fun t171 => (if t171 = true then ((nunciolaw13_FewFields.f k l0).bind fun t172 => (if t172 = true then (if (l0.length : Int) > 200 then (nunciolaw20_HeadOther.j0 k l0 a1 a2 true) else (if (a1.size : Int) > 3000 then (nunciolaw20_HeadOther.j0 k l0 a1 a2 true) else (nunciolaw20_HeadOther.j0 k l0 a1 a2 (decide ((a2.size : Int) > 3000))))) else (nunciolaw20_HeadOther.j0 k l0 a1 a2 true))) else (none))) = some r := h
 clear h
 replace H := Option.bind_eq_some_iff.mp H
 obtain ⟨t171, A40, H⟩ := H
 replace H : (if t171 = true then ((nunciolaw13_FewFields.f k l0).bind fun t172 => (if t172 = true then (if (l0.length : Int) > 200 then (nunciolaw20_HeadOther.j0 k l0 a1 a2 true) else (if (a1.size : Int) > 3000 then (nunciolaw20_HeadOther.j0 k l0 a1 a2 true) else (nunciolaw20_HeadOther.j0 k l0 a1 a2 (decide ((a2.size : Int) > 3000))))) else (nunciolaw20_HeadOther.j0 k l0 a1 a2 true))) else (none)) = some r := H
 have A4 := Aside0.mk A40
 clear A40
 by_cases c5 : t171 = true
 ·subst c5
  have H1 : ((nunciolaw13_FewFields.f k l0).bind fun t172 => (if t172 = true then (if (l0.length : Int) > 200 then (nunciolaw20_HeadOther.j0 k l0 a1 a2 true) else (if (a1.size : Int) > 3000 then (nunciolaw20_HeadOther.j0 k l0 a1 a2 true) else (nunciolaw20_HeadOther.j0 k l0 a1 a2 (decide ((a2.size : Int) > 3000))))) else (nunciolaw20_HeadOther.j0 k l0 a1 a2 true))) = some r := by rw [if_pos rfl] at H; exact H
  clear H; have H := H1; clear H1
  have HC6 := Aside0.mk H
  clear H
  go_enter Tryd.func3, Tryd.ntmps3
  go_upto_region 3 with (first | ((with_reducible refine gate_callee (f := 6) rfl ?_); refine goesL_ (some 18) rfl rfl Tryd.func6 (by kernel_rfl) rfl #[] rfl (by (try simp only [List.map_toArray, List.map_cons, List.map_nil]); first | done | rfl | (simp only [List.length_drop, List.length_take]; rfl)) ?_; (with_reducible refine (nunciolaw20_awake.calls  true _ A4.out).mono ?_); rintro e w7 ⟨rfl, hb⟩; refine ⟨_, rfl, ?_⟩; have n0_ := Aside0.mk (below_step (upB HB) hb); clear HB; have HB := n0_; clear n0_; (try clear hb); (try clear hb2); (try clear hk); (try clear hi)))
  (try simp only [Act.put, List.setIfInBounds_toArray, List.set_cons_zero, List.set_cons_succ])
  go_cut [37] (fun v37 wc => ∃ (kq : Nat) (x37_5 : Bool), v37 = .bool x37_5 ∧ Aside0 (nunciolaw20_HeadOther.j0 kq l0 a1 a2 x37_5 = some r) ∧ Aside0 (kq ≤ k) ∧ Aside0 (Below w.heap.size w wc))
  case first =>
   have H := HC6.out
   clear HC6
   replace H := Option.bind_eq_some_iff.mp H
   obtain ⟨t172, A80, H⟩ := H
   replace H : (if t172 = true then (if (l0.length : Int) > 200 then (nunciolaw20_HeadOther.j0 k l0 a1 a2 true) else (if (a1.size : Int) > 3000 then (nunciolaw20_HeadOther.j0 k l0 a1 a2 true) else (nunciolaw20_HeadOther.j0 k l0 a1 a2 (decide ((a2.size : Int) > 3000))))) else (nunciolaw20_HeadOther.j0 k l0 a1 a2 true)) = some r := H
   have A8 := Aside0.mk A80
   clear A80
   by_cases c9 : t172 = true
   ·subst c9
    have H1 : (if (l0.length : Int) > 200 then (nunciolaw20_HeadOther.j0 k l0 a1 a2 true) else (if (a1.size : Int) > 3000 then (nunciolaw20_HeadOther.j0 k l0 a1 a2 true) else (nunciolaw20_HeadOther.j0 k l0 a1 a2 (decide ((a2.size : Int) > 3000))))) = some r := by rw [if_pos rfl] at H; exact H
    clear H; have H := H1; clear H1
    by_cases c10 : (l0.length : Int) > 200
    ·rw [if_pos c10] at H
     have c10b0 : decide (200 < (l0.length : Int)) = true := decide_eq_true c10
     have c10b1 : decide (200 < l0.length) = true := decide_eq_true (by omega)
     clear c10
     (first | rw [c10b0] | (simp only [i64_w, i32_w]; rw [c10b0]) | skip)
     have H' := Aside0.mk H
     clear H
     go_wp2_with (first | ((with_reducible refine gate_callee (f := 7) rfl ?_); refine goesL_ (some 21) rfl rfl Tryd.func7 (by kernel_rfl) rfl #[.slice A0 l0.length c0] rfl (by (try simp only [List.map_toArray, List.map_cons, List.map_nil]); first | done | rfl | (simp only [List.length_drop, List.length_take]; rfl)) ?_; (with_reducible refine (nunciolaw13_FewFields.calls k _ _ l0 true _ ?side1 ?side2 A8.out).mono ?_); (case side1 => repeat (first | exact (Kd.C_below HR0.out HB.out) | (with_reducible refine Kd.C_alloc ?_ _) | (with_reducible refine Kd.C_drewN ?_ _) | (with_reducible refine Kd.C_drew ?_))); (case side2 => exact HC0.out); rintro e w11 ⟨rfl, hb⟩; refine ⟨_, rfl, ?_⟩; have n0_ := Aside0.mk (below_step (upB HB) hb); clear HB; have HB := n0_; clear n0_; (try clear hb); (try clear hb2); (try clear hk); (try clear hi)))
     go_meet
     case rel => exact ⟨_, (true), (by first | rfl | (simp; done) | (simp [*]; done)), H', ⟨by first | omega | exact Nat.le_refl _⟩, ⟨upB HB⟩⟩
    ·rw [if_neg c10] at H
     have c10b0 : decide (200 < (l0.length : Int)) = false := decide_eq_false c10
     have c10b1 : decide (200 < l0.length) = false := decide_eq_false (by omega)
     clear c10
     (first | rw [c10b0] | (simp only [i64_w, i32_w]; rw [c10b0]) | skip)
     by_cases c12 : (a1.size : Int) > 3000
     ·rw [if_pos c12] at H
      have c12b0 : decide (3000 < (a1.size : Int)) = true := decide_eq_true c12
      have c12b1 : decide (3000 < a1.size) = true := decide_eq_true (by omega)
      clear c12
      have H' := Aside0.mk H
      clear H
      go_wp2_with (first | ((with_reducible refine gate_callee (f := 7) rfl ?_); refine goesL_ (some 21) rfl rfl Tryd.func7 (by kernel_rfl) rfl #[.slice A0 l0.length c0] rfl (by (try simp only [List.map_toArray, List.map_cons, List.map_nil]); first | done | rfl | (simp only [List.length_drop, List.length_take]; rfl)) ?_; (with_reducible refine (nunciolaw13_FewFields.calls k _ _ l0 true _ ?side1 ?side2 A8.out).mono ?_); (case side1 => repeat (first | exact (Kd.C_below HR0.out HB.out) | (with_reducible refine Kd.C_alloc ?_ _) | (with_reducible refine Kd.C_drewN ?_ _) | (with_reducible refine Kd.C_drew ?_))); (case side2 => exact HC0.out); rintro e w13 ⟨rfl, hb⟩; refine ⟨_, rfl, ?_⟩; have n0_ := Aside0.mk (below_step (upB HB) hb); clear HB; have HB := n0_; clear n0_; (try clear hb); (try clear hb2); (try clear hk); (try clear hi)))
      go_meet
      case rel => exact ⟨_, (true), (by first | rfl | (simp; done) | (simp [*]; done)), H', ⟨by first | omega | exact Nat.le_refl _⟩, ⟨upB HB⟩⟩
     ·rw [if_neg c12] at H
      have c12b0 : decide (3000 < (a1.size : Int)) = false := decide_eq_false c12
      have c12b1 : decide (3000 < a1.size) = false := decide_eq_false (by omega)
      clear c12
      have H' := Aside0.mk H
      clear H
      go_wp2_with (first | ((with_reducible refine gate_callee (f := 7) rfl ?_); refine goesL_ (some 21) rfl rfl Tryd.func7 (by kernel_rfl) rfl #[.slice A0 l0.length c0] rfl (by (try simp only [List.map_toArray, List.map_cons, List.map_nil]); first | done | rfl | (simp only [List.length_drop, List.length_take]; rfl)) ?_; (with_reducible refine (nunciolaw13_FewFields.calls k _ _ l0 true _ ?side1 ?side2 A8.out).mono ?_); (case side1 => repeat (first | exact (Kd.C_below HR0.out HB.out) | (with_reducible refine Kd.C_alloc ?_ _) | (with_reducible refine Kd.C_drewN ?_ _) | (with_reducible refine Kd.C_drew ?_))); (case side2 => exact HC0.out); rintro e w14 ⟨rfl, hb⟩; refine ⟨_, rfl, ?_⟩; have n0_ := Aside0.mk (below_step (upB HB) hb); clear HB; have HB := n0_; clear n0_; (try clear hb); (try clear hb2); (try clear hk); (try clear hi)))
      go_meet
      case rel => exact ⟨_, (decide ((a2.size : Int) > 3000)), (by first | rfl | (simp; done) | (simp [*]; done)), H', ⟨by first | omega | exact Nat.le_refl _⟩, ⟨upB HB⟩⟩
   ·replace c9 := Bool.eq_false_iff.mpr c9
    subst c9
    have H1 : (nunciolaw20_HeadOther.j0 k l0 a1 a2 true) = some r := by rw [if_neg (show ¬ (false = true) by decide)] at H; exact H
    clear H; have H := H1; clear H1
    have H' := Aside0.mk H
    clear H
    go_wp2_with (first | ((with_reducible refine gate_callee (f := 7) rfl ?_); refine goesL_ (some 21) rfl rfl Tryd.func7 (by kernel_rfl) rfl #[.slice A0 l0.length c0] rfl (by (try simp only [List.map_toArray, List.map_cons, List.map_nil]); first | done | rfl | (simp only [List.length_drop, List.length_take]; rfl)) ?_; (with_reducible refine (nunciolaw13_FewFields.calls k _ _ l0 false _ ?side1 ?side2 A8.out).mono ?_); (case side1 => repeat (first | exact (Kd.C_below HR0.out HB.out) | (with_reducible refine Kd.C_alloc ?_ _) | (with_reducible refine Kd.C_drewN ?_ _) | (with_reducible refine Kd.C_drew ?_))); (case side2 => exact HC0.out); rintro e w15 ⟨rfl, hb⟩; refine ⟨_, rfl, ?_⟩; have n0_ := Aside0.mk (below_step (upB HB) hb); clear HB; have HB := n0_; clear n0_; (try clear hb); (try clear hb2); (try clear hk); (try clear hi)))
    go_meet
    case rel => exact ⟨_, (true), (by first | rfl | (simp; done) | (simp [*]; done)), H', ⟨by first | omega | exact Nat.le_refl _⟩, ⟨upB HB⟩⟩
  case rest =>
   clear HC6; try clear c1; try clear p2; try clear c3; try clear c5; try clear c6; try clear c7; try clear c9; try clear c10; try clear c10b0; try clear c10b1; try clear c12; try clear c12b0; try clear c12b1
   obtain ⟨kq, x37_5, rfl, HA, HJ5, HB⟩ := hcut
   cases kq with
   | zero => exact absurd HA.out (by simp [nunciolaw20_HeadOther.j0])
   | succ kj5 =>
    have H := HA.out
    clear HA
    simp only [nunciolaw20_HeadOther.j0] at H
    by_cases c16 : x37_5 = true
    ·subst c16
     have H1 : (some true) = some r := by rw [if_pos rfl] at H; exact H
     clear H; have H := H1; clear H1
     obtain rfl := Option.some.inj H
     go_wp2
     go_ret
     exact ⟨by first | rfl | (simp [errW_none, errW_some] <;> rfl) | (simp [*, errW_none, errW_some] <;> rfl), by repeat (first | (with_reducible first | exact HB.out | apply below_alloc | apply pw_below_drewN | apply below_drew1) | exact HB.out)⟩
    ·replace c16 := Bool.eq_false_iff.mpr c16
     subst c16
     have H1 : ((head_Request.f l0).bind fun bt173 => (if bt173.2.2.2.2.2.2 = 0 then ((head_Trailers.f (([(⟨a1, a2, false⟩ : S32)] : List (S32)))).bind fun t184 => (if t184 = 0 then (if a1.toList = ([99, 111, 110, 116, 101, 110, 116, 45, 116, 121, 112, 101] : List UInt8) then (nunciolaw20_HeadOther.j1 kj5 l0 a1 a2 true bt173.1 bt173.2.1 bt173.2.2.1 bt173.2.2.2.1 bt173.2.2.2.2.1 bt173.2.2.2.2.2.1) else (nunciolaw20_HeadOther.j1 kj5 l0 a1 a2 (a1.toList == ([99, 111, 110, 116, 101, 110, 116, 45, 108, 101, 110, 103, 116, 104] : List UInt8)) bt173.1 bt173.2.1 bt173.2.2.1 bt173.2.2.2.1 bt173.2.2.2.2.1 bt173.2.2.2.2.2.1)) else (nunciolaw20_HeadOther.j1 kj5 l0 a1 a2 true bt173.1 bt173.2.1 bt173.2.2.1 bt173.2.2.2.1 bt173.2.2.2.2.1 bt173.2.2.2.2.2.1))) else (nunciolaw20_HeadOther.j1 kj5 l0 a1 a2 true bt173.1 bt173.2.1 bt173.2.2.1 bt173.2.2.2.1 bt173.2.2.2.2.1 bt173.2.2.2.2.2.1))) = some r := by rw [if_neg (show ¬ (false = true) by decide)] at H; exact H
     clear H; have H := H1; clear H1
     replace H := Option.bind_eq_some_iff.mp H
     obtain ⟨⟨t173, t174, t175, t176, t177, t178, t179⟩, A170, H⟩ := H
     replace H : (if t179 = 0 then ((head_Trailers.f (([(⟨a1, a2, false⟩ : S32)] : List (S32)))).bind fun t184 => (if t184 = 0 then (if a1.toList = ([99, 111, 110, 116, 101, 110, 116, 45, 116, 121, 112, 101] : List UInt8) then (nunciolaw20_HeadOther.j1 kj5 l0 a1 a2 true t173 t174 t175 t176 t177 t178) else (nunciolaw20_HeadOther.j1 kj5 l0 a1 a2 (a1.toList == ([99, 111, 110, 116, 101, 110, 116, 45, 108, 101, 110, 103, 116, 104] : List UInt8)) t173 t174 t175 t176 t177 t178)) else (nunciolaw20_HeadOther.j1 kj5 l0 a1 a2 true t173 t174 t175 t176 t177 t178))) else (nunciolaw20_HeadOther.j1 kj5 l0 a1 a2 true t173 t174 t175 t176 t177 t178)) = some r := H
     have A17 := Aside0.mk A170
     clear A170
     have HC18 := Aside0.mk H
     clear H
     go_upto_region 6 with (first | ((with_reducible refine gate_callee (f := 8) rfl ?_); refine goesL_ (some 40) rfl rfl Tryd.func8 (by kernel_rfl) rfl #[.slice A0 l0.length c0] rfl (by (try simp only [List.map_toArray, List.map_cons, List.map_nil]); first | done | rfl | (simp only [List.length_drop, List.length_take]; rfl)) ?_; (with_reducible refine (head_Request.calls _ _ l0 t173 t174 t175 t176 t177 t178 t179 _ ?side1 ?side2 A17.out).mono ?_); (case side1 => repeat (first | exact (Kd.C_below HR0.out HB.out) | (with_reducible refine Kd.C_alloc ?_ _) | (with_reducible refine Kd.C_drewN ?_ _) | (with_reducible refine Kd.C_drew ?_))); (case side2 => exact HC0.out); rintro e w19 ⟨rfl, hb⟩; refine ⟨_, rfl, ?_⟩; have n0_ := Aside0.mk (below_step (upB HB) hb); clear HB; have HB := n0_; clear n0_; (try clear hb); (try clear hb2); (try clear hk); (try clear hi)) | ((with_reducible refine gate_dst (N := 7) rfl ?_); (try (refine gate_guard (by rfl) ?_; dsimp only)); refine box_event ?hg (N := 7) ?hd (cs := #[.string (⟨#[]⟩ : ByteArray), .string (⟨#[]⟩ : ByteArray), .string (⟨#[]⟩ : ByteArray), .string (⟨#[]⟩ : ByteArray), .bool false, .int .i64 0]) (t := 26) ?hr ?_; (case hd => rfl); (case hg => rfl); (case hr => first | (go_simp; done) | (go_simp; rfl)); intro gb180 hg w20 hbox hb; have n0_ := Aside0.mk (below_step (upB HB) hb); have n1_ := Aside0.mk (hbox); have n2_ := Aside0.mk ((by rw [hg]; exact (below_size (upB HB)) : w.heap.size ≤ gb180)); have n3_ := Aside0.mk ((by rw [hg]; exact (below_size (upB HB)) : w.heap.size ≤ gb180)); clear HB; have HB := n0_; have BK180 := n1_; have GW180 := n2_; have GE180 := n3_; clear n0_ n1_ n2_ n3_; clear hb hbox hg; have hcz21_0 : w20.cell? ⟨gb180, 0, none⟩ = some (.string (⟨#[]⟩ : ByteArray)) := (blk_cell BK180.out 0).trans rfl; have hcz21_1 : w20.cell? ⟨gb180, 1, none⟩ = some (.string (⟨#[]⟩ : ByteArray)) := (blk_cell BK180.out 1).trans rfl; have hcz21_2 : w20.cell? ⟨gb180, 2, none⟩ = some (.string (⟨#[]⟩ : ByteArray)) := (blk_cell BK180.out 2).trans rfl; have hcz21_3 : w20.cell? ⟨gb180, 3, none⟩ = some (.string (⟨#[]⟩ : ByteArray)) := (blk_cell BK180.out 3).trans rfl; have hcz21_4 : w20.cell? ⟨gb180, 4, none⟩ = some (.bool false) := (blk_cell BK180.out 4).trans rfl; have hcz21_5 : w20.cell? ⟨gb180, 5, none⟩ = some (.int .i64 0) := (blk_cell BK180.out 5).trans rfl; have hfz21_0 := blk_frozen BK180.out 0; have hfz21_1 := blk_frozen BK180.out 1; have hfz21_2 := blk_frozen BK180.out 2; have hfz21_3 := blk_frozen BK180.out 3; have hfz21_4 := blk_frozen BK180.out 4; have hfz21_5 := blk_frozen BK180.out 5))
     (try simp only [Act.put, List.setIfInBounds_toArray, List.set_cons_zero, List.set_cons_succ])
     go_cut [60] (fun v60 wc => ∃ (kq : Nat) (x60_17 : Bool), v60 = .bool x60_17 ∧ Aside0 (nunciolaw20_HeadOther.j1 kq l0 a1 a2 x60_17 t173 t174 t175 t176 t177 t178 = some r) ∧ Aside0 (kq ≤ kj5) ∧ Aside0 (wc.heap[gb180]? = some (.cells #[.string t173, .string t174, .string t175, .string t176, .bool t177, .int .i64 t178] 26 (0, 0))) ∧ Aside0 (Below w.heap.size w wc))
     case first =>
      have H := HC18.out
      clear HC18
      by_cases c22 : t179 = 0
      ·rw [if_pos c22] at H
       have c22b0 : (t179 == 0) = true := beq_iff_eq.mpr c22
       have c22b1 : (t179 != 0) = false := bne_eq_false_iff_eq.mpr c22
       clear c22
       (first | rw [c22b0] | (simp only [i64_w, i32_w]; rw [c22b0]) | skip)
       obtain ⟨y181, hy181⟩ : ∃ y_ : List (S32), y_ = (([(⟨a1, a2, false⟩ : S32)] : List (S32))) := ⟨_, rfl⟩
       replace H : ((head_Trailers.f y181).bind fun t184 => (if t184 = 0 then (if a1.toList = ([99, 111, 110, 116, 101, 110, 116, 45, 116, 121, 112, 101] : List UInt8) then (nunciolaw20_HeadOther.j1 kj5 l0 a1 a2 true t173 t174 t175 t176 t177 t178) else (nunciolaw20_HeadOther.j1 kj5 l0 a1 a2 (a1.toList == ([99, 111, 110, 116, 101, 110, 116, 45, 108, 101, 110, 103, 116, 104] : List UInt8)) t173 t174 t175 t176 t177 t178)) else (nunciolaw20_HeadOther.j1 kj5 l0 a1 a2 true t173 t174 t175 t176 t177 t178))) = some r := by first | (rw [hy181]; with_reducible exact H) | (have H2_ := (Option.bind_some _ _).symm.trans H; rw [hy181]; with_reducible exact H2_) | (have H2_ := (Option.bind_some _ _).symm.trans H; with_reducible exact H2_) | with_reducible exact H | (rw [hy181]; exact H) | exact H
       have Ny181 := Aside0.mk hy181
       clear hy181
       replace H := Option.bind_eq_some_iff.mp H
       obtain ⟨t184, A230, H⟩ := H
       replace H : (if t184 = 0 then (if a1.toList = ([99, 111, 110, 116, 101, 110, 116, 45, 116, 121, 112, 101] : List UInt8) then (nunciolaw20_HeadOther.j1 kj5 l0 a1 a2 true t173 t174 t175 t176 t177 t178) else (nunciolaw20_HeadOther.j1 kj5 l0 a1 a2 (a1.toList == ([99, 111, 110, 116, 101, 110, 116, 45, 108, 101, 110, 103, 116, 104] : List UInt8)) t173 t174 t175 t176 t177 t178)) else (nunciolaw20_HeadOther.j1 kj5 l0 a1 a2 true t173 t174 t175 t176 t177 t178)) = some r := H
       have A23 := Aside0.mk A230
       clear A230
       by_cases c24 : t184 = 0
       ·rw [if_pos c24] at H
        have c24b0 : (t184 == 0) = true := beq_iff_eq.mpr c24
        have c24b1 : (t184 != 0) = false := bne_eq_false_iff_eq.mpr c24
        clear c24
        by_cases c25 : a1.toList = ([99, 111, 110, 116, 101, 110, 116, 45, 116, 121, 112, 101] : List UInt8)
        ·rw [if_pos c25] at H
         have c25b0 : (a1.toList == ([99, 111, 110, 116, 101, 110, 116, 45, 116, 121, 112, 101] : List UInt8)) = true := beq_iff_eq.mpr c25
         have c25b1 : (a1.toList != ([99, 111, 110, 116, 101, 110, 116, 45, 116, 121, 112, 101] : List UInt8)) = false := bne_eq_false_iff_eq.mpr c25
         clear c25
         have H' := Aside0.mk H
         clear H
         go_wp2_with (first | ((with_reducible refine gate_dst (N := 49) rfl ?_); (try (refine gate_guard (by rfl) ?_; dsimp only)); refine Kd.R_lit k32 _ 32 ?hg (N := 49) ?hd (xs := ([(⟨a1, a2, false⟩ : S32)] : List (S32))) (inner := [.string a1, .string a2, .bool false]) (ok := fun _ => True) (okp := fun _ => True) ?hr ?hp (fun _ hk => hk) trivial (Below.refl _ _) (Nat.le_refl _) (by simp) ?_; (case hd => rfl); (case hg => rfl); (case hr => first | (go_simp; done) | (go_simp; rfl)); (case hp => exact (Reps.c3 (show Kd.M k32 _ _ _ (⟨a1, a2, false⟩ : S32) [.string a1, .string a2, .bool false] from (k32_mkM _ _ _ (⟨a1, a2, false⟩ : S32) )) (Reps.none _ _))); intro v182 w26 ho27 hb hg_ hnew_; clear hg_ hnew_; (first | rw [← Ny181.out] at ho27 | (simp only [Int.reduceToNat] at ho27; rw [← Ny181.out] at ho27)); have n0_ := Aside0.mk (Kd.R_lower ho27 (below_size (upB HB))); have n1_ := Aside0.mk (blk_below (g := gb180) (o := .cells #[.string t173, .string t174, .string t175, .string t176, .bool t177, .int .i64 t178] 26 (0, 0)) (by (with_reducible repeat (first | refine blk_drewN ?_ _ | refine blk_drew ?_ | refine blk_alloc ?_ _)); refine blk_put (cs := #[.string t173, .string t174, .string t175, .string t176, .bool t177, .int .i64 0]) ?_ 5 _ rfl; (with_reducible repeat (first | refine blk_drewN ?_ _ | refine blk_drew ?_ | refine blk_alloc ?_ _)); refine blk_put (cs := #[.string t173, .string t174, .string t175, .string t176, .bool false, .int .i64 0]) ?_ 4 _ rfl; (with_reducible repeat (first | refine blk_drewN ?_ _ | refine blk_drew ?_ | refine blk_alloc ?_ _)); refine blk_put (cs := #[.string t173, .string t174, .string t175, .string (⟨#[]⟩ : ByteArray), .bool false, .int .i64 0]) ?_ 3 _ rfl; (with_reducible repeat (first | refine blk_drewN ?_ _ | refine blk_drew ?_ | refine blk_alloc ?_ _)); refine blk_put (cs := #[.string t173, .string t174, .string (⟨#[]⟩ : ByteArray), .string (⟨#[]⟩ : ByteArray), .bool false, .int .i64 0]) ?_ 2 _ rfl; (with_reducible repeat (first | refine blk_drewN ?_ _ | refine blk_drew ?_ | refine blk_alloc ?_ _)); refine blk_put (cs := #[.string t173, .string (⟨#[]⟩ : ByteArray), .string (⟨#[]⟩ : ByteArray), .string (⟨#[]⟩ : ByteArray), .bool false, .int .i64 0]) ?_ 1 _ rfl; (with_reducible repeat (first | refine blk_drewN ?_ _ | refine blk_drew ?_ | refine blk_alloc ?_ _)); refine blk_put (cs := #[.string (⟨#[]⟩ : ByteArray), .string (⟨#[]⟩ : ByteArray), .string (⟨#[]⟩ : ByteArray), .string (⟨#[]⟩ : ByteArray), .bool false, .int .i64 0]) ?_ 0 _ rfl; (with_reducible repeat (first | refine blk_drewN ?_ _ | refine blk_drew ?_ | refine blk_alloc ?_ _)); exact BK180.out) hb); have n2_ := Aside0.mk (below_step (upB HB) hb); clear BK180; clear HB; have HO183 := n0_; have BK180 := n1_; have HB := n2_; clear n0_ n1_ n2_; clear hb ho27; obtain ⟨Ao28, co28, eo28⟩ := Kd.R_slice HO183.out; subst eo28) | (go_at_call 9; (with_reducible refine (head_Trailers.calls _ _ y181 t184 _ ?side1 ?side2 A23.out).mono ?_); (case side1 => repeat (first | exact (Kd.R_reads' HO183.out).2.2 | (with_reducible refine Kd.C_alloc ?_ _) | (with_reducible refine Kd.C_drewN ?_ _) | (with_reducible refine Kd.C_drew ?_))); (case side2 => exact (Kd.R_reads' HO183.out).2.1); rintro e w29 ⟨rfl, hb⟩; have n0_ := Aside0.mk (Kd.R_below (upR HO183) hb); have n1_ := Aside0.mk (blk_below (g := gb180) (o := .cells #[.string t173, .string t174, .string t175, .string t176, .bool t177, .int .i64 t178] 26 (0, 0)) (upK BK180) hb); have n2_ := Aside0.mk (below_step (upB HB) hb); clear HO183; clear BK180; clear HB; have HO183 := n0_; have BK180 := n1_; have HB := n2_; clear n0_ n1_ n2_; (try clear hb); (try clear hb2); (try clear hk); (try clear hi)))
         go_meet
         case rel => exact ⟨_, (true), (by first | rfl | (simp; done) | (simp [*]; done)), H', ⟨by have := HJ5.out; first | omega | exact Nat.le_refl _⟩, ⟨upK BK180⟩, ⟨upB HB⟩⟩
        ·rw [if_neg c25] at H
         have c25b0 : (a1.toList == ([99, 111, 110, 116, 101, 110, 116, 45, 116, 121, 112, 101] : List UInt8)) = false := beq_eq_false_iff_ne.mpr c25
         have c25b1 : (a1.toList != ([99, 111, 110, 116, 101, 110, 116, 45, 116, 121, 112, 101] : List UInt8)) = true := bne_iff_ne.mpr c25
         have H' := Aside0.mk H
         clear H
         go_wp2_with (first | ((with_reducible refine gate_dst (N := 49) rfl ?_); (try (refine gate_guard (by rfl) ?_; dsimp only)); refine Kd.R_lit k32 _ 32 ?hg (N := 49) ?hd (xs := ([(⟨a1, a2, false⟩ : S32)] : List (S32))) (inner := [.string a1, .string a2, .bool false]) (ok := fun _ => True) (okp := fun _ => True) ?hr ?hp (fun _ hk => hk) trivial (Below.refl _ _) (Nat.le_refl _) (by simp) ?_; (case hd => rfl); (case hg => rfl); (case hr => first | (go_simp; done) | (go_simp; rfl)); (case hp => exact (Reps.c3 (show Kd.M k32 _ _ _ (⟨a1, a2, false⟩ : S32) [.string a1, .string a2, .bool false] from (k32_mkM _ _ _ (⟨a1, a2, false⟩ : S32) )) (Reps.none _ _))); intro v182 w30 ho31 hb hg_ hnew_; clear hg_ hnew_; (first | rw [← Ny181.out] at ho31 | (simp only [Int.reduceToNat] at ho31; rw [← Ny181.out] at ho31)); have n0_ := Aside0.mk (Kd.R_lower ho31 (below_size (upB HB))); have n1_ := Aside0.mk (blk_below (g := gb180) (o := .cells #[.string t173, .string t174, .string t175, .string t176, .bool t177, .int .i64 t178] 26 (0, 0)) (by (with_reducible repeat (first | refine blk_drewN ?_ _ | refine blk_drew ?_ | refine blk_alloc ?_ _)); refine blk_put (cs := #[.string t173, .string t174, .string t175, .string t176, .bool t177, .int .i64 0]) ?_ 5 _ rfl; (with_reducible repeat (first | refine blk_drewN ?_ _ | refine blk_drew ?_ | refine blk_alloc ?_ _)); refine blk_put (cs := #[.string t173, .string t174, .string t175, .string t176, .bool false, .int .i64 0]) ?_ 4 _ rfl; (with_reducible repeat (first | refine blk_drewN ?_ _ | refine blk_drew ?_ | refine blk_alloc ?_ _)); refine blk_put (cs := #[.string t173, .string t174, .string t175, .string (⟨#[]⟩ : ByteArray), .bool false, .int .i64 0]) ?_ 3 _ rfl; (with_reducible repeat (first | refine blk_drewN ?_ _ | refine blk_drew ?_ | refine blk_alloc ?_ _)); refine blk_put (cs := #[.string t173, .string t174, .string (⟨#[]⟩ : ByteArray), .string (⟨#[]⟩ : ByteArray), .bool false, .int .i64 0]) ?_ 2 _ rfl; (with_reducible repeat (first | refine blk_drewN ?_ _ | refine blk_drew ?_ | refine blk_alloc ?_ _)); refine blk_put (cs := #[.string t173, .string (⟨#[]⟩ : ByteArray), .string (⟨#[]⟩ : ByteArray), .string (⟨#[]⟩ : ByteArray), .bool false, .int .i64 0]) ?_ 1 _ rfl; (with_reducible repeat (first | refine blk_drewN ?_ _ | refine blk_drew ?_ | refine blk_alloc ?_ _)); refine blk_put (cs := #[.string (⟨#[]⟩ : ByteArray), .string (⟨#[]⟩ : ByteArray), .string (⟨#[]⟩ : ByteArray), .string (⟨#[]⟩ : ByteArray), .bool false, .int .i64 0]) ?_ 0 _ rfl; (with_reducible repeat (first | refine blk_drewN ?_ _ | refine blk_drew ?_ | refine blk_alloc ?_ _)); exact BK180.out) hb); have n2_ := Aside0.mk (below_step (upB HB) hb); clear BK180; clear HB; have HO183 := n0_; have BK180 := n1_; have HB := n2_; clear n0_ n1_ n2_; clear hb ho31; obtain ⟨Ao32, co32, eo32⟩ := Kd.R_slice HO183.out; subst eo32) | (go_at_call 9; (with_reducible refine (head_Trailers.calls _ _ y181 t184 _ ?side1 ?side2 A23.out).mono ?_); (case side1 => repeat (first | exact (Kd.R_reads' HO183.out).2.2 | (with_reducible refine Kd.C_alloc ?_ _) | (with_reducible refine Kd.C_drewN ?_ _) | (with_reducible refine Kd.C_drew ?_))); (case side2 => exact (Kd.R_reads' HO183.out).2.1); rintro e w33 ⟨rfl, hb⟩; have n0_ := Aside0.mk (Kd.R_below (upR HO183) hb); have n1_ := Aside0.mk (blk_below (g := gb180) (o := .cells #[.string t173, .string t174, .string t175, .string t176, .bool t177, .int .i64 t178] 26 (0, 0)) (upK BK180) hb); have n2_ := Aside0.mk (below_step (upB HB) hb); clear HO183; clear BK180; clear HB; have HO183 := n0_; have BK180 := n1_; have HB := n2_; clear n0_ n1_ n2_; (try clear hb); (try clear hb2); (try clear hk); (try clear hi)))
         go_meet
         case rel => exact ⟨_, ((a1.toList == ([99, 111, 110, 116, 101, 110, 116, 45, 108, 101, 110, 103, 116, 104] : List UInt8))), (by first | rfl | (simp; done) | (simp [*]; done)), H', ⟨by have := HJ5.out; first | omega | exact Nat.le_refl _⟩, ⟨upK BK180⟩, ⟨upB HB⟩⟩
       ·rw [if_neg c24] at H
        have c24b0 : (t184 == 0) = false := beq_eq_false_iff_ne.mpr c24
        have c24b1 : (t184 != 0) = true := bne_iff_ne.mpr c24
        have H' := Aside0.mk H
        clear H
        go_wp2_with (first | ((with_reducible refine gate_dst (N := 49) rfl ?_); (try (refine gate_guard (by rfl) ?_; dsimp only)); refine Kd.R_lit k32 _ 32 ?hg (N := 49) ?hd (xs := ([(⟨a1, a2, false⟩ : S32)] : List (S32))) (inner := [.string a1, .string a2, .bool false]) (ok := fun _ => True) (okp := fun _ => True) ?hr ?hp (fun _ hk => hk) trivial (Below.refl _ _) (Nat.le_refl _) (by simp) ?_; (case hd => rfl); (case hg => rfl); (case hr => first | (go_simp; done) | (go_simp; rfl)); (case hp => exact (Reps.c3 (show Kd.M k32 _ _ _ (⟨a1, a2, false⟩ : S32) [.string a1, .string a2, .bool false] from (k32_mkM _ _ _ (⟨a1, a2, false⟩ : S32) )) (Reps.none _ _))); intro v182 w34 ho35 hb hg_ hnew_; clear hg_ hnew_; (first | rw [← Ny181.out] at ho35 | (simp only [Int.reduceToNat] at ho35; rw [← Ny181.out] at ho35)); have n0_ := Aside0.mk (Kd.R_lower ho35 (below_size (upB HB))); have n1_ := Aside0.mk (blk_below (g := gb180) (o := .cells #[.string t173, .string t174, .string t175, .string t176, .bool t177, .int .i64 t178] 26 (0, 0)) (by (with_reducible repeat (first | refine blk_drewN ?_ _ | refine blk_drew ?_ | refine blk_alloc ?_ _)); refine blk_put (cs := #[.string t173, .string t174, .string t175, .string t176, .bool t177, .int .i64 0]) ?_ 5 _ rfl; (with_reducible repeat (first | refine blk_drewN ?_ _ | refine blk_drew ?_ | refine blk_alloc ?_ _)); refine blk_put (cs := #[.string t173, .string t174, .string t175, .string t176, .bool false, .int .i64 0]) ?_ 4 _ rfl; (with_reducible repeat (first | refine blk_drewN ?_ _ | refine blk_drew ?_ | refine blk_alloc ?_ _)); refine blk_put (cs := #[.string t173, .string t174, .string t175, .string (⟨#[]⟩ : ByteArray), .bool false, .int .i64 0]) ?_ 3 _ rfl; (with_reducible repeat (first | refine blk_drewN ?_ _ | refine blk_drew ?_ | refine blk_alloc ?_ _)); refine blk_put (cs := #[.string t173, .string t174, .string (⟨#[]⟩ : ByteArray), .string (⟨#[]⟩ : ByteArray), .bool false, .int .i64 0]) ?_ 2 _ rfl; (with_reducible repeat (first | refine blk_drewN ?_ _ | refine blk_drew ?_ | refine blk_alloc ?_ _)); refine blk_put (cs := #[.string t173, .string (⟨#[]⟩ : ByteArray), .string (⟨#[]⟩ : ByteArray), .string (⟨#[]⟩ : ByteArray), .bool false, .int .i64 0]) ?_ 1 _ rfl; (with_reducible repeat (first | refine blk_drewN ?_ _ | refine blk_drew ?_ | refine blk_alloc ?_ _)); refine blk_put (cs := #[.string (⟨#[]⟩ : ByteArray), .string (⟨#[]⟩ : ByteArray), .string (⟨#[]⟩ : ByteArray), .string (⟨#[]⟩ : ByteArray), .bool false, .int .i64 0]) ?_ 0 _ rfl; (with_reducible repeat (first | refine blk_drewN ?_ _ | refine blk_drew ?_ | refine blk_alloc ?_ _)); exact BK180.out) hb); have n2_ := Aside0.mk (below_step (upB HB) hb); clear BK180; clear HB; have HO183 := n0_; have BK180 := n1_; have HB := n2_; clear n0_ n1_ n2_; clear hb ho35; obtain ⟨Ao36, co36, eo36⟩ := Kd.R_slice HO183.out; subst eo36) | (go_at_call 9; (with_reducible refine (head_Trailers.calls _ _ y181 t184 _ ?side1 ?side2 A23.out).mono ?_); (case side1 => repeat (first | exact (Kd.R_reads' HO183.out).2.2 | (with_reducible refine Kd.C_alloc ?_ _) | (with_reducible refine Kd.C_drewN ?_ _) | (with_reducible refine Kd.C_drew ?_))); (case side2 => exact (Kd.R_reads' HO183.out).2.1); rintro e w37 ⟨rfl, hb⟩; have n0_ := Aside0.mk (Kd.R_below (upR HO183) hb); have n1_ := Aside0.mk (blk_below (g := gb180) (o := .cells #[.string t173, .string t174, .string t175, .string t176, .bool t177, .int .i64 t178] 26 (0, 0)) (upK BK180) hb); have n2_ := Aside0.mk (below_step (upB HB) hb); clear HO183; clear BK180; clear HB; have HO183 := n0_; have BK180 := n1_; have HB := n2_; clear n0_ n1_ n2_; (try clear hb); (try clear hb2); (try clear hk); (try clear hi)))
        go_meet
        case rel => exact ⟨_, (true), (by first | rfl | (simp; done) | (simp [*]; done)), H', ⟨by have := HJ5.out; first | omega | exact Nat.le_refl _⟩, ⟨upK BK180⟩, ⟨upB HB⟩⟩
      ·rw [if_neg c22] at H
       have c22b0 : (t179 == 0) = false := beq_eq_false_iff_ne.mpr c22
       have c22b1 : (t179 != 0) = true := bne_iff_ne.mpr c22
       (first | rw [c22b0] | (simp only [i64_w, i32_w]; rw [c22b0]) | skip)
       have H' := Aside0.mk H
       clear H
       go_wp2
       go_meet
       case rel => exact ⟨_, (true), (by first | rfl | (simp; done) | (simp [*]; done)), H', ⟨by have := HJ5.out; first | omega | exact Nat.le_refl _⟩, ⟨by (with_reducible repeat (first | refine blk_drewN ?_ _ | refine blk_drew ?_ | refine blk_alloc ?_ _)); refine blk_put (cs := #[.string t173, .string t174, .string t175, .string t176, .bool t177, .int .i64 0]) ?_ 5 _ rfl; (with_reducible repeat (first | refine blk_drewN ?_ _ | refine blk_drew ?_ | refine blk_alloc ?_ _)); refine blk_put (cs := #[.string t173, .string t174, .string t175, .string t176, .bool false, .int .i64 0]) ?_ 4 _ rfl; (with_reducible repeat (first | refine blk_drewN ?_ _ | refine blk_drew ?_ | refine blk_alloc ?_ _)); refine blk_put (cs := #[.string t173, .string t174, .string t175, .string (⟨#[]⟩ : ByteArray), .bool false, .int .i64 0]) ?_ 3 _ rfl; (with_reducible repeat (first | refine blk_drewN ?_ _ | refine blk_drew ?_ | refine blk_alloc ?_ _)); refine blk_put (cs := #[.string t173, .string t174, .string (⟨#[]⟩ : ByteArray), .string (⟨#[]⟩ : ByteArray), .bool false, .int .i64 0]) ?_ 2 _ rfl; (with_reducible repeat (first | refine blk_drewN ?_ _ | refine blk_drew ?_ | refine blk_alloc ?_ _)); refine blk_put (cs := #[.string t173, .string (⟨#[]⟩ : ByteArray), .string (⟨#[]⟩ : ByteArray), .string (⟨#[]⟩ : ByteArray), .bool false, .int .i64 0]) ?_ 1 _ rfl; (with_reducible repeat (first | refine blk_drewN ?_ _ | refine blk_drew ?_ | refine blk_alloc ?_ _)); refine blk_put (cs := #[.string (⟨#[]⟩ : ByteArray), .string (⟨#[]⟩ : ByteArray), .string (⟨#[]⟩ : ByteArray), .string (⟨#[]⟩ : ByteArray), .bool false, .int .i64 0]) ?_ 0 _ rfl; (with_reducible repeat (first | refine blk_drewN ?_ _ | refine blk_drew ?_ | refine blk_alloc ?_ _)); exact BK180.out⟩, ⟨upB HB⟩⟩
     case rest =>
      clear HC18; try clear c1; try clear c2; try clear p2; try clear c3; try clear c5; try clear c6; try clear c7; try clear c8; try clear c9; try clear c10; try clear c10b0; try clear c10b1; try clear c12; try clear c12b0; try clear c12b1; try clear c16; try clear c22; try clear c22b0; try clear c22b1; try clear c24; try clear c24b0; try clear c24b1; try clear c25; try clear c25b0; try clear c25b1; try clear hcz21_0; try clear hcz21_1; try clear hcz21_2; try clear hcz21_3; try clear hcz21_4; try clear hcz21_5; try clear hfz21_0; try clear hfz21_1; try clear hfz21_2; try clear hfz21_3; try clear hfz21_4; try clear hfz21_5; try clear p2
      obtain ⟨kq, x60_17, rfl, HA, HJ17, BK180, HB⟩ := hcut
      cases kq with
      | zero => exact absurd HA.out (by simp [nunciolaw20_HeadOther.j1])
      | succ kj17 =>
       have H := HA.out
       clear HA
       simp only [nunciolaw20_HeadOther.j1] at H
       by_cases c38 : x60_17 = true
       ·subst c38
        have H1 : (some true) = some r := by rw [if_pos rfl] at H; exact H
        clear H; have H := H1; clear H1
        obtain rfl := Option.some.inj H
        go_wp2
        go_ret
        exact ⟨by first | rfl | (simp [errW_none, errW_some] <;> rfl) | (simp [*, errW_none, errW_some] <;> rfl), by repeat (first | (with_reducible first | exact HB.out | apply below_alloc | apply pw_below_drewN | apply below_drew1 | refine below_set ?_ GE180.out) | exact HB.out)⟩
       ·replace c38 := Bool.eq_false_iff.mpr c38
        subst c38
        have H1 : (nunciolaw20_HeadOther.l0 kj17 l0 a1 a2 0 t173 t174 t175 t176 t177 t178) = some r := by rw [if_neg (show ¬ (false = true) by decide)] at H; exact H
        clear H; have H := H1; clear H1
        have HC39 := Aside0.mk H
        clear H
        go_upto_block 0 with (fail)
        go_cut [9] (fun v9 wc => ∃ (kq : Nat) (x9_38 : Int), v9 = .int .i64 x9_38 ∧ Aside0 (nunciolaw20_HeadOther.j3 kq l0 a1 a2 x9_38 t173 t174 t175 t176 t177 t178 = some r) ∧ Aside0 (kq ≤ kj17) ∧ Aside0 (wc.heap[gb180]? = some (.cells #[.string t173, .string t174, .string t175, .string t176, .bool t177, .int .i64 t178] 26 (0, 0))) ∧ Aside0 (Below w.heap.size w wc))
        case first =>
         have H := HC39.out
         clear HC39
         have H' := Aside0.mk H
         clear H
         go_wp2
         go_loopg [9] kj17 (fun kq v9 w' => ∃ (x9_3 : Int), v9 = .int .i64 x9_3 ∧ Aside0 (nunciolaw20_HeadOther.l0 kq l0 a1 a2 x9_3 t173 t174 t175 t176 t177 t178 = some r) ∧ Aside0 (kq ≤ kj17) ∧ Aside0 (w'.heap[gb180]? = some (.cells #[.string t173, .string t174, .string t175, .string t176, .bool t177, .int .i64 t178] 26 (0, 0))) ∧ Aside0 (Below w.heap.size w w'))
         case atStart => exact ⟨(0), (by first | rfl | (simp; done) | (simp [*]; done)), H', ⟨Nat.le_refl _⟩, ⟨upK BK180⟩, ⟨upB HB⟩⟩
         case round =>
          clear H'
          try clear c1; try clear c2; try clear p2; try clear c3; try clear c5; try clear c6; try clear c7; try clear c8; try clear c9; try clear c10; try clear c10b0; try clear c10b1; try clear c12; try clear c12b0; try clear c12b1; try clear c16; try clear c22; try clear c22b0; try clear c22b1; try clear c24; try clear c24b0; try clear c24b1; try clear c25; try clear c25b0; try clear c25b1; try clear c38; try clear hcz21_0; try clear hcz21_1; try clear hcz21_2; try clear hcz21_3; try clear hcz21_4; try clear hcz21_5; try clear hfz21_0; try clear hfz21_1; try clear hfz21_2; try clear hfz21_3; try clear hfz21_4; try clear hfz21_5; try clear p2
          obtain ⟨x9_3, rfl, HA, HK3, BK180, HB⟩ := hrel
          cases gk with
          | zero => exact absurd HA.out (by simp [nunciolaw20_HeadOther.l0])
          | succ k3 =>
           have H := HA.out
           clear HA
           simp only [nunciolaw20_HeadOther.l0] at H
           by_cases c40 : x9_3 < (l0.length : Int)
           ·rw [if_pos c40] at H
            have c40b0 : decide (x9_3 < (l0.length : Int)) = true := decide_eq_true c40
            clear c40
            (first | rw [c40b0] | (simp only [i64_w, i32_w]; rw [c40b0]) | skip)
            by_cases c41 : 0 ≤ x9_3
            ·rw [if_pos c41] at H
             have c41b0 : decide (0 ≤ x9_3) = true := decide_eq_true c41
             clear c41
             by_cases c42 : (((rd_T32 l0 x9_3).f0).size : Int) > 0
             ·rw [if_pos c42] at H
              have c42b0 : decide (0 < (((rd_T32 l0 x9_3).f0).size : Int)) = true := decide_eq_true c42
              have c42b1 : decide (0 < ((rd_T32 l0 x9_3).f0).size) = true := decide_eq_true (by omega)
              clear c42
              by_cases c43 : 0 < (((rd_T32 l0 x9_3).f0).size : Int)
              ·rw [if_pos c43] at H
               have c43b0 : decide (0 < (((rd_T32 l0 x9_3).f0).size : Int)) = true := decide_eq_true c43
               have c43b1 : decide (0 < ((rd_T32 l0 x9_3).f0).size) = true := decide_eq_true (by omega)
               clear c43
               by_cases c45 : (bt ((rd_T32 l0 x9_3).f0) 0) = 58
               ·rw [if_pos c45] at H
                have c45b0 : ((bt ((rd_T32 l0 x9_3).f0) 0) == 58) = true := beq_iff_eq.mpr c45
                have c45b1 : ((bt ((rd_T32 l0 x9_3).f0) 0) != 58) = false := bne_eq_false_iff_eq.mpr c45
                clear c45
                have H' := Aside0.mk H
                clear H
                have p185 : 0 ≤ (x9_3 : Int) := of_decide_eq_true (by first | (with_reducible assumption) | assumption)
                have q185 : x9_3 < (l0.length : Int) := of_decide_eq_true (by first | (with_reducible assumption) | assumption)
                obtain ⟨ad185, e185, hx185_0, hx185_1, hx185_2⟩ := at_T32 HR0.out x9_3 p185 q185
                cases e185
                replace hx185_0 := (HB.out.cell (World.block_lt_of_cell? w _ hx185_0)).trans hx185_0
                replace hx185_1 := (HB.out.cell (World.block_lt_of_cell? w _ hx185_1)).trans hx185_1
                replace hx185_2 := (HB.out.cell (World.block_lt_of_cell? w _ hx185_2)).trans hx185_2
                replace p185 := eq_true p185
                replace q185 := eq_true q185
                have p186 : 0 ≤ (x9_3 : Int) := of_decide_eq_true (by first | (with_reducible assumption) | assumption)
                have q186 : x9_3 < (l0.length : Int) := of_decide_eq_true (by first | (with_reducible assumption) | assumption)
                obtain ⟨ad186, e186, hx186_0, hx186_1, hx186_2⟩ := at_T32 HR0.out x9_3 p186 q186
                obtain rfl : ad185 = ad186 := (by injection e186)
                replace hx186_0 := (HB.out.cell (World.block_lt_of_cell? w _ hx186_0)).trans hx186_0
                replace hx186_1 := (HB.out.cell (World.block_lt_of_cell? w _ hx186_1)).trans hx186_1
                replace hx186_2 := (HB.out.cell (World.block_lt_of_cell? w _ hx186_2)).trans hx186_2
                replace p186 := eq_true p186
                replace q186 := eq_true q186
                have p44 : 0 ≤ (0 : Int) := (by omega)
                have q44 : 0 < ((rd_T32 l0 x9_3).f0).size := (by have : (0 : Int) < (((rd_T32 l0 x9_3).f0).size : Int) := of_decide_eq_true (by first | (with_reducible assumption) | assumption); omega)
                have hx44 : ∀ h : 0 < ((rd_T32 l0 x9_3).f0).size, ((((rd_T32 l0 x9_3).f0)[0]'h).toNat : Int) = bt ((rd_T32 l0 x9_3).f0) 0 := bt_at ((rd_T32 l0 x9_3).f0) 0
                clear p44
                have qi44 : (0 < (((rd_T32 l0 x9_3).f0).size : Int)) = True := eq_true (of_decide_eq_true (by first | (with_reducible assumption) | assumption))
                replace q44 := eq_true q44
                go_wp2
                go_roundg k3
                case measure => have := HJ5.out; have := HJ17.out; have := HK3.out; omega
                case rel => exact ⟨(wrap64 (x9_3 + 1)), (by first | rfl | (simp; done) | (simp [*]; done)), H', ⟨by have := HJ5.out; have := HJ17.out; have := HK3.out; omega⟩, ⟨upK BK180⟩, ⟨upB HB⟩⟩
               ·rw [if_neg c45] at H
                have c45b0 : ((bt ((rd_T32 l0 x9_3).f0) 0) == 58) = false := beq_eq_false_iff_ne.mpr c45
                have c45b1 : ((bt ((rd_T32 l0 x9_3).f0) 0) != 58) = true := bne_iff_ne.mpr c45
                have H' := Aside0.mk H
                clear H
                have p185 : 0 ≤ (x9_3 : Int) := of_decide_eq_true (by first | (with_reducible assumption) | assumption)
                have q185 : x9_3 < (l0.length : Int) := of_decide_eq_true (by first | (with_reducible assumption) | assumption)
                obtain ⟨ad185, e185, hx185_0, hx185_1, hx185_2⟩ := at_T32 HR0.out x9_3 p185 q185
                cases e185
                replace hx185_0 := (HB.out.cell (World.block_lt_of_cell? w _ hx185_0)).trans hx185_0
                replace hx185_1 := (HB.out.cell (World.block_lt_of_cell? w _ hx185_1)).trans hx185_1
                replace hx185_2 := (HB.out.cell (World.block_lt_of_cell? w _ hx185_2)).trans hx185_2
                replace p185 := eq_true p185
                replace q185 := eq_true q185
                have p186 : 0 ≤ (x9_3 : Int) := of_decide_eq_true (by first | (with_reducible assumption) | assumption)
                have q186 : x9_3 < (l0.length : Int) := of_decide_eq_true (by first | (with_reducible assumption) | assumption)
                obtain ⟨ad186, e186, hx186_0, hx186_1, hx186_2⟩ := at_T32 HR0.out x9_3 p186 q186
                obtain rfl : ad185 = ad186 := (by injection e186)
                replace hx186_0 := (HB.out.cell (World.block_lt_of_cell? w _ hx186_0)).trans hx186_0
                replace hx186_1 := (HB.out.cell (World.block_lt_of_cell? w _ hx186_1)).trans hx186_1
                replace hx186_2 := (HB.out.cell (World.block_lt_of_cell? w _ hx186_2)).trans hx186_2
                replace p186 := eq_true p186
                replace q186 := eq_true q186
                have p44 : 0 ≤ (0 : Int) := (by omega)
                have q44 : 0 < ((rd_T32 l0 x9_3).f0).size := (by have : (0 : Int) < (((rd_T32 l0 x9_3).f0).size : Int) := of_decide_eq_true (by first | (with_reducible assumption) | assumption); omega)
                have hx44 : ∀ h : 0 < ((rd_T32 l0 x9_3).f0).size, ((((rd_T32 l0 x9_3).f0)[0]'h).toNat : Int) = bt ((rd_T32 l0 x9_3).f0) 0 := bt_at ((rd_T32 l0 x9_3).f0) 0
                clear p44
                have qi44 : (0 < (((rd_T32 l0 x9_3).f0).size : Int)) = True := eq_true (of_decide_eq_true (by first | (with_reducible assumption) | assumption))
                replace q44 := eq_true q44
                go_wp2
                go_meet
                case rel => exact ⟨_, (x9_3), (by first | rfl | (simp; done) | (simp [*]; done)), H', ⟨by have := HJ5.out; have := HJ17.out; have := HK3.out; first | omega | exact Nat.le_refl _⟩, ⟨upK BK180⟩, ⟨upB HB⟩⟩
              ·rw [if_neg c43] at H
               exact absurd H (by simp)
             ·rw [if_neg c42] at H
              have c42b0 : decide (0 < (((rd_T32 l0 x9_3).f0).size : Int)) = false := decide_eq_false c42
              have c42b1 : decide (0 < ((rd_T32 l0 x9_3).f0).size) = false := decide_eq_false (by omega)
              clear c42
              have H' := Aside0.mk H
              clear H
              have p185 : 0 ≤ (x9_3 : Int) := of_decide_eq_true (by first | (with_reducible assumption) | assumption)
              have q185 : x9_3 < (l0.length : Int) := of_decide_eq_true (by first | (with_reducible assumption) | assumption)
              obtain ⟨ad185, e185, hx185_0, hx185_1, hx185_2⟩ := at_T32 HR0.out x9_3 p185 q185
              cases e185
              replace hx185_0 := (HB.out.cell (World.block_lt_of_cell? w _ hx185_0)).trans hx185_0
              replace hx185_1 := (HB.out.cell (World.block_lt_of_cell? w _ hx185_1)).trans hx185_1
              replace hx185_2 := (HB.out.cell (World.block_lt_of_cell? w _ hx185_2)).trans hx185_2
              replace p185 := eq_true p185
              replace q185 := eq_true q185
              go_wp2
              go_meet
              case rel => exact ⟨_, (x9_3), (by first | rfl | (simp; done) | (simp [*]; done)), H', ⟨by have := HJ5.out; have := HJ17.out; have := HK3.out; first | omega | exact Nat.le_refl _⟩, ⟨upK BK180⟩, ⟨upB HB⟩⟩
            ·rw [if_neg c41] at H
             exact absurd H (by simp)
           ·rw [if_neg c40] at H
            have c40b0 : decide (x9_3 < (l0.length : Int)) = false := decide_eq_false c40
            clear c40
            (first | rw [c40b0] | (simp only [i64_w, i32_w]; rw [c40b0]) | skip)
            have H' := Aside0.mk H
            clear H
            go_wp2
            go_meet
            case rel => exact ⟨_, (x9_3), (by first | rfl | (simp; done) | (simp [*]; done)), H', ⟨by have := HJ5.out; have := HJ17.out; have := HK3.out; first | omega | exact Nat.le_refl _⟩, ⟨upK BK180⟩, ⟨upB HB⟩⟩
        case rest =>
         clear HC39; try clear c1; try clear p1; try clear q1; try clear hx1; try clear c2; try clear p2; try clear c3; try clear c4; try clear p4; try clear q4; try clear hx4; try clear qi4; try clear c5; try clear c6; try clear p6; try clear c7; try clear c8; try clear c9; try clear c10; try clear c10b0; try clear c10b1; try clear c12; try clear c12b0; try clear c12b1; try clear c16; try clear p18; try clear q18; try clear hx18; try clear c22; try clear c22b0; try clear c22b1; try clear c24; try clear c24b0; try clear c24b1; try clear c25; try clear c25b0; try clear c25b1; try clear c38; try clear c40; try clear c40b0; try clear c41; try clear c41b0; try clear c42; try clear c42b0; try clear c42b1; try clear c43; try clear c43b0; try clear c43b1; try clear p44; try clear q44; try clear hx44; try clear qi44; try clear c45; try clear c45b0; try clear c45b1; try clear hcz21_0; try clear hcz21_1; try clear hcz21_2; try clear hcz21_3; try clear hcz21_4; try clear hcz21_5; try clear hfz21_0; try clear hfz21_1; try clear hfz21_2; try clear hfz21_3; try clear hfz21_4; try clear hfz21_5; try clear hx185_0; try clear hx185_1; try clear hx185_2; try clear hx186_0; try clear hx186_1; try clear hx186_2; try clear p185; try clear p186; try clear p2; try clear p44; try clear q185; try clear q186; try clear q44
         obtain ⟨kq, x9_38, rfl, HA, HJ38, BK180, HB⟩ := hcut
         cases kq with
         | zero => exact absurd HA.out (by simp [nunciolaw20_HeadOther.j3])
         | succ kj38 =>
          have H := HA.out
          clear HA
          rename_i hK_
          exact hK_ _ _ (nunciolaw20_HeadOther.rest k A0 c0 l0 a1 a2 r w HR0 HC0 kj5 HJ5 t173 t174 t175 t176 t177 t178 t179 gb180 GE180 kj17 HJ17 _ _ _ _ _ _ _ _ _ _ _ _ _ _ _ _ _ _ _ _ _ _ _ _ _ _ _ _ _ _ _ _ _ _ _ _ _ _ _ _ _ _ _ _ _ _ _ _ _ _ _ _ _ _ _ _ _ _ _ _ _ _ _ _ _ _ _ _ _ _ _ _ _ _ _ _ _ _ _ _ _ _ _ _ _ _ _ _ _ _ _ _ _ _ _ _ _ _ _ _ _ _ _ _ _ _ _ _ _ _ _ _ _ _ _ _ _ _ _ _ _ _ _ _ _ _ _ _ _ _ _ _ _ _ _ _ _ _ _ _ _ _ _ _ _ _ wc x9_38 BK180 HB kj38 HJ38 H)
 ·replace c5 := Bool.eq_false_iff.mpr c5
  subst c5
  have H1 : (none) = some r := by rw [if_neg (show ¬ (false = true) by decide)] at H; exact H
  clear H; have H := H1; clear H1
  exact absurd H (by simp)

end Go.Proofs.YtgfdmaohnngpjaaDoor.P
