/- The law HeadWrong's walk. Conditions: those that the theorem names. -/
import Derived.Test.YtgfdmaohnngpjaaDoorPx0
import Derived.Test.YtgfdmaohnngpjaaDoorPx13
import Derived.Test.YtgfdmaohnngpjaaDoorPx16
import Derived.Test.YtgfdmaohnngpjaaDoorPx18
import Derived.Test.YtgfdmaohnngpjaaDoorHWDefs
namespace Go.Proofs.YtgfdmaohnngpjaaDoor.P
open Go.RowKit Go.Proofs.YtgfdmaohnngpjaaDoorW.PrintWords Go.Proofs.YtgfdmaohnngpjaaDoorW.PrintLast Go.Proofs.YtgfdmaohnngpjaaDoorW.PrintMore
attribute [local go_sem] max2_int min2_int max_two min_two max_three min_three max_four min_four   -- for this text's walks alone
set_option linter.unusedVariables false
set_option linter.unusedSimpArgs false

set_option maxHeartbeats 8000000 in
set_option maxRecDepth 100000 in
theorem HW.calls (k : Nat) (A0 : Option Addr) (c0 : Nat) (l0 : List (S32)) (a1 : Int) (r : Bool) (w : World) (hr0 : Kd.C k32 w A0 l0.length l0) (hc0 : l0.length ≤ c0) (h : HW.f k l0 a1 = some r) :
  Calls Tryd.prog 4 #[.slice A0 l0.length c0, .int .i64 a1] w fun e w' => e = .returned (.bool r) ∧ Below w.heap.size w w' := by
 have hu26 := Tryd.underlying26
 have hu32 := Tryd.underlying32
 have HR0 := Aside0.mk hr0
 have HC0 := Aside0.mk hc0
 clear hr0 hc0
 have HB := Aside0.mk (Below.refl w.heap.size w)
 have H : ((nunciolaw20_awake.f).bind fun t260 => (if t260 = true then ((nunciolaw13_FewFields.f k l0).bind fun t261 => (if t261 = true then (HW.j0 k l0 a1 (decide ((l0.length : Int) > 200))) else (HW.j0 k l0 a1 true))) else (none))) = some r := h
 clear h
 replace H := Option.bind_eq_some_iff.mp H
 obtain ⟨t260, A30, H⟩ := H
 replace H : (if t260 = true then ((nunciolaw13_FewFields.f k l0).bind fun t261 => (if t261 = true then (HW.j0 k l0 a1 (decide ((l0.length : Int) > 200))) else (HW.j0 k l0 a1 true))) else (none)) = some r := H
 have A3 := Aside0.mk A30
 clear A30
 by_cases c4 : t260 = true
 ·subst c4
  have H1 : ((nunciolaw13_FewFields.f k l0).bind fun t261 => (if t261 = true then (HW.j0 k l0 a1 (decide ((l0.length : Int) > 200))) else (HW.j0 k l0 a1 true))) = some r := by rw [if_pos rfl] at H; exact H
  clear H; have H := H1; clear H1
  have HC5 := Aside0.mk H
  clear H
  go_enter Tryd.func4, Tryd.ntmps4
  go_upto_region 3 with (first | ((with_reducible refine gate_callee (f := 6) rfl ?_); refine goesL_ (some 15) rfl rfl Tryd.func6 (by kernel_rfl) rfl #[] rfl (by (try simp only [List.map_toArray, List.map_cons, List.map_nil]); first | done | rfl | (simp only [List.length_drop, List.length_take]; rfl)) ?_; (with_reducible refine (nunciolaw20_awake.calls  true _ A3.out).mono ?_); rintro e w6 ⟨rfl, hb⟩; refine ⟨_, rfl, ?_⟩; have n0_ := Aside0.mk (below_step (wB HB) hb); clear HB; have HB := n0_; clear n0_; (try clear hb); (try clear hb2); (try clear hk); (try clear hi)))
  (try simp only [Act.put, List.setIfInBounds_toArray, List.set_cons_zero, List.set_cons_succ])
  go_cut [24] (fun v24 wc => ∃ (kq : Nat) (x24_4 : Bool), v24 = .bool x24_4 ∧ Aside0 (HW.j0 kq l0 a1 x24_4 = some r) ∧ Aside0 (kq ≤ k) ∧ Aside0 (Below w.heap.size w wc))
  case first =>
   have H := HC5.out
   clear HC5
   replace H := Option.bind_eq_some_iff.mp H
   obtain ⟨t261, A70, H⟩ := H
   replace H : (if t261 = true then (HW.j0 k l0 a1 (decide ((l0.length : Int) > 200))) else (HW.j0 k l0 a1 true)) = some r := H
   have A7 := Aside0.mk A70
   clear A70
   by_cases c8 : t261 = true
   ·subst c8
    have H1 : (HW.j0 k l0 a1 (decide ((l0.length : Int) > 200))) = some r := by rw [if_pos rfl] at H; exact H
    clear H; have H := H1; clear H1
    have H' := Aside0.mk H
    clear H
    go_wp2_with (first | ((with_reducible refine gate_callee (f := 7) rfl ?_); refine goesL_ (some 18) rfl rfl Tryd.func7 (by kernel_rfl) rfl #[.slice A0 l0.length c0] rfl (by (try simp only [List.map_toArray, List.map_cons, List.map_nil]); first | done | rfl | (simp only [List.length_drop, List.length_take]; rfl)) ?_; (with_reducible refine (nunciolaw13_FewFields.calls k _ _ l0 true _ ?side1 ?side2 A7.out).mono ?_); (case side1 => repeat (first | exact (Kd.C_below HR0.out HB.out) | (with_reducible refine Kd.C_alloc ?_ _) | (with_reducible refine Kd.C_drewN ?_ _) | (with_reducible refine Kd.C_drew ?_))); (case side2 => exact HC0.out); rintro e w9 ⟨rfl, hb⟩; refine ⟨_, rfl, ?_⟩; have n0_ := Aside0.mk (below_step (wB HB) hb); clear HB; have HB := n0_; clear n0_; (try clear hb); (try clear hb2); (try clear hk); (try clear hi)))
    go_meet
    case rel => exact ⟨_, (decide ((l0.length : Int) > 200)), (by first | rfl | (simp; done) | (simp [*]; done)), H', ⟨by first | omega | exact Nat.le_refl _⟩, ⟨wB HB⟩⟩
   ·replace c8 := Bool.eq_false_iff.mpr c8
    subst c8
    have H1 : (HW.j0 k l0 a1 true) = some r := by rw [if_neg (show ¬ (false = true) by decide)] at H; exact H
    clear H; have H := H1; clear H1
    have H' := Aside0.mk H
    clear H
    go_wp2_with (first | ((with_reducible refine gate_callee (f := 7) rfl ?_); refine goesL_ (some 18) rfl rfl Tryd.func7 (by kernel_rfl) rfl #[.slice A0 l0.length c0] rfl (by (try simp only [List.map_toArray, List.map_cons, List.map_nil]); first | done | rfl | (simp only [List.length_drop, List.length_take]; rfl)) ?_; (with_reducible refine (nunciolaw13_FewFields.calls k _ _ l0 false _ ?side1 ?side2 A7.out).mono ?_); (case side1 => repeat (first | exact (Kd.C_below HR0.out HB.out) | (with_reducible refine Kd.C_alloc ?_ _) | (with_reducible refine Kd.C_drewN ?_ _) | (with_reducible refine Kd.C_drew ?_))); (case side2 => exact HC0.out); rintro e w10 ⟨rfl, hb⟩; refine ⟨_, rfl, ?_⟩; have n0_ := Aside0.mk (below_step (wB HB) hb); clear HB; have HB := n0_; clear n0_; (try clear hb); (try clear hb2); (try clear hk); (try clear hi)))
    go_meet
    case rel => exact ⟨_, (true), (by first | rfl | (simp; done) | (simp [*]; done)), H', ⟨by first | omega | exact Nat.le_refl _⟩, ⟨wB HB⟩⟩
  case rest =>
   clear HC5; try clear p2; try clear c4; try clear c6; try clear c7; try clear c8
   obtain ⟨kq, x24_4, rfl, HA, HJ4, HB⟩ := hcut
   cases kq with
   | zero => exact absurd HA.out (by simp [HW.j0])
   | succ kj4 =>
    have H := HA.out
    clear HA
    simp only [HW.j0] at H
    by_cases c11 : x24_4 = true
    ·subst c11
     have H1 : (some true) = some r := by rw [if_pos rfl] at H; exact H
     clear H; have H := H1; clear H1
     obtain rfl := Option.some.inj H
     go_wp2
     go_ret
     exact ⟨by first | rfl | (simp [errW_none, errW_some] <;> rfl) | (simp [*, errW_none, errW_some] <;> rfl), by repeat (first | (with_reducible first | exact HB.out | apply below_alloc | apply pw_below_drewN | apply below_drew1) | exact HB.out)⟩
    ·replace c11 := Bool.eq_false_iff.mpr c11
     subst c11
     have H1 : ((head_Request.f l0).bind fun bt262 => (if bt262.2.2.2.2.2.2 = 0 then (HW.l0 kj4 l0 a1 (([(⟨⟨#[88]⟩, ⟨#[121]⟩, false⟩ : S32), (⟨⟨#[99, 111, 110, 110, 101, 99, 116, 105, 111, 110]⟩, ⟨#[99, 108, 111, 115, 101]⟩, false⟩ : S32), (⟨⟨#[116, 101]⟩, ⟨#[103, 122, 105, 112]⟩, false⟩ : S32), (⟨⟨#[120]⟩, ⟨#[32, 121]⟩, false⟩ : S32), (⟨⟨#[]⟩, ⟨#[121]⟩, false⟩ : S32), (⟨⟨#[116, 114, 97, 110, 115, 102, 101, 114, 45, 101, 110, 99, 111, 100, 105, 110, 103]⟩, ⟨#[99, 104, 117, 110, 107, 101, 100]⟩, false⟩ : S32), (⟨⟨#[99, 111, 110, 116, 101, 110, 116, 45, 108, 101, 110, 103, 116, 104]⟩, ⟨#[48, 49]⟩, false⟩ : S32), (⟨⟨#[58, 111, 116, 104, 101, 114]⟩, ⟨#[121]⟩, false⟩ : S32), (⟨⟨#[58, 109, 101, 116, 104, 111, 100]⟩, ⟨#[71, 69, 84]⟩, false⟩ : S32), (⟨⟨#[120, 32, 121]⟩, ⟨#[122]⟩, false⟩ : S32)] : List (S32))) 0) else (some true))) = some r := by rw [if_neg (show ¬ (false = true) by decide)] at H; exact H
     clear H; have H := H1; clear H1
     replace H := Option.bind_eq_some_iff.mp H
     obtain ⟨⟨t262, t263, t264, t265, t266, t267, t268⟩, A120, H⟩ := H
     replace H : (if t268 = 0 then (HW.l0 kj4 l0 a1 (([(⟨⟨#[88]⟩, ⟨#[121]⟩, false⟩ : S32), (⟨⟨#[99, 111, 110, 110, 101, 99, 116, 105, 111, 110]⟩, ⟨#[99, 108, 111, 115, 101]⟩, false⟩ : S32), (⟨⟨#[116, 101]⟩, ⟨#[103, 122, 105, 112]⟩, false⟩ : S32), (⟨⟨#[120]⟩, ⟨#[32, 121]⟩, false⟩ : S32), (⟨⟨#[]⟩, ⟨#[121]⟩, false⟩ : S32), (⟨⟨#[116, 114, 97, 110, 115, 102, 101, 114, 45, 101, 110, 99, 111, 100, 105, 110, 103]⟩, ⟨#[99, 104, 117, 110, 107, 101, 100]⟩, false⟩ : S32), (⟨⟨#[99, 111, 110, 116, 101, 110, 116, 45, 108, 101, 110, 103, 116, 104]⟩, ⟨#[48, 49]⟩, false⟩ : S32), (⟨⟨#[58, 111, 116, 104, 101, 114]⟩, ⟨#[121]⟩, false⟩ : S32), (⟨⟨#[58, 109, 101, 116, 104, 111, 100]⟩, ⟨#[71, 69, 84]⟩, false⟩ : S32), (⟨⟨#[120, 32, 121]⟩, ⟨#[122]⟩, false⟩ : S32)] : List (S32))) 0) else (some true)) = some r := H
     have A12 := Aside0.mk A120
     clear A120
     by_cases c13 : t268 = 0
     ·rw [if_pos c13] at H
      have c13b0 : (t268 == 0) = true := beq_iff_eq.mpr c13
      have c13b1 : (t268 != 0) = false := bne_eq_false_iff_eq.mpr c13
      clear c13
      obtain ⟨y270, hy270⟩ : ∃ y_ : List (S32), y_ = (([(⟨⟨#[88]⟩, ⟨#[121]⟩, false⟩ : S32), (⟨⟨#[99, 111, 110, 110, 101, 99, 116, 105, 111, 110]⟩, ⟨#[99, 108, 111, 115, 101]⟩, false⟩ : S32), (⟨⟨#[116, 101]⟩, ⟨#[103, 122, 105, 112]⟩, false⟩ : S32), (⟨⟨#[120]⟩, ⟨#[32, 121]⟩, false⟩ : S32), (⟨⟨#[]⟩, ⟨#[121]⟩, false⟩ : S32), (⟨⟨#[116, 114, 97, 110, 115, 102, 101, 114, 45, 101, 110, 99, 111, 100, 105, 110, 103]⟩, ⟨#[99, 104, 117, 110, 107, 101, 100]⟩, false⟩ : S32), (⟨⟨#[99, 111, 110, 116, 101, 110, 116, 45, 108, 101, 110, 103, 116, 104]⟩, ⟨#[48, 49]⟩, false⟩ : S32), (⟨⟨#[58, 111, 116, 104, 101, 114]⟩, ⟨#[121]⟩, false⟩ : S32), (⟨⟨#[58, 109, 101, 116, 104, 111, 100]⟩, ⟨#[71, 69, 84]⟩, false⟩ : S32), (⟨⟨#[120, 32, 121]⟩, ⟨#[122]⟩, false⟩ : S32)] : List (S32))) := ⟨_, rfl⟩
      replace H : (HW.l0 kj4 l0 a1 y270 0) = some r := by first | (rw [hy270]; with_reducible exact H) | (have H2_ := (Option.bind_some _ _).symm.trans H; rw [hy270]; with_reducible exact H2_) | (have H2_ := (Option.bind_some _ _).symm.trans H; with_reducible exact H2_) | with_reducible exact H | (rw [hy270]; exact H) | exact H
      have Ny270 := Aside0.mk hy270
      clear hy270
      have H' := Aside0.mk H
      clear H
      go_wp2_with (first | ((with_reducible refine gate_callee (f := 8) rfl ?_); refine goesL_ (some 27) rfl rfl Tryd.func8 (by kernel_rfl) rfl #[.slice A0 l0.length c0] rfl (by (try simp only [List.map_toArray, List.map_cons, List.map_nil]); first | done | rfl | (simp only [List.length_drop, List.length_take]; rfl)) ?_; (with_reducible refine (head_Request.calls _ _ l0 t262 t263 t264 t265 t266 t267 t268 _ ?side1 ?side2 A12.out).mono ?_); (case side1 => repeat (first | exact (Kd.C_below HR0.out HB.out) | (with_reducible refine Kd.C_alloc ?_ _) | (with_reducible refine Kd.C_drewN ?_ _) | (with_reducible refine Kd.C_drew ?_))); (case side2 => exact HC0.out); rintro e w14 ⟨rfl, hb⟩; refine ⟨_, rfl, ?_⟩; have n0_ := Aside0.mk (below_step (wB HB) hb); clear HB; have HB := n0_; clear n0_; (try clear hb); (try clear hb2); (try clear hk); (try clear hi)) | ((with_reducible refine gate_dst (N := 5) rfl ?_); (try (refine gate_guard (by rfl) ?_; dsimp only)); refine box_event ?hg (N := 5) ?hd (cs := #[.string (⟨#[]⟩ : ByteArray), .string (⟨#[]⟩ : ByteArray), .string (⟨#[]⟩ : ByteArray), .string (⟨#[]⟩ : ByteArray), .bool false, .int .i64 0]) (t := 26) ?hr ?_; (case hd => rfl); (case hg => rfl); (case hr => first | (go_simp; done) | (go_simp; rfl)); intro gb269 hg w15 hbox hb; have n0_ := Aside0.mk (below_step (wB HB) hb); have n1_ := Aside0.mk (hbox); have n2_ := Aside0.mk ((by rw [hg]; exact (below_size (wB HB)) : w.heap.size ≤ gb269)); have n3_ := Aside0.mk ((by rw [hg]; exact (below_size (wB HB)) : w.heap.size ≤ gb269)); clear HB; have HB := n0_; have BK269 := n1_; have GW269 := n2_; have GE269 := n3_; clear n0_ n1_ n2_ n3_; clear hb hbox hg; have hcz16_0 : w15.cell? ⟨gb269, 0, none⟩ = some (.string (⟨#[]⟩ : ByteArray)) := (blk_cell BK269.out 0).trans rfl; have hcz16_1 : w15.cell? ⟨gb269, 1, none⟩ = some (.string (⟨#[]⟩ : ByteArray)) := (blk_cell BK269.out 1).trans rfl; have hcz16_2 : w15.cell? ⟨gb269, 2, none⟩ = some (.string (⟨#[]⟩ : ByteArray)) := (blk_cell BK269.out 2).trans rfl; have hcz16_3 : w15.cell? ⟨gb269, 3, none⟩ = some (.string (⟨#[]⟩ : ByteArray)) := (blk_cell BK269.out 3).trans rfl; have hcz16_4 : w15.cell? ⟨gb269, 4, none⟩ = some (.bool false) := (blk_cell BK269.out 4).trans rfl; have hcz16_5 : w15.cell? ⟨gb269, 5, none⟩ = some (.int .i64 0) := (blk_cell BK269.out 5).trans rfl; have hfz16_0 := blk_frozen BK269.out 0; have hfz16_1 := blk_frozen BK269.out 1; have hfz16_2 := blk_frozen BK269.out 2; have hfz16_3 := blk_frozen BK269.out 3; have hfz16_4 := blk_frozen BK269.out 4; have hfz16_5 := blk_frozen BK269.out 5) | ((with_reducible refine gate_dst (N := 42) rfl ?_); (try (refine gate_guard (by rfl) ?_; dsimp only)); refine Kd.R_lit k32 _ 32 ?hg (N := 42) ?hd (xs := ([(⟨⟨#[88]⟩, ⟨#[121]⟩, false⟩ : S32), (⟨⟨#[99, 111, 110, 110, 101, 99, 116, 105, 111, 110]⟩, ⟨#[99, 108, 111, 115, 101]⟩, false⟩ : S32), (⟨⟨#[116, 101]⟩, ⟨#[103, 122, 105, 112]⟩, false⟩ : S32), (⟨⟨#[120]⟩, ⟨#[32, 121]⟩, false⟩ : S32), (⟨⟨#[]⟩, ⟨#[121]⟩, false⟩ : S32), (⟨⟨#[116, 114, 97, 110, 115, 102, 101, 114, 45, 101, 110, 99, 111, 100, 105, 110, 103]⟩, ⟨#[99, 104, 117, 110, 107, 101, 100]⟩, false⟩ : S32), (⟨⟨#[99, 111, 110, 116, 101, 110, 116, 45, 108, 101, 110, 103, 116, 104]⟩, ⟨#[48, 49]⟩, false⟩ : S32), (⟨⟨#[58, 111, 116, 104, 101, 114]⟩, ⟨#[121]⟩, false⟩ : S32), (⟨⟨#[58, 109, 101, 116, 104, 111, 100]⟩, ⟨#[71, 69, 84]⟩, false⟩ : S32), (⟨⟨#[120, 32, 121]⟩, ⟨#[122]⟩, false⟩ : S32)] : List (S32))) (inner := [.string (⟨#[88]⟩ : ByteArray), .string (⟨#[121]⟩ : ByteArray), .bool false, .string (⟨#[99, 111, 110, 110, 101, 99, 116, 105, 111, 110]⟩ : ByteArray), .string (⟨#[99, 108, 111, 115, 101]⟩ : ByteArray), .bool false, .string (⟨#[116, 101]⟩ : ByteArray), .string (⟨#[103, 122, 105, 112]⟩ : ByteArray), .bool false, .string (⟨#[120]⟩ : ByteArray), .string (⟨#[32, 121]⟩ : ByteArray), .bool false, .string (⟨#[]⟩ : ByteArray), .string (⟨#[121]⟩ : ByteArray), .bool false, .string (⟨#[116, 114, 97, 110, 115, 102, 101, 114, 45, 101, 110, 99, 111, 100, 105, 110, 103]⟩ : ByteArray), .string (⟨#[99, 104, 117, 110, 107, 101, 100]⟩ : ByteArray), .bool false, .string (⟨#[99, 111, 110, 116, 101, 110, 116, 45, 108, 101, 110, 103, 116, 104]⟩ : ByteArray), .string (⟨#[48, 49]⟩ : ByteArray), .bool false, .string (⟨#[58, 111, 116, 104, 101, 114]⟩ : ByteArray), .string (⟨#[121]⟩ : ByteArray), .bool false, .string (⟨#[58, 109, 101, 116, 104, 111, 100]⟩ : ByteArray), .string (⟨#[71, 69, 84]⟩ : ByteArray), .bool false, .string (⟨#[120, 32, 121]⟩ : ByteArray), .string (⟨#[122]⟩ : ByteArray), .bool false]) (ok := fun _ => True) (okp := fun _ => True) ?hr ?hp (fun _ hk => hk) trivial (Below.refl _ _) (Nat.le_refl _) (by simp) ?_; (case hd => rfl); (case hg => rfl); (case hr => first | (go_simp; done) | (go_simp; rfl)); (case hp => exact (Reps.c3 (show Kd.M k32 _ _ _ (⟨⟨#[88]⟩, ⟨#[121]⟩, false⟩ : S32) [.string (⟨#[88]⟩ : ByteArray), .string (⟨#[121]⟩ : ByteArray), .bool false] from (k32_mkM _ _ _ (⟨⟨#[88]⟩, ⟨#[121]⟩, false⟩ : S32) )) (Reps.c3 (show Kd.M k32 _ _ _ (⟨⟨#[99, 111, 110, 110, 101, 99, 116, 105, 111, 110]⟩, ⟨#[99, 108, 111, 115, 101]⟩, false⟩ : S32) [.string (⟨#[99, 111, 110, 110, 101, 99, 116, 105, 111, 110]⟩ : ByteArray), .string (⟨#[99, 108, 111, 115, 101]⟩ : ByteArray), .bool false] from (k32_mkM _ _ _ (⟨⟨#[99, 111, 110, 110, 101, 99, 116, 105, 111, 110]⟩, ⟨#[99, 108, 111, 115, 101]⟩, false⟩ : S32) )) (Reps.c3 (show Kd.M k32 _ _ _ (⟨⟨#[116, 101]⟩, ⟨#[103, 122, 105, 112]⟩, false⟩ : S32) [.string (⟨#[116, 101]⟩ : ByteArray), .string (⟨#[103, 122, 105, 112]⟩ : ByteArray), .bool false] from (k32_mkM _ _ _ (⟨⟨#[116, 101]⟩, ⟨#[103, 122, 105, 112]⟩, false⟩ : S32) )) (Reps.c3 (show Kd.M k32 _ _ _ (⟨⟨#[120]⟩, ⟨#[32, 121]⟩, false⟩ : S32) [.string (⟨#[120]⟩ : ByteArray), .string (⟨#[32, 121]⟩ : ByteArray), .bool false] from (k32_mkM _ _ _ (⟨⟨#[120]⟩, ⟨#[32, 121]⟩, false⟩ : S32) )) (Reps.c3 (show Kd.M k32 _ _ _ (⟨⟨#[]⟩, ⟨#[121]⟩, false⟩ : S32) [.string (⟨#[]⟩ : ByteArray), .string (⟨#[121]⟩ : ByteArray), .bool false] from (k32_mkM _ _ _ (⟨⟨#[]⟩, ⟨#[121]⟩, false⟩ : S32) )) (Reps.c3 (show Kd.M k32 _ _ _ (⟨⟨#[116, 114, 97, 110, 115, 102, 101, 114, 45, 101, 110, 99, 111, 100, 105, 110, 103]⟩, ⟨#[99, 104, 117, 110, 107, 101, 100]⟩, false⟩ : S32) [.string (⟨#[116, 114, 97, 110, 115, 102, 101, 114, 45, 101, 110, 99, 111, 100, 105, 110, 103]⟩ : ByteArray), .string (⟨#[99, 104, 117, 110, 107, 101, 100]⟩ : ByteArray), .bool false] from (k32_mkM _ _ _ (⟨⟨#[116, 114, 97, 110, 115, 102, 101, 114, 45, 101, 110, 99, 111, 100, 105, 110, 103]⟩, ⟨#[99, 104, 117, 110, 107, 101, 100]⟩, false⟩ : S32) )) (Reps.c3 (show Kd.M k32 _ _ _ (⟨⟨#[99, 111, 110, 116, 101, 110, 116, 45, 108, 101, 110, 103, 116, 104]⟩, ⟨#[48, 49]⟩, false⟩ : S32) [.string (⟨#[99, 111, 110, 116, 101, 110, 116, 45, 108, 101, 110, 103, 116, 104]⟩ : ByteArray), .string (⟨#[48, 49]⟩ : ByteArray), .bool false] from (k32_mkM _ _ _ (⟨⟨#[99, 111, 110, 116, 101, 110, 116, 45, 108, 101, 110, 103, 116, 104]⟩, ⟨#[48, 49]⟩, false⟩ : S32) )) (Reps.c3 (show Kd.M k32 _ _ _ (⟨⟨#[58, 111, 116, 104, 101, 114]⟩, ⟨#[121]⟩, false⟩ : S32) [.string (⟨#[58, 111, 116, 104, 101, 114]⟩ : ByteArray), .string (⟨#[121]⟩ : ByteArray), .bool false] from (k32_mkM _ _ _ (⟨⟨#[58, 111, 116, 104, 101, 114]⟩, ⟨#[121]⟩, false⟩ : S32) )) (Reps.c3 (show Kd.M k32 _ _ _ (⟨⟨#[58, 109, 101, 116, 104, 111, 100]⟩, ⟨#[71, 69, 84]⟩, false⟩ : S32) [.string (⟨#[58, 109, 101, 116, 104, 111, 100]⟩ : ByteArray), .string (⟨#[71, 69, 84]⟩ : ByteArray), .bool false] from (k32_mkM _ _ _ (⟨⟨#[58, 109, 101, 116, 104, 111, 100]⟩, ⟨#[71, 69, 84]⟩, false⟩ : S32) )) (Reps.c3 (show Kd.M k32 _ _ _ (⟨⟨#[120, 32, 121]⟩, ⟨#[122]⟩, false⟩ : S32) [.string (⟨#[120, 32, 121]⟩ : ByteArray), .string (⟨#[122]⟩ : ByteArray), .bool false] from (k32_mkM _ _ _ (⟨⟨#[120, 32, 121]⟩, ⟨#[122]⟩, false⟩ : S32) )) (Reps.none _ _)))))))))))); intro v271 w17 ho18 hb hg_ hnew_; clear hg_ hnew_; (first | rw [← Ny270.out] at ho18 | (simp only [Int.reduceToNat] at ho18; rw [← Ny270.out] at ho18)); have n0_ := Aside0.mk (Kd.R_lower ho18 (below_size (wB HB))); have n1_ := Aside0.mk (blk_below (g := gb269) (o := .cells #[.string t262, .string t263, .string t264, .string t265, .bool t266, .int .i64 t267] 26 (0, 0)) (by (with_reducible repeat (first | refine blk_drewN ?_ _ | refine blk_drew ?_ | refine blk_alloc ?_ _)); refine blk_put (cs := #[.string t262, .string t263, .string t264, .string t265, .bool t266, .int .i64 0]) ?_ 5 _ rfl; (with_reducible repeat (first | refine blk_drewN ?_ _ | refine blk_drew ?_ | refine blk_alloc ?_ _)); refine blk_put (cs := #[.string t262, .string t263, .string t264, .string t265, .bool false, .int .i64 0]) ?_ 4 _ rfl; (with_reducible repeat (first | refine blk_drewN ?_ _ | refine blk_drew ?_ | refine blk_alloc ?_ _)); refine blk_put (cs := #[.string t262, .string t263, .string t264, .string (⟨#[]⟩ : ByteArray), .bool false, .int .i64 0]) ?_ 3 _ rfl; (with_reducible repeat (first | refine blk_drewN ?_ _ | refine blk_drew ?_ | refine blk_alloc ?_ _)); refine blk_put (cs := #[.string t262, .string t263, .string (⟨#[]⟩ : ByteArray), .string (⟨#[]⟩ : ByteArray), .bool false, .int .i64 0]) ?_ 2 _ rfl; (with_reducible repeat (first | refine blk_drewN ?_ _ | refine blk_drew ?_ | refine blk_alloc ?_ _)); refine blk_put (cs := #[.string t262, .string (⟨#[]⟩ : ByteArray), .string (⟨#[]⟩ : ByteArray), .string (⟨#[]⟩ : ByteArray), .bool false, .int .i64 0]) ?_ 1 _ rfl; (with_reducible repeat (first | refine blk_drewN ?_ _ | refine blk_drew ?_ | refine blk_alloc ?_ _)); refine blk_put (cs := #[.string (⟨#[]⟩ : ByteArray), .string (⟨#[]⟩ : ByteArray), .string (⟨#[]⟩ : ByteArray), .string (⟨#[]⟩ : ByteArray), .bool false, .int .i64 0]) ?_ 0 _ rfl; (with_reducible repeat (first | refine blk_drewN ?_ _ | refine blk_drew ?_ | refine blk_alloc ?_ _)); exact BK269.out) hb); have n2_ := Aside0.mk (below_step (wB HB) hb); clear BK269; clear HB; have HO272 := n0_; have BK269 := n1_; have HB := n2_; clear n0_ n1_ n2_; clear hb ho18))
      go_loopg [8] kj4 (fun kq v8 w' => ∃ (x8_2 : Int), v8 = .int .i64 x8_2 ∧ Aside0 (HW.l0 kq l0 a1 y270 x8_2 = some r) ∧ Aside0 (kq ≤ kj4) ∧ Aside0 (Kd.R k32 32 w' w.heap.size (fun _ => True) v271 y270) ∧ Aside0 (w'.heap[gb269]? = some (.cells #[.string t262, .string t263, .string t264, .string t265, .bool t266, .int .i64 t267] 26 (0, 0))) ∧ Aside0 (Below w.heap.size w w'))
      case atStart => exact ⟨(0), (by first | rfl | (simp; done) | (simp [*]; done)), H', ⟨Nat.le_refl _⟩, ⟨wR HO272⟩, ⟨wK BK269⟩, ⟨wB HB⟩⟩
      case round =>
       clear H'
       try clear c1; try clear p2; try clear c3; try clear c4; try clear c6; try clear c7; try clear c8; try clear c11; try clear c13; try clear c13b0; try clear c13b1; try clear hcz16_0; try clear hcz16_1; try clear hcz16_2; try clear hcz16_3; try clear hcz16_4; try clear hcz16_5; try clear hfz16_0; try clear hfz16_1; try clear hfz16_2; try clear hfz16_3; try clear hfz16_4; try clear hfz16_5; try clear p2
       obtain ⟨x8_2, rfl, HA, HK2, HO_7, BK269, HB⟩ := hrel
       cases gk with
       | zero => exact absurd HA.out (by simp [HW.l0])
       | succ k2 =>
        have H := HA.out
        clear HA
        simp only [HW.l0] at H
        by_cases c19 : x8_2 < (y270.length : Int)
        ·rw [if_pos c19] at H
         have c19b0 : decide (x8_2 < (y270.length : Int)) = true := decide_eq_true c19
         clear c19
         obtain ⟨y273, hy273⟩ : ∃ y_ : List (S32), y_ = (([] : List (S32))) := ⟨_, rfl⟩
         replace H : (if y273.length + l0.length < 3518437208883 then ((some (y273 ++ l0 : List (S32))).bind fun y276 => (if 0 ≤ x8_2 then ((some (([(⟨(rd_T32 y270 x8_2).f0, (rd_T32 y270 x8_2).f1, (rd_T32 y270 x8_2).f2⟩ : S32)] : List (S32)) : List (S32))).bind fun y280 => (if y276.length + y280.length < 3518437208883 then ((head_Request.f (y276 ++ y280)).bind fun bt286 => (if bt286.2.2.2.2.2.2 = 100 then (if bt286.1.toList = ([] : List UInt8) then (HW.l0 k2 l0 a1 y270 (wrap64 (x8_2 + 1))) else (none)) else (none))) else (none))) else (none))) else (none)) = some r := by first | (rw [hy273]; with_reducible exact H) | (have H2_ := (Option.bind_some _ _).symm.trans H; rw [hy273]; with_reducible exact H2_) | (have H2_ := (Option.bind_some _ _).symm.trans H; with_reducible exact H2_) | with_reducible exact H | (rw [hy273]; exact H) | exact H
         have Ny273 := Aside0.mk hy273
         clear hy273
         by_cases c20 : y273.length + l0.length < 3518437208883
         ·rw [if_pos c20] at H
          have LMc20 := Aside0.mk c20
          clear c20
          obtain ⟨y276, hy276⟩ : ∃ y_ : List (S32), y_ = (y273 ++ l0) := ⟨_, rfl⟩
          replace H : (if 0 ≤ x8_2 then ((some (([(⟨(rd_T32 y270 x8_2).f0, (rd_T32 y270 x8_2).f1, (rd_T32 y270 x8_2).f2⟩ : S32)] : List (S32)) : List (S32))).bind fun y280 => (if y276.length + y280.length < 3518437208883 then ((head_Request.f (y276 ++ y280)).bind fun bt286 => (if bt286.2.2.2.2.2.2 = 100 then (if bt286.1.toList = ([] : List UInt8) then (HW.l0 k2 l0 a1 y270 (wrap64 (x8_2 + 1))) else (none)) else (none))) else (none))) else (none)) = some r := by first | (rw [hy276]; with_reducible exact H) | (have H2_ := (Option.bind_some _ _).symm.trans H; rw [hy276]; with_reducible exact H2_) | (have H2_ := (Option.bind_some _ _).symm.trans H; with_reducible exact H2_) | with_reducible exact H | (rw [hy276]; exact H) | exact H
          have Ny276 := Aside0.mk hy276
          clear hy276
          by_cases c21 : 0 ≤ x8_2
          ·rw [if_pos c21] at H
           have c21b0 : decide (0 ≤ x8_2) = true := decide_eq_true c21
           clear c21
           obtain ⟨y280, hy280⟩ : ∃ y_ : List (S32), y_ = (([(⟨(rd_T32 y270 x8_2).f0, (rd_T32 y270 x8_2).f1, (rd_T32 y270 x8_2).f2⟩ : S32)] : List (S32))) := ⟨_, rfl⟩
           replace H : (if y276.length + y280.length < 3518437208883 then ((head_Request.f (y276 ++ y280)).bind fun bt286 => (if bt286.2.2.2.2.2.2 = 100 then (if bt286.1.toList = ([] : List UInt8) then (HW.l0 k2 l0 a1 y270 (wrap64 (x8_2 + 1))) else (none)) else (none))) else (none)) = some r := by first | (rw [hy280]; with_reducible exact H) | (have H2_ := (Option.bind_some _ _).symm.trans H; rw [hy280]; with_reducible exact H2_) | (have H2_ := (Option.bind_some _ _).symm.trans H; with_reducible exact H2_) | with_reducible exact H | (rw [hy280]; exact H) | exact H
           have Ny280 := Aside0.mk hy280
           clear hy280
           by_cases c22 : y276.length + y280.length < 3518437208883
           ·rw [if_pos c22] at H
            have LMc22 := Aside0.mk c22
            clear c22
            obtain ⟨y283, hy283⟩ : ∃ y_ : List (S32), y_ = (y276 ++ y280) := ⟨_, rfl⟩
            replace H : ((head_Request.f y283).bind fun bt286 => (if bt286.2.2.2.2.2.2 = 100 then (if bt286.1.toList = ([] : List UInt8) then (HW.l0 k2 l0 a1 y270 (wrap64 (x8_2 + 1))) else (none)) else (none))) = some r := by first | (rw [hy283]; with_reducible exact H) | (have H2_ := (Option.bind_some _ _).symm.trans H; rw [hy283]; with_reducible exact H2_) | (have H2_ := (Option.bind_some _ _).symm.trans H; with_reducible exact H2_) | with_reducible exact H | (rw [hy283]; exact H) | exact H
            have Ny283 := Aside0.mk hy283
            clear hy283
            replace H := Option.bind_eq_some_iff.mp H
            obtain ⟨⟨t286, t287, t288, t289, t290, t291, t292⟩, A230, H⟩ := H
            replace H : (if t292 = 100 then (if t286.toList = ([] : List UInt8) then (HW.l0 k2 l0 a1 y270 (wrap64 (x8_2 + 1))) else (none)) else (none)) = some r := H
            have A23 := Aside0.mk A230
            clear A230
            by_cases c24 : t292 = 100
            ·rw [if_pos c24] at H
             have c24b0 : (t292 == 100) = true := beq_iff_eq.mpr c24
             have c24b1 : (t292 != 100) = false := bne_eq_false_iff_eq.mpr c24
             clear c24
             by_cases c25 : t286.toList = ([] : List UInt8)
             ·rw [if_pos c25] at H
              have c25b0 : (t286.toList == ([] : List UInt8)) = true := beq_iff_eq.mpr c25
              have c25b1 : (t286.toList != ([] : List UInt8)) = false := bne_eq_false_iff_eq.mpr c25
              have c25b2 : t286.toList.isEmpty = true := List.isEmpty_iff.mpr c25
              (try (have c25b3 : (t286.toList = []) = True := eq_true c25))
              clear c25
              have H' := Aside0.mk H
              clear H
              obtain ⟨Ao26, co26, eo26⟩ := Kd.R_slice HO_7.out
              subst eo26
              try go_wp2
              have n0_ := Aside0.mk (Kd.R_drew HO_7.out)
              have n1_ := Aside0.mk (blk_drew BK269.out)
              have n2_ := Aside0.mk (below_drew1 HB.out)
              clear HO_7 BK269 HB; have HO_7 := n0_; have BK269 := n1_; have HB := n2_; clear n0_ n1_ n2_
              have p279 : 0 ≤ (x8_2 : Int) := of_decide_eq_true (by first | (with_reducible assumption) | assumption)
              have q279 : x8_2 < (y270.length : Int) := of_decide_eq_true (by first | (with_reducible assumption) | assumption)
              obtain ⟨ad279, e279, hx279_0, hx279_1, hx279_2⟩ := at_T32 (Kd.R_reads' HO_7.out).2.2 x8_2 p279 q279
              cases e279
              replace p279 := eq_true p279
              replace q279 := eq_true q279
              refine start_ (n := 16) (S := fun w' => w'.cell? (ad279.add ((x8_2).toNat * 3)) = some (.string ((rd_T32 y270 x8_2).f0)) ∧ w'.cell? ⟨(ad279.add ((x8_2).toNat * 3)).block, (ad279.add ((x8_2).toNat * 3)).off + 1, none⟩ = some (.string ((rd_T32 y270 x8_2).f1)) ∧ w'.cell? ⟨(ad279.add ((x8_2).toNat * 3)).block, (ad279.add ((x8_2).toNat * 3)).off + 2, none⟩ = some (.bool ((rd_T32 y270 x8_2).f2))) (ds := []) #[false, false, false, false, false, false, false, false, false, false, false, false, false, false, false, false] (by kernel_rfl) rfl rfl ⟨hx279_0, hx279_1, hx279_2⟩ (fun hHeld => ?_); refine with_tabW HW.tab12 HW.bits12 (fun HT_ HW_ => ?_)
              generalize wr.drew = w27 at HO_7 BK269 HB hx279_0 hx279_1 hx279_2 hHeld ⊢
              refine pure_ (i := 1) (N := some 51) (v := ?_) (a' := ?_) #[false, true, false, false, false, false, false, false, false, false, false, false, false, false, false, false] rfl rfl (any_of HT_.out (by kernel_rfl)) (fun _ _ _ h => h) (Or.inl ⟨by rfl, ?_⟩) ?_ ?_
              rotate_left
              ·intro w'
               go_simp
               with_reducible rfl
              rotate_left
              ·simp only [Act.put, List.setIfInBounds_toArray, List.set_cons_zero, List.set_cons_succ, i64_w, i32_w]
               rfl
              refine pure_ (i := 3) (N := some 53) (v := ?_) (a' := ?_) #[false, true, false, true, false, false, false, false, false, false, false, false, false, false, false, false] rfl rfl (any_of HT_.out (by kernel_rfl)) (fun _ _ _ h => h) (Or.inl ⟨by rfl, ?_⟩) ?_ ?_
              rotate_left
              ·intro w'
               go_simp
               with_reducible rfl
              rotate_left
              ·simp only [Act.put, List.setIfInBounds_toArray, List.set_cons_zero, List.set_cons_succ, i64_w, i32_w]
               rfl
              refine pure_ (i := 4) (N := some 54) (v := ?_) (a' := ?_) #[false, true, false, true, true, false, false, false, false, false, false, false, false, false, false, false] rfl rfl (any_of HT_.out (by kernel_rfl)) (fun _ _ _ h => h) (Or.inl ⟨by rfl, ?_⟩) ?_ ?_
              rotate_left
              ·intro w'
               go_simp
               with_reducible rfl
              rotate_left
              ·simp only [Act.put, List.setIfInBounds_toArray, List.set_cons_zero, List.set_cons_succ, i64_w, i32_w]
               rfl
              refine pure_ (i := 5) (N := some 55) (v := ?_) (a' := ?_) #[false, true, false, true, true, true, false, false, false, false, false, false, false, false, false, false] rfl rfl (any_of HT_.out (by kernel_rfl)) (fun _ _ _ h => h) (Or.inl ⟨by rfl, ?_⟩) ?_ ?_
              rotate_left
              ·intro w'
               go_simp
               with_reducible rfl
              rotate_left
              ·simp only [Act.put, List.setIfInBounds_toArray, List.set_cons_zero, List.set_cons_succ, i64_w, i32_w]
               rfl
              refine take_ (i := 6) (N := some 56) (v := ?_) (a' := ?_) #[false, true, false, true, true, true, true, false, false, false, false, false, false, false, false, false] rfl rfl (take_ofW HT_.out HW_.out (by kernel_rfl)) (fun _ _ _ h => h) (Or.inl ⟨by rfl, ?_⟩) hHeld ?_ ?_
              rotate_left
              ·rintro w' ⟨s0, s1, s2⟩
               go_simp
               with_reducible rfl
              rotate_left
              ·simp only [Act.put, List.setIfInBounds_toArray, List.set_cons_zero, List.set_cons_succ, i64_w, i32_w]
               rfl
              refine join_ (σ := Value × Value × Value × Value × Nat) 2 #[true, true, true, true, true, true, true, true, true, true, true, true, true, true, false, false] (fun s_ => [(50, s_.1), (52, s_.2.1), (57, s_.2.2.1), (58, s_.2.2.2.1), (59, .tuple #[.agg #[.string t286, .string t287, .string t288, .string t289, .bool t290, .int .i64 t291], .int .i64 t292]), (9, .pointer (some ⟨s_.2.2.2.2, 0, none⟩)), (49, .tuple #[.agg #[.string t286, .string t287, .string t288, .string t289, .bool t290, .int .i64 t291], .int .i64 t292]), (60, .agg #[.string t286, .string t287, .string t288, .string t289, .bool t290, .int .i64 t291]), (61, .int .i64 t292)]) (fun s_ w' => (w'.cell? (ad279.add ((x8_2).toNat * 3)) = some (.string ((rd_T32 y270 x8_2).f0)) ∧ w'.cell? ⟨(ad279.add ((x8_2).toNat * 3)).block, (ad279.add ((x8_2).toNat * 3)).off + 1, none⟩ = some (.string ((rd_T32 y270 x8_2).f1)) ∧ w'.cell? ⟨(ad279.add ((x8_2).toNat * 3)).block, (ad279.add ((x8_2).toNat * 3)).off + 2, none⟩ = some (.bool ((rd_T32 y270 x8_2).f2))) ∧ (Kd.R k32 32 w' w.heap.size (fun k_ => some k_ ≠ (s_.2.2.2.1 : Value).ownBlock ∧ some k_ ≠ (.slice (some ad279) y270.length co26 : Value).ownBlock) s_.2.2.1 y280) ∧ (Kd.R k32 32 w' w.heap.size (fun k_ => some k_ ≠ (s_.2.2.1 : Value).ownBlock ∧ some k_ ≠ (.slice (some ad279) y270.length co26 : Value).ownBlock) s_.2.2.2.1 y283) ∧ (Kd.R k32 32 w' w.heap.size (fun k_ => some k_ ≠ (s_.2.2.1 : Value).ownBlock ∧ some k_ ≠ (s_.2.2.2.1 : Value).ownBlock) (.slice (some ad279) y270.length co26) y270) ∧ (w'.heap[gb269]? = some (.cells #[.string t262, .string t263, .string t264, .string t265, .bool t266, .int .i64 t267] 26 (0, 0))) ∧ (w'.heap[s_.2.2.2.2]? = some (.cells #[.string (⟨#[]⟩ : ByteArray), .string (⟨#[]⟩ : ByteArray), .string (⟨#[]⟩ : ByteArray), .string (⟨#[]⟩ : ByteArray), .bool false, .int .i64 0] 26 (0, 0))) ∧ (w.heap.size ≤ s_.2.2.2.2) ∧ (w.heap.size ≤ s_.2.2.2.2) ∧ (gb269 ≠ s_.2.2.2.2) ∧ (s_.2.2.2.2 ≠ gb269) ∧ (Below w.heap.size w w')) ?_ ?_
              rotate_left
              ·intro hJ0_2_7_8_9_13
               refine join_ (σ := Value × Value × Value × Value) 3 #[true, true, true, true, true, true, true, true, true, true, true, true, true, false, false, false] (fun s_ => [(50, s_.1), (52, s_.2.1), (57, s_.2.2.1), (58, s_.2.2.2), (59, .tuple #[.agg #[.string t286, .string t287, .string t288, .string t289, .bool t290, .int .i64 t291], .int .i64 t292]), (49, .tuple #[.agg #[.string t286, .string t287, .string t288, .string t289, .bool t290, .int .i64 t291], .int .i64 t292]), (60, .agg #[.string t286, .string t287, .string t288, .string t289, .bool t290, .int .i64 t291]), (61, .int .i64 t292)]) (fun s_ w' => (w'.cell? (ad279.add ((x8_2).toNat * 3)) = some (.string ((rd_T32 y270 x8_2).f0)) ∧ w'.cell? ⟨(ad279.add ((x8_2).toNat * 3)).block, (ad279.add ((x8_2).toNat * 3)).off + 1, none⟩ = some (.string ((rd_T32 y270 x8_2).f1)) ∧ w'.cell? ⟨(ad279.add ((x8_2).toNat * 3)).block, (ad279.add ((x8_2).toNat * 3)).off + 2, none⟩ = some (.bool ((rd_T32 y270 x8_2).f2))) ∧ (Kd.R k32 32 w' w.heap.size (fun k_ => some k_ ≠ (s_.2.2.2 : Value).ownBlock ∧ some k_ ≠ (.slice (some ad279) y270.length co26 : Value).ownBlock) s_.2.2.1 y280) ∧ (Kd.R k32 32 w' w.heap.size (fun k_ => some k_ ≠ (s_.2.2.1 : Value).ownBlock ∧ some k_ ≠ (.slice (some ad279) y270.length co26 : Value).ownBlock) s_.2.2.2 y283) ∧ (Kd.R k32 32 w' w.heap.size (fun k_ => some k_ ≠ (s_.2.2.1 : Value).ownBlock ∧ some k_ ≠ (s_.2.2.2 : Value).ownBlock) (.slice (some ad279) y270.length co26) y270) ∧ (w'.heap[gb269]? = some (.cells #[.string t262, .string t263, .string t264, .string t265, .bool t266, .int .i64 t267] 26 (0, 0))) ∧ (Below w.heap.size w w')) ?_ ?_
               rotate_left
               ·intro hJ0_2_7_8_9
                refine join_ (σ := Value × Value × Value × Value × Nat) 6 #[true, true, true, true, true, true, true, true, true, false, false, false, false, true, false, false] (fun s_ => [(50, s_.1), (52, s_.2.1), (57, s_.2.2.1), (58, s_.2.2.2.1), (9, .pointer (some ⟨s_.2.2.2.2, 0, none⟩))]) (fun s_ w' => (w'.cell? (ad279.add ((x8_2).toNat * 3)) = some (.string ((rd_T32 y270 x8_2).f0)) ∧ w'.cell? ⟨(ad279.add ((x8_2).toNat * 3)).block, (ad279.add ((x8_2).toNat * 3)).off + 1, none⟩ = some (.string ((rd_T32 y270 x8_2).f1)) ∧ w'.cell? ⟨(ad279.add ((x8_2).toNat * 3)).block, (ad279.add ((x8_2).toNat * 3)).off + 2, none⟩ = some (.bool ((rd_T32 y270 x8_2).f2))) ∧ (Kd.R k32 32 w' w.heap.size (fun k_ => some k_ ≠ (s_.2.2.2.1 : Value).ownBlock ∧ some k_ ≠ (.slice (some ad279) y270.length co26 : Value).ownBlock) s_.2.2.1 y280) ∧ (Kd.R k32 32 w' w.heap.size (fun k_ => some k_ ≠ (s_.2.2.1 : Value).ownBlock ∧ some k_ ≠ (.slice (some ad279) y270.length co26 : Value).ownBlock) s_.2.2.2.1 y283) ∧ (Kd.R k32 32 w' w.heap.size (fun k_ => some k_ ≠ (s_.2.2.1 : Value).ownBlock ∧ some k_ ≠ (s_.2.2.2.1 : Value).ownBlock) (.slice (some ad279) y270.length co26) y270) ∧ (w'.heap[gb269]? = some (.cells #[.string t262, .string t263, .string t264, .string t265, .bool t266, .int .i64 t267] 26 (0, 0))) ∧ (w'.heap[s_.2.2.2.2]? = some (.cells #[.string (⟨#[]⟩ : ByteArray), .string (⟨#[]⟩ : ByteArray), .string (⟨#[]⟩ : ByteArray), .string (⟨#[]⟩ : ByteArray), .bool false, .int .i64 0] 26 (0, 0))) ∧ (w.heap.size ≤ s_.2.2.2.2) ∧ (w.heap.size ≤ s_.2.2.2.2) ∧ (gb269 ≠ s_.2.2.2.2) ∧ (s_.2.2.2.2 ≠ gb269) ∧ (Below w.heap.size w w')) ?_ ?_
                rotate_left
                ·intro hJ0_2_7_8_13
                 refine join_ (σ := Value × Value × Value × Value) 7 #[true, true, true, true, true, true, true, true, true, false, false, false, false, false, false, false] (fun s_ => [(50, s_.1), (52, s_.2.1), (57, s_.2.2.1), (58, s_.2.2.2)]) (fun s_ w' => (w'.cell? (ad279.add ((x8_2).toNat * 3)) = some (.string ((rd_T32 y270 x8_2).f0)) ∧ w'.cell? ⟨(ad279.add ((x8_2).toNat * 3)).block, (ad279.add ((x8_2).toNat * 3)).off + 1, none⟩ = some (.string ((rd_T32 y270 x8_2).f1)) ∧ w'.cell? ⟨(ad279.add ((x8_2).toNat * 3)).block, (ad279.add ((x8_2).toNat * 3)).off + 2, none⟩ = some (.bool ((rd_T32 y270 x8_2).f2))) ∧ (Kd.R k32 32 w' w.heap.size (fun k_ => some k_ ≠ (s_.2.2.2 : Value).ownBlock ∧ some k_ ≠ (.slice (some ad279) y270.length co26 : Value).ownBlock) s_.2.2.1 y280) ∧ (Kd.R k32 32 w' w.heap.size (fun k_ => some k_ ≠ (s_.2.2.1 : Value).ownBlock ∧ some k_ ≠ (.slice (some ad279) y270.length co26 : Value).ownBlock) s_.2.2.2 y283) ∧ (Kd.R k32 32 w' w.heap.size (fun k_ => some k_ ≠ (s_.2.2.1 : Value).ownBlock ∧ some k_ ≠ (s_.2.2.2 : Value).ownBlock) (.slice (some ad279) y270.length co26) y270) ∧ (w'.heap[gb269]? = some (.cells #[.string t262, .string t263, .string t264, .string t265, .bool t266, .int .i64 t267] 26 (0, 0))) ∧ (Below w.heap.size w w')) ?_ ?_
                 rotate_left
                 ·intro hJ0_2_7_8
                  refine join_ (σ := Value × Value × Value × Nat) 7 #[true, true, true, true, true, true, true, true, false, false, false, false, false, true, false, false] (fun s_ => [(50, s_.1), (52, s_.2.1), (57, s_.2.2.1), (9, .pointer (some ⟨s_.2.2.2, 0, none⟩))]) (fun s_ w' => (w'.cell? (ad279.add ((x8_2).toNat * 3)) = some (.string ((rd_T32 y270 x8_2).f0)) ∧ w'.cell? ⟨(ad279.add ((x8_2).toNat * 3)).block, (ad279.add ((x8_2).toNat * 3)).off + 1, none⟩ = some (.string ((rd_T32 y270 x8_2).f1)) ∧ w'.cell? ⟨(ad279.add ((x8_2).toNat * 3)).block, (ad279.add ((x8_2).toNat * 3)).off + 2, none⟩ = some (.bool ((rd_T32 y270 x8_2).f2))) ∧ (Kd.R k32 32 w' w.heap.size (fun k_ => some k_ ≠ (s_.2.2.1 : Value).ownBlock ∧ some k_ ≠ (.slice (some ad279) y270.length co26 : Value).ownBlock) s_.2.1 y276) ∧ (Kd.R k32 32 w' w.heap.size (fun k_ => some k_ ≠ (s_.2.1 : Value).ownBlock ∧ some k_ ≠ (.slice (some ad279) y270.length co26 : Value).ownBlock) s_.2.2.1 y280) ∧ (Kd.R k32 32 w' w.heap.size (fun k_ => some k_ ≠ (s_.2.1 : Value).ownBlock ∧ some k_ ≠ (s_.2.2.1 : Value).ownBlock) (.slice (some ad279) y270.length co26) y270) ∧ (w'.heap[gb269]? = some (.cells #[.string t262, .string t263, .string t264, .string t265, .bool t266, .int .i64 t267] 26 (0, 0))) ∧ (w'.heap[s_.2.2.2]? = some (.cells #[.string (⟨#[]⟩ : ByteArray), .string (⟨#[]⟩ : ByteArray), .string (⟨#[]⟩ : ByteArray), .string (⟨#[]⟩ : ByteArray), .bool false, .int .i64 0] 26 (0, 0))) ∧ (w.heap.size ≤ s_.2.2.2) ∧ (w.heap.size ≤ s_.2.2.2) ∧ (gb269 ≠ s_.2.2.2) ∧ (s_.2.2.2 ≠ gb269) ∧ (Below w.heap.size w w')) ?_ ?_
                  rotate_left
                  ·intro hJ0_2_7_13
                   refine join_ (σ := Value × Value × Value) 8 #[true, true, true, true, true, true, true, true, false, false, false, false, false, false, false, false] (fun s_ => [(50, s_.1), (52, s_.2.1), (57, s_.2.2)]) (fun s_ w' => (w'.cell? (ad279.add ((x8_2).toNat * 3)) = some (.string ((rd_T32 y270 x8_2).f0)) ∧ w'.cell? ⟨(ad279.add ((x8_2).toNat * 3)).block, (ad279.add ((x8_2).toNat * 3)).off + 1, none⟩ = some (.string ((rd_T32 y270 x8_2).f1)) ∧ w'.cell? ⟨(ad279.add ((x8_2).toNat * 3)).block, (ad279.add ((x8_2).toNat * 3)).off + 2, none⟩ = some (.bool ((rd_T32 y270 x8_2).f2))) ∧ (Kd.R k32 32 w' w.heap.size (fun k_ => some k_ ≠ (s_.2.2 : Value).ownBlock ∧ some k_ ≠ (.slice (some ad279) y270.length co26 : Value).ownBlock) s_.2.1 y276) ∧ (Kd.R k32 32 w' w.heap.size (fun k_ => some k_ ≠ (s_.2.1 : Value).ownBlock ∧ some k_ ≠ (.slice (some ad279) y270.length co26 : Value).ownBlock) s_.2.2 y280) ∧ (Kd.R k32 32 w' w.heap.size (fun k_ => some k_ ≠ (s_.2.1 : Value).ownBlock ∧ some k_ ≠ (s_.2.2 : Value).ownBlock) (.slice (some ad279) y270.length co26) y270) ∧ (w'.heap[gb269]? = some (.cells #[.string t262, .string t263, .string t264, .string t265, .bool t266, .int .i64 t267] 26 (0, 0))) ∧ (Below w.heap.size w w')) ?_ ?_
                   rotate_left
                   ·intro hJ0_2_7
                    refine join_ (σ := Value × Value × Nat) 8 #[true, true, true, true, true, true, true, false, false, false, false, false, false, true, false, false] (fun s_ => [(50, s_.1), (52, s_.2.1), (9, .pointer (some ⟨s_.2.2, 0, none⟩))]) (fun s_ w' => (w'.cell? (ad279.add ((x8_2).toNat * 3)) = some (.string ((rd_T32 y270 x8_2).f0)) ∧ w'.cell? ⟨(ad279.add ((x8_2).toNat * 3)).block, (ad279.add ((x8_2).toNat * 3)).off + 1, none⟩ = some (.string ((rd_T32 y270 x8_2).f1)) ∧ w'.cell? ⟨(ad279.add ((x8_2).toNat * 3)).block, (ad279.add ((x8_2).toNat * 3)).off + 2, none⟩ = some (.bool ((rd_T32 y270 x8_2).f2))) ∧ (Kd.R k32 32 w' w.heap.size (fun k_ => some k_ ≠ (.slice (some ad279) y270.length co26 : Value).ownBlock) s_.2.1 y276) ∧ (Kd.R k32 32 w' w.heap.size (fun k_ => some k_ ≠ (s_.2.1 : Value).ownBlock) (.slice (some ad279) y270.length co26) y270) ∧ (w'.heap[gb269]? = some (.cells #[.string t262, .string t263, .string t264, .string t265, .bool t266, .int .i64 t267] 26 (0, 0))) ∧ (w'.heap[s_.2.2]? = some (.cells #[.string (⟨#[]⟩ : ByteArray), .string (⟨#[]⟩ : ByteArray), .string (⟨#[]⟩ : ByteArray), .string (⟨#[]⟩ : ByteArray), .bool false, .int .i64 0] 26 (0, 0))) ∧ (w.heap.size ≤ s_.2.2) ∧ (w.heap.size ≤ s_.2.2) ∧ (gb269 ≠ s_.2.2) ∧ (s_.2.2 ≠ gb269) ∧ (Below w.heap.size w w')) ?_ ?_
                    rotate_left
                    ·intro hJ0_2_13
                     refine join_ (σ := Value × Value × Nat) 8 #[true, true, false, true, true, true, true, true, false, false, false, false, false, true, false, false] (fun s_ => [(50, s_.1), (57, s_.2.1), (9, .pointer (some ⟨s_.2.2, 0, none⟩))]) (fun s_ w' => (w'.cell? (ad279.add ((x8_2).toNat * 3)) = some (.string ((rd_T32 y270 x8_2).f0)) ∧ w'.cell? ⟨(ad279.add ((x8_2).toNat * 3)).block, (ad279.add ((x8_2).toNat * 3)).off + 1, none⟩ = some (.string ((rd_T32 y270 x8_2).f1)) ∧ w'.cell? ⟨(ad279.add ((x8_2).toNat * 3)).block, (ad279.add ((x8_2).toNat * 3)).off + 2, none⟩ = some (.bool ((rd_T32 y270 x8_2).f2))) ∧ (Kd.R k32 32 w' w.heap.size (fun k_ => some k_ ≠ (s_.2.1 : Value).ownBlock ∧ some k_ ≠ (.slice (some ad279) y270.length co26 : Value).ownBlock) s_.1 y273) ∧ (Kd.R k32 32 w' w.heap.size (fun k_ => some k_ ≠ (s_.1 : Value).ownBlock ∧ some k_ ≠ (.slice (some ad279) y270.length co26 : Value).ownBlock) s_.2.1 y280) ∧ (Kd.R k32 32 w' w.heap.size (fun k_ => some k_ ≠ (s_.1 : Value).ownBlock ∧ some k_ ≠ (s_.2.1 : Value).ownBlock) (.slice (some ad279) y270.length co26) y270) ∧ (w'.heap[gb269]? = some (.cells #[.string t262, .string t263, .string t264, .string t265, .bool t266, .int .i64 t267] 26 (0, 0))) ∧ (w'.heap[s_.2.2]? = some (.cells #[.string (⟨#[]⟩ : ByteArray), .string (⟨#[]⟩ : ByteArray), .string (⟨#[]⟩ : ByteArray), .string (⟨#[]⟩ : ByteArray), .bool false, .int .i64 0] 26 (0, 0))) ∧ (w.heap.size ≤ s_.2.2) ∧ (w.heap.size ≤ s_.2.2) ∧ (gb269 ≠ s_.2.2) ∧ (s_.2.2 ≠ gb269) ∧ (Below w.heap.size w w')) ?_ ?_
                     rotate_left
                     ·intro hJ0_7_13
                      refine join_ (σ := Value × Value) 9 #[true, true, true, true, true, true, true, false, false, false, false, false, false, false, false, false] (fun s_ => [(50, s_.1), (52, s_.2)]) (fun s_ w' => (w'.cell? (ad279.add ((x8_2).toNat * 3)) = some (.string ((rd_T32 y270 x8_2).f0)) ∧ w'.cell? ⟨(ad279.add ((x8_2).toNat * 3)).block, (ad279.add ((x8_2).toNat * 3)).off + 1, none⟩ = some (.string ((rd_T32 y270 x8_2).f1)) ∧ w'.cell? ⟨(ad279.add ((x8_2).toNat * 3)).block, (ad279.add ((x8_2).toNat * 3)).off + 2, none⟩ = some (.bool ((rd_T32 y270 x8_2).f2))) ∧ (Kd.R k32 32 w' w.heap.size (fun k_ => some k_ ≠ (.slice (some ad279) y270.length co26 : Value).ownBlock) s_.2 y276) ∧ (Kd.R k32 32 w' w.heap.size (fun k_ => some k_ ≠ (s_.2 : Value).ownBlock) (.slice (some ad279) y270.length co26) y270) ∧ (w'.heap[gb269]? = some (.cells #[.string t262, .string t263, .string t264, .string t265, .bool t266, .int .i64 t267] 26 (0, 0))) ∧ (Below w.heap.size w w')) ?_ ?_
                      rotate_left
                      ·intro hJ0_2
                       refine join_ (σ := Value × Value) 9 #[true, true, false, true, true, true, true, true, false, false, false, false, false, false, false, false] (fun s_ => [(50, s_.1), (57, s_.2)]) (fun s_ w' => (w'.cell? (ad279.add ((x8_2).toNat * 3)) = some (.string ((rd_T32 y270 x8_2).f0)) ∧ w'.cell? ⟨(ad279.add ((x8_2).toNat * 3)).block, (ad279.add ((x8_2).toNat * 3)).off + 1, none⟩ = some (.string ((rd_T32 y270 x8_2).f1)) ∧ w'.cell? ⟨(ad279.add ((x8_2).toNat * 3)).block, (ad279.add ((x8_2).toNat * 3)).off + 2, none⟩ = some (.bool ((rd_T32 y270 x8_2).f2))) ∧ (Kd.R k32 32 w' w.heap.size (fun k_ => some k_ ≠ (s_.2 : Value).ownBlock ∧ some k_ ≠ (.slice (some ad279) y270.length co26 : Value).ownBlock) s_.1 y273) ∧ (Kd.R k32 32 w' w.heap.size (fun k_ => some k_ ≠ (s_.1 : Value).ownBlock ∧ some k_ ≠ (.slice (some ad279) y270.length co26 : Value).ownBlock) s_.2 y280) ∧ (Kd.R k32 32 w' w.heap.size (fun k_ => some k_ ≠ (s_.1 : Value).ownBlock ∧ some k_ ≠ (s_.2 : Value).ownBlock) (.slice (some ad279) y270.length co26) y270) ∧ (w'.heap[gb269]? = some (.cells #[.string t262, .string t263, .string t264, .string t265, .bool t266, .int .i64 t267] 26 (0, 0))) ∧ (Below w.heap.size w w')) ?_ ?_
                       rotate_left
                       ·intro hJ0_7
                        refine join_ (σ := Value × Nat) 9 #[true, true, false, true, true, true, true, false, false, false, false, false, false, true, false, false] (fun s_ => [(50, s_.1), (9, .pointer (some ⟨s_.2, 0, none⟩))]) (fun s_ w' => (w'.cell? (ad279.add ((x8_2).toNat * 3)) = some (.string ((rd_T32 y270 x8_2).f0)) ∧ w'.cell? ⟨(ad279.add ((x8_2).toNat * 3)).block, (ad279.add ((x8_2).toNat * 3)).off + 1, none⟩ = some (.string ((rd_T32 y270 x8_2).f1)) ∧ w'.cell? ⟨(ad279.add ((x8_2).toNat * 3)).block, (ad279.add ((x8_2).toNat * 3)).off + 2, none⟩ = some (.bool ((rd_T32 y270 x8_2).f2))) ∧ (Kd.R k32 32 w' w.heap.size (fun k_ => some k_ ≠ (.slice (some ad279) y270.length co26 : Value).ownBlock) s_.1 y273) ∧ (Kd.R k32 32 w' w.heap.size (fun k_ => some k_ ≠ (s_.1 : Value).ownBlock) (.slice (some ad279) y270.length co26) y270) ∧ (w'.heap[gb269]? = some (.cells #[.string t262, .string t263, .string t264, .string t265, .bool t266, .int .i64 t267] 26 (0, 0))) ∧ (w'.heap[s_.2]? = some (.cells #[.string (⟨#[]⟩ : ByteArray), .string (⟨#[]⟩ : ByteArray), .string (⟨#[]⟩ : ByteArray), .string (⟨#[]⟩ : ByteArray), .bool false, .int .i64 0] 26 (0, 0))) ∧ (w.heap.size ≤ s_.2) ∧ (w.heap.size ≤ s_.2) ∧ (gb269 ≠ s_.2) ∧ (s_.2 ≠ gb269) ∧ (Below w.heap.size w w')) ?_ ?_
                        rotate_left
                        ·intro hJ0_13
                         refine join_ (σ := Value × Nat) 9 #[false, true, false, true, true, true, true, true, false, false, false, false, false, true, false, false] (fun s_ => [(57, s_.1), (9, .pointer (some ⟨s_.2, 0, none⟩))]) (fun s_ w' => (w'.cell? (ad279.add ((x8_2).toNat * 3)) = some (.string ((rd_T32 y270 x8_2).f0)) ∧ w'.cell? ⟨(ad279.add ((x8_2).toNat * 3)).block, (ad279.add ((x8_2).toNat * 3)).off + 1, none⟩ = some (.string ((rd_T32 y270 x8_2).f1)) ∧ w'.cell? ⟨(ad279.add ((x8_2).toNat * 3)).block, (ad279.add ((x8_2).toNat * 3)).off + 2, none⟩ = some (.bool ((rd_T32 y270 x8_2).f2))) ∧ (Kd.R k32 32 w' w.heap.size (fun k_ => some k_ ≠ (.slice (some ad279) y270.length co26 : Value).ownBlock) s_.1 y280) ∧ (Kd.R k32 32 w' w.heap.size (fun k_ => some k_ ≠ (s_.1 : Value).ownBlock) (.slice (some ad279) y270.length co26) y270) ∧ (w'.heap[gb269]? = some (.cells #[.string t262, .string t263, .string t264, .string t265, .bool t266, .int .i64 t267] 26 (0, 0))) ∧ (w'.heap[s_.2]? = some (.cells #[.string (⟨#[]⟩ : ByteArray), .string (⟨#[]⟩ : ByteArray), .string (⟨#[]⟩ : ByteArray), .string (⟨#[]⟩ : ByteArray), .bool false, .int .i64 0] 26 (0, 0))) ∧ (w.heap.size ≤ s_.2) ∧ (w.heap.size ≤ s_.2) ∧ (gb269 ≠ s_.2) ∧ (s_.2 ≠ gb269) ∧ (Below w.heap.size w w')) ?_ ?_
                         rotate_left
                         ·intro hJ7_13
                          refine join_ (σ := Value) 10 #[true, true, false, true, true, true, true, false, false, false, false, false, false, false, false, false] (fun s_ => [(50, s_)]) (fun s_ w' => (w'.cell? (ad279.add ((x8_2).toNat * 3)) = some (.string ((rd_T32 y270 x8_2).f0)) ∧ w'.cell? ⟨(ad279.add ((x8_2).toNat * 3)).block, (ad279.add ((x8_2).toNat * 3)).off + 1, none⟩ = some (.string ((rd_T32 y270 x8_2).f1)) ∧ w'.cell? ⟨(ad279.add ((x8_2).toNat * 3)).block, (ad279.add ((x8_2).toNat * 3)).off + 2, none⟩ = some (.bool ((rd_T32 y270 x8_2).f2))) ∧ (Kd.R k32 32 w' w.heap.size (fun k_ => some k_ ≠ (.slice (some ad279) y270.length co26 : Value).ownBlock) s_ y273) ∧ (Kd.R k32 32 w' w.heap.size (fun k_ => some k_ ≠ (s_ : Value).ownBlock) (.slice (some ad279) y270.length co26) y270) ∧ (w'.heap[gb269]? = some (.cells #[.string t262, .string t263, .string t264, .string t265, .bool t266, .int .i64 t267] 26 (0, 0))) ∧ (Below w.heap.size w w')) ?_ ?_
                          rotate_left
                          ·intro hJ0
                           refine join_ (σ := Value) 10 #[false, true, false, true, true, true, true, true, false, false, false, false, false, false, false, false] (fun s_ => [(57, s_)]) (fun s_ w' => (w'.cell? (ad279.add ((x8_2).toNat * 3)) = some (.string ((rd_T32 y270 x8_2).f0)) ∧ w'.cell? ⟨(ad279.add ((x8_2).toNat * 3)).block, (ad279.add ((x8_2).toNat * 3)).off + 1, none⟩ = some (.string ((rd_T32 y270 x8_2).f1)) ∧ w'.cell? ⟨(ad279.add ((x8_2).toNat * 3)).block, (ad279.add ((x8_2).toNat * 3)).off + 2, none⟩ = some (.bool ((rd_T32 y270 x8_2).f2))) ∧ (Kd.R k32 32 w' w.heap.size (fun k_ => some k_ ≠ (.slice (some ad279) y270.length co26 : Value).ownBlock) s_ y280) ∧ (Kd.R k32 32 w' w.heap.size (fun k_ => some k_ ≠ (s_ : Value).ownBlock) (.slice (some ad279) y270.length co26) y270) ∧ (w'.heap[gb269]? = some (.cells #[.string t262, .string t263, .string t264, .string t265, .bool t266, .int .i64 t267] 26 (0, 0))) ∧ (Below w.heap.size w w')) ?_ ?_
                           rotate_left
                           ·intro hJ7
                            refine join_ (σ := Nat) 10 #[false, true, false, true, true, true, true, false, false, false, false, false, false, true, false, false] (fun s_ => [(9, .pointer (some ⟨s_, 0, none⟩))]) (fun s_ w' => (w'.cell? (ad279.add ((x8_2).toNat * 3)) = some (.string ((rd_T32 y270 x8_2).f0)) ∧ w'.cell? ⟨(ad279.add ((x8_2).toNat * 3)).block, (ad279.add ((x8_2).toNat * 3)).off + 1, none⟩ = some (.string ((rd_T32 y270 x8_2).f1)) ∧ w'.cell? ⟨(ad279.add ((x8_2).toNat * 3)).block, (ad279.add ((x8_2).toNat * 3)).off + 2, none⟩ = some (.bool ((rd_T32 y270 x8_2).f2))) ∧ (Kd.R k32 32 w' w.heap.size (fun _ => True) (.slice (some ad279) y270.length co26) y270) ∧ (w'.heap[gb269]? = some (.cells #[.string t262, .string t263, .string t264, .string t265, .bool t266, .int .i64 t267] 26 (0, 0))) ∧ (w'.heap[s_]? = some (.cells #[.string (⟨#[]⟩ : ByteArray), .string (⟨#[]⟩ : ByteArray), .string (⟨#[]⟩ : ByteArray), .string (⟨#[]⟩ : ByteArray), .bool false, .int .i64 0] 26 (0, 0))) ∧ (w.heap.size ≤ s_) ∧ (w.heap.size ≤ s_) ∧ (gb269 ≠ s_) ∧ (s_ ≠ gb269) ∧ (Below w.heap.size w w')) ?_ ?_
                            rotate_left
                            ·intro hJ13
                             refine three_ (i := 0) (j := 7) (k := 13) (Ni := some 50) (Nj := some 57) (Nk := some 9) #[true, true, false, true, true, true, true, false, false, false, false, false, false, false, false, false] #[false, true, false, true, true, true, true, true, false, false, false, false, false, false, false, false] #[false, true, false, true, true, true, true, false, false, false, false, false, false, true, false, false] rfl rfl rfl rfl rfl rfl (three_of HT_.out (by kernel_rfl)) (by decide) (by decide) (by decide) (fun K hK => ?_) (fun K hK => ?_) (fun K hK => ?_)
                             ·skip
                              refine Kd.R_lit_step k32 _ 32 ?hg (N := 50) ?hd (xs := ([] : List (S32))) (inner := []) (ok := fun _ => True) (okp := fun _ => True) ?hr ?hp (fun _ hk => hk) trivial (Below.refl _ _) (Nat.le_refl _) (by simp) ?_; (case hd => rfl); (case hg => rfl); (case hr => first | (go_simp; done) | (go_simp; rfl)); (case hp => exact (Reps.none _ _))
                              intro v274 w28 ho29 hb hg_ hnew_
                              have HS0_ := (hb.cell (World.block_lt_of_cell? _ _ (hHeld.1))).trans (hHeld.1)
                              have HS1_ := (hb.cell (World.block_lt_of_cell? _ _ (hHeld.2.1))).trans (hHeld.2.1)
                              have HS2_ := (hb.cell (World.block_lt_of_cell? _ _ (hHeld.2.2))).trans (hHeld.2.2)
                              clear hg_ hnew_
                              (first | rw [← Ny273.out] at ho29 | (simp only [Int.reduceToNat] at ho29; rw [← Ny273.out] at ho29))
                              have n0_ := Aside0.mk (Kd.R_elder' (wR HO_7) (Kd.R_base ho29) hb)
                              have n1_ := Aside0.mk (Kd.R_lower (Kd.R_new' ho29 (Kd.R_lt (wR HO_7))) (below_size (wB HB)))
                              have n2_ := Aside0.mk (blk_below (g := gb269) (o := .cells #[.string t262, .string t263, .string t264, .string t265, .bool t266, .int .i64 t267] 26 (0, 0)) (wK BK269) hb)
                              have n3_ := Aside0.mk (below_step (wB HB) hb)
                              clear HO_7 BK269 HB; have HO_7 := n0_; have HO275 := n1_; have BK269 := n2_; have HB := n3_; clear n0_ n1_ n2_ n3_ hb ho29
                              refine hK.out _ _ ⟨HS0_, HS1_, HS2_⟩ (fun hHeld => ?_)
                              clear hK K
                              refine norm_ (a' := ?_) ?_ ?_
                              rotate_left
                              ·show Act.put _ (some 50) _ = _
                               simp only [Act.put, List.setIfInBounds_toArray, List.set_cons_zero, List.set_cons_succ, i64_w, i32_w]
                               rfl
                              exact norm_ (by first | (simp only [putAll, Act.put, List.setIfInBounds_toArray, List.set_cons_zero, List.set_cons_succ]; done) | (simp only [putAll, Act.put, List.setIfInBounds_toArray, List.set_cons_zero, List.set_cons_succ]; rfl)) (hJ0 (v274) _ ⟨hHeld, (by (with_reducible repeat (first | apply Kd.R_alloc | apply Kd.R_drewN | apply Kd.R_drew)); exact Kd.R_mono HO275.out (fun _ hk => hk.2)), (by (with_reducible repeat (first | apply Kd.R_alloc | apply Kd.R_drewN | apply Kd.R_drew)); exact Kd.R_mono HO_7.out (fun _ hk => hk.2)), (wK BK269), (wB HB)⟩)
                             ·skip
                              refine Kd.R_lit_step k32 _ 32 ?hg (N := 57) ?hd (xs := ([(⟨(rd_T32 y270 x8_2).f0, (rd_T32 y270 x8_2).f1, (rd_T32 y270 x8_2).f2⟩ : S32)] : List (S32))) (inner := [.string ((rd_T32 y270 x8_2).f0), .string ((rd_T32 y270 x8_2).f1), .bool ((rd_T32 y270 x8_2).f2)]) (ok := fun _ => True) (okp := fun _ => True) ?hr ?hp (fun _ hk => hk) trivial (Below.refl _ _) (Nat.le_refl _) (by simp) ?_; (case hd => rfl); (case hg => rfl); (case hr => first | (go_simp; done) | (go_simp; rfl)); (case hp => exact (Reps.c3 (show Kd.M k32 _ _ _ (⟨(rd_T32 y270 x8_2).f0, (rd_T32 y270 x8_2).f1, (rd_T32 y270 x8_2).f2⟩ : S32) [.string ((rd_T32 y270 x8_2).f0), .string ((rd_T32 y270 x8_2).f1), .bool ((rd_T32 y270 x8_2).f2)] from (k32_mkM _ _ _ (⟨(rd_T32 y270 x8_2).f0, (rd_T32 y270 x8_2).f1, (rd_T32 y270 x8_2).f2⟩ : S32) )) (Reps.none _ _)))
                              intro v281 w28 ho29 hb hg_ hnew_
                              have HS0_ := (hb.cell (World.block_lt_of_cell? _ _ (hHeld.1))).trans (hHeld.1)
                              have HS1_ := (hb.cell (World.block_lt_of_cell? _ _ (hHeld.2.1))).trans (hHeld.2.1)
                              have HS2_ := (hb.cell (World.block_lt_of_cell? _ _ (hHeld.2.2))).trans (hHeld.2.2)
                              clear hg_ hnew_
                              (first | rw [← Ny280.out] at ho29 | (simp only [Int.reduceToNat] at ho29; rw [← Ny280.out] at ho29))
                              have n0_ := Aside0.mk (Kd.R_elder' (wR HO_7) (Kd.R_base ho29) hb)
                              have n1_ := Aside0.mk (Kd.R_lower (Kd.R_new' ho29 (Kd.R_lt (wR HO_7))) (below_size (wB HB)))
                              have n2_ := Aside0.mk (blk_below (g := gb269) (o := .cells #[.string t262, .string t263, .string t264, .string t265, .bool t266, .int .i64 t267] 26 (0, 0)) (wK BK269) hb)
                              have n3_ := Aside0.mk (below_step (wB HB) hb)
                              clear HO_7 BK269 HB; have HO_7 := n0_; have HO282 := n1_; have BK269 := n2_; have HB := n3_; clear n0_ n1_ n2_ n3_ hb ho29
                              refine hK.out _ _ ⟨HS0_, HS1_, HS2_⟩ (fun hHeld => ?_)
                              clear hK K
                              refine norm_ (a' := ?_) ?_ ?_
                              rotate_left
                              ·show Act.put _ (some 57) _ = _
                               simp only [Act.put, List.setIfInBounds_toArray, List.set_cons_zero, List.set_cons_succ, i64_w, i32_w]
                               rfl
                              exact norm_ (by first | (simp only [putAll, Act.put, List.setIfInBounds_toArray, List.set_cons_zero, List.set_cons_succ]; done) | (simp only [putAll, Act.put, List.setIfInBounds_toArray, List.set_cons_zero, List.set_cons_succ]; rfl)) (hJ7 (v281) _ ⟨hHeld, (by (with_reducible repeat (first | apply Kd.R_alloc | apply Kd.R_drewN | apply Kd.R_drew)); exact Kd.R_mono HO282.out (fun _ hk => hk.2)), (by (with_reducible repeat (first | apply Kd.R_alloc | apply Kd.R_drewN | apply Kd.R_drew)); exact Kd.R_mono HO_7.out (fun _ hk => hk.2)), (wK BK269), (wB HB)⟩)
                             ·skip
                              refine box_step ?hg (N := 9) ?hd (cs := #[.string (⟨#[]⟩ : ByteArray), .string (⟨#[]⟩ : ByteArray), .string (⟨#[]⟩ : ByteArray), .string (⟨#[]⟩ : ByteArray), .bool false, .int .i64 0]) (t := 26) ?hr ?_; (case hd => rfl); (case hg => rfl); (case hr => first | (go_simp; done) | (go_simp; rfl))
                              intro gb293 hg w28 hbox hb
                              have HS0_ := (hb.cell (World.block_lt_of_cell? _ _ (hHeld.1))).trans (hHeld.1)
                              have HS1_ := (hb.cell (World.block_lt_of_cell? _ _ (hHeld.2.1))).trans (hHeld.2.1)
                              have HS2_ := (hb.cell (World.block_lt_of_cell? _ _ (hHeld.2.2))).trans (hHeld.2.2)
                              have n0_ := Aside0.mk (Kd.R_below (wR HO_7) hb)
                              have n1_ := Aside0.mk (blk_below (g := gb269) (o := .cells #[.string t262, .string t263, .string t264, .string t265, .bool t266, .int .i64 t267] 26 (0, 0)) (wK BK269) hb)
                              have n2_ := Aside0.mk (below_step (wB HB) hb)
                              have n3_ := Aside0.mk (hbox)
                              have n4_ := Aside0.mk ((by rw [hg]; exact (below_size (wB HB)) : w.heap.size ≤ gb293))
                              have n5_ := Aside0.mk ((by rw [hg]; exact (below_size (wB HB)) : w.heap.size ≤ gb293))
                              have n6_ := Aside0.mk ((by rw [hg]; exact Nat.ne_of_lt (blk_lt (g := gb269) (o := .cells #[.string t262, .string t263, .string t264, .string t265, .bool t266, .int .i64 t267] 26 (0, 0)) (wK BK269)) : gb269 ≠ gb293))
                              have n7_ := Aside0.mk ((by rw [hg]; exact Nat.ne_of_gt (blk_lt (g := gb269) (o := .cells #[.string t262, .string t263, .string t264, .string t265, .bool t266, .int .i64 t267] 26 (0, 0)) (wK BK269)) : gb293 ≠ gb269))
                              clear HO_7 BK269 HB; have HO_7 := n0_; have BK269 := n1_; have HB := n2_; have BK293 := n3_; have GW293 := n4_; have GE293 := n5_; have NB269_293 := n6_; have NB293_269 := n7_; clear n0_ n1_ n2_ n3_ n4_ n5_ n6_ n7_ hb hbox hg
                              refine hK.out _ _ ⟨HS0_, HS1_, HS2_⟩ (fun hHeld => ?_)
                              clear hK K
                              refine norm_ (a' := ?_) ?_ ?_
                              rotate_left
                              ·show Act.put _ (some 9) _ = _
                               simp only [Act.put, List.setIfInBounds_toArray, List.set_cons_zero, List.set_cons_succ, i64_w, i32_w]
                               rfl
                              exact norm_ (by first | (simp only [putAll, Act.put, List.setIfInBounds_toArray, List.set_cons_zero, List.set_cons_succ]; done) | (simp only [putAll, Act.put, List.setIfInBounds_toArray, List.set_cons_zero, List.set_cons_succ]; rfl)) (hJ13 (gb293) _ ⟨hHeld, (wR HO_7), (wK BK269), (wK BK293), GW293.out, GE293.out, NB269_293.out, NB293_269.out, (wB HB)⟩)
                            ·skip
                             rintro gb293 w29 ⟨hS_, h0_, h1_, h2_, h3_, h4_, h5_, h6_, h7_⟩
                             have n0_ : Aside0 (Kd.R k32 32 w29 w.heap.size (fun _ => True) (.slice (some ad279) y270.length co26) y270) := ⟨h0_⟩
                             have n1_ : Aside0 (w29.heap[gb269]? = some (.cells #[.string t262, .string t263, .string t264, .string t265, .bool t266, .int .i64 t267] 26 (0, 0))) := ⟨h1_⟩
                             have n2_ : Aside0 (w29.heap[gb293]? = some (.cells #[.string (⟨#[]⟩ : ByteArray), .string (⟨#[]⟩ : ByteArray), .string (⟨#[]⟩ : ByteArray), .string (⟨#[]⟩ : ByteArray), .bool false, .int .i64 0] 26 (0, 0))) := ⟨h2_⟩
                             have n3_ : Aside0 (w.heap.size ≤ gb293) := ⟨h3_⟩
                             have n4_ : Aside0 (w.heap.size ≤ gb293) := ⟨h4_⟩
                             have n5_ : Aside0 (gb269 ≠ gb293) := ⟨h5_⟩
                             have n6_ : Aside0 (gb293 ≠ gb269) := ⟨h6_⟩
                             have n7_ : Aside0 (Below w.heap.size w w29) := ⟨h7_⟩
                             clear HO_7 BK269 HB h0_ h1_ h2_ h3_ h4_ h5_ h6_ h7_; have HO_7 := n0_; have BK269 := n1_; have BK293 := n2_; have GW293 := n3_; have GE293 := n4_; have NB269_293 := n5_; have NB293_269 := n6_; have HB := n7_; clear n0_ n1_ n2_ n3_ n4_ n5_ n6_ n7_
                             have hHeld : w29.cell? (ad279.add ((x8_2).toNat * 3)) = some (.string ((rd_T32 y270 x8_2).f0)) ∧ w29.cell? ⟨(ad279.add ((x8_2).toNat * 3)).block, (ad279.add ((x8_2).toNat * 3)).off + 1, none⟩ = some (.string ((rd_T32 y270 x8_2).f1)) ∧ w29.cell? ⟨(ad279.add ((x8_2).toNat * 3)).block, (ad279.add ((x8_2).toNat * 3)).off + 2, none⟩ = some (.bool ((rd_T32 y270 x8_2).f2)) := hS_
                             refine norm_ (a' := ?_) ?_ ?_
                             rotate_left
                             ·simp only [putAll, Act.put, List.setIfInBounds_toArray, List.set_cons_zero, List.set_cons_succ]
                              rfl
                             refine two_ (i := 0) (j := 7) (Ni := some 50) (Nj := some 57) #[true, true, false, true, true, true, true, false, false, false, false, false, false, true, false, false] #[false, true, false, true, true, true, true, true, false, false, false, false, false, true, false, false] rfl rfl rfl rfl (two_of HT_.out (by kernel_rfl)) (by decide) (by decide) (fun K hK => ?_) (fun K hK => ?_)
                             ·skip
                              refine Kd.R_lit_step k32 _ 32 ?hg (N := 50) ?hd (xs := ([] : List (S32))) (inner := []) (ok := fun _ => True) (okp := fun _ => True) ?hr ?hp (fun _ hk => hk) trivial (Below.refl _ _) (Nat.le_refl _) (by simp) ?_; (case hd => rfl); (case hg => rfl); (case hr => first | (go_simp; done) | (go_simp; rfl)); (case hp => exact (Reps.none _ _))
                              intro v274 w30 ho31 hb hg_ hnew_
                              have HS0_ := (hb.cell (World.block_lt_of_cell? _ _ (hHeld.1))).trans (hHeld.1)
                              have HS1_ := (hb.cell (World.block_lt_of_cell? _ _ (hHeld.2.1))).trans (hHeld.2.1)
                              have HS2_ := (hb.cell (World.block_lt_of_cell? _ _ (hHeld.2.2))).trans (hHeld.2.2)
                              clear hg_ hnew_
                              (first | rw [← Ny273.out] at ho31 | (simp only [Int.reduceToNat] at ho31; rw [← Ny273.out] at ho31))
                              have n0_ := Aside0.mk (Kd.R_elder' (wR HO_7) (Kd.R_base ho31) hb)
                              have n1_ := Aside0.mk (Kd.R_lower (Kd.R_new' ho31 (Kd.R_lt (wR HO_7))) (below_size (wB HB)))
                              have n2_ := Aside0.mk (blk_below (g := gb269) (o := .cells #[.string t262, .string t263, .string t264, .string t265, .bool t266, .int .i64 t267] 26 (0, 0)) (wK BK269) hb)
                              have n3_ := Aside0.mk (blk_below (g := gb293) (o := .cells #[.string (⟨#[]⟩ : ByteArray), .string (⟨#[]⟩ : ByteArray), .string (⟨#[]⟩ : ByteArray), .string (⟨#[]⟩ : ByteArray), .bool false, .int .i64 0] 26 (0, 0)) (wK BK293) hb)
                              have n4_ := Aside0.mk (below_step (wB HB) hb)
                              clear HO_7 BK269 BK293 HB; have HO_7 := n0_; have HO275 := n1_; have BK269 := n2_; have BK293 := n3_; have HB := n4_; clear n0_ n1_ n2_ n3_ n4_ hb ho31
                              refine hK.out _ _ ⟨HS0_, HS1_, HS2_⟩ (fun hHeld => ?_)
                              clear hK K
                              refine norm_ (a' := ?_) ?_ ?_
                              rotate_left
                              ·show Act.put _ (some 50) _ = _
                               simp only [Act.put, List.setIfInBounds_toArray, List.set_cons_zero, List.set_cons_succ, i64_w, i32_w]
                               rfl
                              exact norm_ (by first | (simp only [putAll, Act.put, List.setIfInBounds_toArray, List.set_cons_zero, List.set_cons_succ]; done) | (simp only [putAll, Act.put, List.setIfInBounds_toArray, List.set_cons_zero, List.set_cons_succ]; rfl)) (hJ0_13 (v274, gb293) _ ⟨hHeld, (by (with_reducible repeat (first | apply Kd.R_alloc | apply Kd.R_drewN | apply Kd.R_drew)); exact Kd.R_mono HO275.out (fun _ hk => hk.2)), (by (with_reducible repeat (first | apply Kd.R_alloc | apply Kd.R_drewN | apply Kd.R_drew)); exact Kd.R_mono HO_7.out (fun _ hk => hk.2)), (wK BK269), (wK BK293), GW293.out, GE293.out, NB269_293.out, NB293_269.out, (wB HB)⟩)
                             ·skip
                              refine Kd.R_lit_step k32 _ 32 ?hg (N := 57) ?hd (xs := ([(⟨(rd_T32 y270 x8_2).f0, (rd_T32 y270 x8_2).f1, (rd_T32 y270 x8_2).f2⟩ : S32)] : List (S32))) (inner := [.string ((rd_T32 y270 x8_2).f0), .string ((rd_T32 y270 x8_2).f1), .bool ((rd_T32 y270 x8_2).f2)]) (ok := fun _ => True) (okp := fun _ => True) ?hr ?hp (fun _ hk => hk) trivial (Below.refl _ _) (Nat.le_refl _) (by simp) ?_; (case hd => rfl); (case hg => rfl); (case hr => first | (go_simp; done) | (go_simp; rfl)); (case hp => exact (Reps.c3 (show Kd.M k32 _ _ _ (⟨(rd_T32 y270 x8_2).f0, (rd_T32 y270 x8_2).f1, (rd_T32 y270 x8_2).f2⟩ : S32) [.string ((rd_T32 y270 x8_2).f0), .string ((rd_T32 y270 x8_2).f1), .bool ((rd_T32 y270 x8_2).f2)] from (k32_mkM _ _ _ (⟨(rd_T32 y270 x8_2).f0, (rd_T32 y270 x8_2).f1, (rd_T32 y270 x8_2).f2⟩ : S32) )) (Reps.none _ _)))
                              intro v281 w30 ho31 hb hg_ hnew_
                              have HS0_ := (hb.cell (World.block_lt_of_cell? _ _ (hHeld.1))).trans (hHeld.1)
                              have HS1_ := (hb.cell (World.block_lt_of_cell? _ _ (hHeld.2.1))).trans (hHeld.2.1)
                              have HS2_ := (hb.cell (World.block_lt_of_cell? _ _ (hHeld.2.2))).trans (hHeld.2.2)
                              clear hg_ hnew_
                              (first | rw [← Ny280.out] at ho31 | (simp only [Int.reduceToNat] at ho31; rw [← Ny280.out] at ho31))
                              have n0_ := Aside0.mk (Kd.R_elder' (wR HO_7) (Kd.R_base ho31) hb)
                              have n1_ := Aside0.mk (Kd.R_lower (Kd.R_new' ho31 (Kd.R_lt (wR HO_7))) (below_size (wB HB)))
                              have n2_ := Aside0.mk (blk_below (g := gb269) (o := .cells #[.string t262, .string t263, .string t264, .string t265, .bool t266, .int .i64 t267] 26 (0, 0)) (wK BK269) hb)
                              have n3_ := Aside0.mk (blk_below (g := gb293) (o := .cells #[.string (⟨#[]⟩ : ByteArray), .string (⟨#[]⟩ : ByteArray), .string (⟨#[]⟩ : ByteArray), .string (⟨#[]⟩ : ByteArray), .bool false, .int .i64 0] 26 (0, 0)) (wK BK293) hb)
                              have n4_ := Aside0.mk (below_step (wB HB) hb)
                              clear HO_7 BK269 BK293 HB; have HO_7 := n0_; have HO282 := n1_; have BK269 := n2_; have BK293 := n3_; have HB := n4_; clear n0_ n1_ n2_ n3_ n4_ hb ho31
                              refine hK.out _ _ ⟨HS0_, HS1_, HS2_⟩ (fun hHeld => ?_)
                              clear hK K
                              refine norm_ (a' := ?_) ?_ ?_
                              rotate_left
                              ·show Act.put _ (some 57) _ = _
                               simp only [Act.put, List.setIfInBounds_toArray, List.set_cons_zero, List.set_cons_succ, i64_w, i32_w]
                               rfl
                              exact norm_ (by first | (simp only [putAll, Act.put, List.setIfInBounds_toArray, List.set_cons_zero, List.set_cons_succ]; done) | (simp only [putAll, Act.put, List.setIfInBounds_toArray, List.set_cons_zero, List.set_cons_succ]; rfl)) (hJ7_13 (v281, gb293) _ ⟨hHeld, (by (with_reducible repeat (first | apply Kd.R_alloc | apply Kd.R_drewN | apply Kd.R_drew)); exact Kd.R_mono HO282.out (fun _ hk => hk.2)), (by (with_reducible repeat (first | apply Kd.R_alloc | apply Kd.R_drewN | apply Kd.R_drew)); exact Kd.R_mono HO_7.out (fun _ hk => hk.2)), (wK BK269), (wK BK293), GW293.out, GE293.out, NB269_293.out, NB293_269.out, (wB HB)⟩)
                           ·skip
                            rintro v281 w30 ⟨hS_, h0_, h1_, h2_, h3_⟩
                            have n0_ : Aside0 (Kd.R k32 32 w30 w.heap.size (fun k_ => some k_ ≠ (.slice (some ad279) y270.length co26 : Value).ownBlock) v281 y280) := ⟨h0_⟩
                            have n1_ : Aside0 (Kd.R k32 32 w30 w.heap.size (fun k_ => some k_ ≠ (v281 : Value).ownBlock) (.slice (some ad279) y270.length co26) y270) := ⟨h1_⟩
                            have n2_ : Aside0 (w30.heap[gb269]? = some (.cells #[.string t262, .string t263, .string t264, .string t265, .bool t266, .int .i64 t267] 26 (0, 0))) := ⟨h2_⟩
                            have n3_ : Aside0 (Below w.heap.size w w30) := ⟨h3_⟩
                            clear HO_7 BK269 HB h0_ h1_ h2_ h3_; have HO282 := n0_; have HO_7 := n1_; have BK269 := n2_; have HB := n3_; clear n0_ n1_ n2_ n3_
                            have hHeld : w30.cell? (ad279.add ((x8_2).toNat * 3)) = some (.string ((rd_T32 y270 x8_2).f0)) ∧ w30.cell? ⟨(ad279.add ((x8_2).toNat * 3)).block, (ad279.add ((x8_2).toNat * 3)).off + 1, none⟩ = some (.string ((rd_T32 y270 x8_2).f1)) ∧ w30.cell? ⟨(ad279.add ((x8_2).toNat * 3)).block, (ad279.add ((x8_2).toNat * 3)).off + 2, none⟩ = some (.bool ((rd_T32 y270 x8_2).f2)) := hS_
                            refine norm_ (a' := ?_) ?_ ?_
                            rotate_left
                            ·simp only [putAll, Act.put, List.setIfInBounds_toArray, List.set_cons_zero, List.set_cons_succ]
                             rfl
                            refine two_ (i := 0) (j := 13) (Ni := some 50) (Nj := some 9) #[true, true, false, true, true, true, true, true, false, false, false, false, false, false, false, false] #[false, true, false, true, true, true, true, true, false, false, false, false, false, true, false, false] rfl rfl rfl rfl (two_of HT_.out (by kernel_rfl)) (by decide) (by decide) (fun K hK => ?_) (fun K hK => ?_)
                            ·skip
                             refine Kd.R_lit_step k32 _ 32 ?hg (N := 50) ?hd (xs := ([] : List (S32))) (inner := []) (ok := fun _ => True) (okp := fun _ => True) ?hr ?hp (fun _ hk => hk) trivial (Below.refl _ _) (Nat.le_refl _) (by simp) ?_; (case hd => rfl); (case hg => rfl); (case hr => first | (go_simp; done) | (go_simp; rfl)); (case hp => exact (Reps.none _ _))
                             intro v274 w31 ho32 hb hg_ hnew_
                             have HS0_ := (hb.cell (World.block_lt_of_cell? _ _ (hHeld.1))).trans (hHeld.1)
                             have HS1_ := (hb.cell (World.block_lt_of_cell? _ _ (hHeld.2.1))).trans (hHeld.2.1)
                             have HS2_ := (hb.cell (World.block_lt_of_cell? _ _ (hHeld.2.2))).trans (hHeld.2.2)
                             clear hg_ hnew_
                             (first | rw [← Ny273.out] at ho32 | (simp only [Int.reduceToNat] at ho32; rw [← Ny273.out] at ho32))
                             have n0_ := Aside0.mk (Kd.R_elder' (wR HO_7) (Kd.R_base ho32) hb)
                             have n1_ := Aside0.mk (Kd.R_elder' (wR HO282) (Kd.R_base ho32) hb)
                             have n2_ := Aside0.mk (Kd.R_lower (Kd.R_new' (Kd.R_new' ho32 (Kd.R_lt (wR HO_7))) (Kd.R_lt (wR HO282))) (below_size (wB HB)))
                             have n3_ := Aside0.mk (blk_below (g := gb269) (o := .cells #[.string t262, .string t263, .string t264, .string t265, .bool t266, .int .i64 t267] 26 (0, 0)) (wK BK269) hb)
                             have n4_ := Aside0.mk (below_step (wB HB) hb)
                             clear HO_7 HO282 BK269 HB; have HO_7 := n0_; have HO282 := n1_; have HO275 := n2_; have BK269 := n3_; have HB := n4_; clear n0_ n1_ n2_ n3_ n4_ hb ho32
                             refine hK.out _ _ ⟨HS0_, HS1_, HS2_⟩ (fun hHeld => ?_)
                             clear hK K
                             refine norm_ (a' := ?_) ?_ ?_
                             rotate_left
                             ·show Act.put _ (some 50) _ = _
                              simp only [Act.put, List.setIfInBounds_toArray, List.set_cons_zero, List.set_cons_succ, i64_w, i32_w]
                              rfl
                             exact norm_ (by first | (simp only [putAll, Act.put, List.setIfInBounds_toArray, List.set_cons_zero, List.set_cons_succ]; done) | (simp only [putAll, Act.put, List.setIfInBounds_toArray, List.set_cons_zero, List.set_cons_succ]; rfl)) (hJ0_7 (v274, v281) _ ⟨hHeld, (by (with_reducible repeat (first | apply Kd.R_alloc | apply Kd.R_drewN | apply Kd.R_drew)); exact Kd.R_mono HO275.out (fun _ hk => ⟨hk.2, hk.1.2⟩)), (by (with_reducible repeat (first | apply Kd.R_alloc | apply Kd.R_drewN | apply Kd.R_drew)); exact Kd.R_mono HO282.out (fun _ hk => ⟨hk.2, hk.1⟩)), (by (with_reducible repeat (first | apply Kd.R_alloc | apply Kd.R_drewN | apply Kd.R_drew)); exact Kd.R_mono HO_7.out (fun _ hk => ⟨hk.2, hk.1⟩)), (wK BK269), (wB HB)⟩)
                            ·skip
                             refine box_step ?hg (N := 9) ?hd (cs := #[.string (⟨#[]⟩ : ByteArray), .string (⟨#[]⟩ : ByteArray), .string (⟨#[]⟩ : ByteArray), .string (⟨#[]⟩ : ByteArray), .bool false, .int .i64 0]) (t := 26) ?hr ?_; (case hd => rfl); (case hg => rfl); (case hr => first | (go_simp; done) | (go_simp; rfl))
                             intro gb293 hg w31 hbox hb
                             have HS0_ := (hb.cell (World.block_lt_of_cell? _ _ (hHeld.1))).trans (hHeld.1)
                             have HS1_ := (hb.cell (World.block_lt_of_cell? _ _ (hHeld.2.1))).trans (hHeld.2.1)
                             have HS2_ := (hb.cell (World.block_lt_of_cell? _ _ (hHeld.2.2))).trans (hHeld.2.2)
                             have n0_ := Aside0.mk (Kd.R_below (wR HO_7) hb)
                             have n1_ := Aside0.mk (Kd.R_below (wR HO282) hb)
                             have n2_ := Aside0.mk (blk_below (g := gb269) (o := .cells #[.string t262, .string t263, .string t264, .string t265, .bool t266, .int .i64 t267] 26 (0, 0)) (wK BK269) hb)
                             have n3_ := Aside0.mk (below_step (wB HB) hb)
                             have n4_ := Aside0.mk (hbox)
                             have n5_ := Aside0.mk ((by rw [hg]; exact (below_size (wB HB)) : w.heap.size ≤ gb293))
                             have n6_ := Aside0.mk ((by rw [hg]; exact (below_size (wB HB)) : w.heap.size ≤ gb293))
                             have n7_ := Aside0.mk ((by rw [hg]; exact Nat.ne_of_lt (blk_lt (g := gb269) (o := .cells #[.string t262, .string t263, .string t264, .string t265, .bool t266, .int .i64 t267] 26 (0, 0)) (wK BK269)) : gb269 ≠ gb293))
                             have n8_ := Aside0.mk ((by rw [hg]; exact Nat.ne_of_gt (blk_lt (g := gb269) (o := .cells #[.string t262, .string t263, .string t264, .string t265, .bool t266, .int .i64 t267] 26 (0, 0)) (wK BK269)) : gb293 ≠ gb269))
                             clear HO_7 HO282 BK269 HB; have HO_7 := n0_; have HO282 := n1_; have BK269 := n2_; have HB := n3_; have BK293 := n4_; have GW293 := n5_; have GE293 := n6_; have NB269_293 := n7_; have NB293_269 := n8_; clear n0_ n1_ n2_ n3_ n4_ n5_ n6_ n7_ n8_ hb hbox hg
                             refine hK.out _ _ ⟨HS0_, HS1_, HS2_⟩ (fun hHeld => ?_)
                             clear hK K
                             refine norm_ (a' := ?_) ?_ ?_
                             rotate_left
                             ·show Act.put _ (some 9) _ = _
                              simp only [Act.put, List.setIfInBounds_toArray, List.set_cons_zero, List.set_cons_succ, i64_w, i32_w]
                              rfl
                             exact norm_ (by first | (simp only [putAll, Act.put, List.setIfInBounds_toArray, List.set_cons_zero, List.set_cons_succ]; done) | (simp only [putAll, Act.put, List.setIfInBounds_toArray, List.set_cons_zero, List.set_cons_succ]; rfl)) (hJ7_13 (v281, gb293) _ ⟨hHeld, (wR HO282), (wR HO_7), (wK BK269), (wK BK293), GW293.out, GE293.out, NB269_293.out, NB293_269.out, (wB HB)⟩)
                          ·skip
                           rintro v274 w30 ⟨hS_, h0_, h1_, h2_, h3_⟩
                           have n0_ : Aside0 (Kd.R k32 32 w30 w.heap.size (fun k_ => some k_ ≠ (.slice (some ad279) y270.length co26 : Value).ownBlock) v274 y273) := ⟨h0_⟩
                           have n1_ : Aside0 (Kd.R k32 32 w30 w.heap.size (fun k_ => some k_ ≠ (v274 : Value).ownBlock) (.slice (some ad279) y270.length co26) y270) := ⟨h1_⟩
                           have n2_ : Aside0 (w30.heap[gb269]? = some (.cells #[.string t262, .string t263, .string t264, .string t265, .bool t266, .int .i64 t267] 26 (0, 0))) := ⟨h2_⟩
                           have n3_ : Aside0 (Below w.heap.size w w30) := ⟨h3_⟩
                           clear HO_7 BK269 HB h0_ h1_ h2_ h3_; have HO275 := n0_; have HO_7 := n1_; have BK269 := n2_; have HB := n3_; clear n0_ n1_ n2_ n3_
                           have hHeld : w30.cell? (ad279.add ((x8_2).toNat * 3)) = some (.string ((rd_T32 y270 x8_2).f0)) ∧ w30.cell? ⟨(ad279.add ((x8_2).toNat * 3)).block, (ad279.add ((x8_2).toNat * 3)).off + 1, none⟩ = some (.string ((rd_T32 y270 x8_2).f1)) ∧ w30.cell? ⟨(ad279.add ((x8_2).toNat * 3)).block, (ad279.add ((x8_2).toNat * 3)).off + 2, none⟩ = some (.bool ((rd_T32 y270 x8_2).f2)) := hS_
                           refine norm_ (a' := ?_) ?_ ?_
                           rotate_left
                           ·simp only [putAll, Act.put, List.setIfInBounds_toArray, List.set_cons_zero, List.set_cons_succ]
                            rfl
                           refine three_ (i := 2) (j := 7) (k := 13) (Ni := some 52) (Nj := some 57) (Nk := some 9) #[true, true, true, true, true, true, true, false, false, false, false, false, false, false, false, false] #[true, true, false, true, true, true, true, true, false, false, false, false, false, false, false, false] #[true, true, false, true, true, true, true, false, false, false, false, false, false, true, false, false] rfl rfl rfl rfl rfl rfl (three_of HT_.out (by kernel_rfl)) (by decide) (by decide) (by decide) (fun K hK => ?_) (fun K hK => ?_) (fun K hK => ?_)
                           ·skip
                            refine Kd.R_append_rows_step k32 (w0 := w) w.heap.size (by rfl) (.tmp 50) (.tmp 51) 22 32 (.agg #[(.string ⟨#[]⟩), (.string ⟨#[]⟩), (.bool false)]) 40 rfl Tryd.underlying22 info32 rfl (by decide) (by omega) v274 y273 l0 _ _ _ (fun k_ => some k_ ≠ (.slice (some ad279) y270.length co26 : Value).ownBlock) (fun _ => False) rfl rfl ?aO ?aR (fun _ _ h => h) (fun _ h => h.elim) ?aF ?aB ?aS ?aL ?_
                            (case aR => repeat (first | exact (Kd.C_below HR0.out HB.out) | (with_reducible refine Kd.C_alloc ?_ _) | (with_reducible refine Kd.C_drewN ?_ _) | (with_reducible refine Kd.C_drew ?_)))
                            (case aB => exact (wB HB))
                            (case aF => exact (fun k_ hk => Kd.fresh' (Kd.R_lt (wR HO_7)) k_ hk))
                            (case aO => exact (wR HO275))
                            (case aS => exact (below_size (wB HB)))
                            (case aL => have := LMc20.out; omega)
                            intro v277 w31 ho hb hg hat
                            have HS0_ := cell_grown hg (hHeld.1) (by (first | rw [add_block] | skip); intro e_; have h_ := HO275.out.1 _ e_.symm; first | exact h_ rfl | exact h_.1 rfl | exact h_.2 rfl | exact h_.1.1 rfl | exact h_.1.2 rfl | exact h_.2.1 rfl | exact h_.2.2 rfl | exact h_.2.2.1 rfl | exact h_.2.2.2 rfl)
                            have HS1_ := cell_grown hg (hHeld.2.1) (by (first | rw [add_block] | skip); intro e_; have h_ := HO275.out.1 _ e_.symm; first | exact h_ rfl | exact h_.1 rfl | exact h_.2 rfl | exact h_.1.1 rfl | exact h_.1.2 rfl | exact h_.2.1 rfl | exact h_.2.2 rfl | exact h_.2.2.1 rfl | exact h_.2.2.2 rfl)
                            have HS2_ := cell_grown hg (hHeld.2.2) (by (first | rw [add_block] | skip); intro e_; have h_ := HO275.out.1 _ e_.symm; first | exact h_ rfl | exact h_.1 rfl | exact h_.2 rfl | exact h_.1.1 rfl | exact h_.1.2 rfl | exact h_.2.1 rfl | exact h_.2.2 rfl | exact h_.2.2.1 rfl | exact h_.2.2.2 rfl)
                            rw [← Ny276.out] at ho
                            have n0_ := Aside0.mk (Kd.R_after (ok := (fun _ => True)) (by (with_reducible repeat (first | apply Kd.R_alloc | apply Kd.R_drewN | apply Kd.R_drew)); exact Kd.R_mono HO_7.out (fun _ hk => ⟨trivial, hk⟩)) hg hat)
                            have n1_ := Aside0.mk (blk_grown (g := gb269) (o := .cells #[.string t262, .string t263, .string t264, .string t265, .bool t266, .int .i64 t267] 26 (0, 0)) (wK BK269) hg (Kd.R_ne HO275.out BK269.out (by decide)))
                            have n2_ := Aside0.mk (hb)
                            have n3_ := Aside0.mk (ho)
                            clear HO_7 BK269 HB HO275; have HO_7 := n0_; have BK269 := n1_; have HB := n2_; have HO278 := n3_; clear n0_ n1_ n2_ n3_ ho hb hg hat
                            refine hK.out _ _ ⟨HS0_, HS1_, HS2_⟩ (fun hHeld => ?_)
                            clear hK K
                            refine norm_ (a' := ?_) ?_ ?_
                            rotate_left
                            ·show Act.put _ (some 52) _ = _
                             simp only [Act.put, List.setIfInBounds_toArray, List.set_cons_zero, List.set_cons_succ, i64_w, i32_w]
                             rfl
                            exact norm_ (by first | (simp only [putAll, Act.put, List.setIfInBounds_toArray, List.set_cons_zero, List.set_cons_succ]; done) | (simp only [putAll, Act.put, List.setIfInBounds_toArray, List.set_cons_zero, List.set_cons_succ]; rfl)) (hJ0_2 (v274, v277) _ ⟨hHeld, (wR HO278), (by (with_reducible repeat (first | apply Kd.R_alloc | apply Kd.R_drewN | apply Kd.R_drew)); exact Kd.R_mono HO_7.out (fun _ hk => hk.2)), (wK BK269), (wB HB)⟩)
                           ·skip
                            refine Kd.R_lit_step k32 _ 32 ?hg (N := 57) ?hd (xs := ([(⟨(rd_T32 y270 x8_2).f0, (rd_T32 y270 x8_2).f1, (rd_T32 y270 x8_2).f2⟩ : S32)] : List (S32))) (inner := [.string ((rd_T32 y270 x8_2).f0), .string ((rd_T32 y270 x8_2).f1), .bool ((rd_T32 y270 x8_2).f2)]) (ok := fun _ => True) (okp := fun _ => True) ?hr ?hp (fun _ hk => hk) trivial (Below.refl _ _) (Nat.le_refl _) (by simp) ?_; (case hd => rfl); (case hg => rfl); (case hr => first | (go_simp; done) | (go_simp; rfl)); (case hp => exact (Reps.c3 (show Kd.M k32 _ _ _ (⟨(rd_T32 y270 x8_2).f0, (rd_T32 y270 x8_2).f1, (rd_T32 y270 x8_2).f2⟩ : S32) [.string ((rd_T32 y270 x8_2).f0), .string ((rd_T32 y270 x8_2).f1), .bool ((rd_T32 y270 x8_2).f2)] from (k32_mkM _ _ _ (⟨(rd_T32 y270 x8_2).f0, (rd_T32 y270 x8_2).f1, (rd_T32 y270 x8_2).f2⟩ : S32) )) (Reps.none _ _)))
                            intro v281 w31 ho32 hb hg_ hnew_
                            have HS0_ := (hb.cell (World.block_lt_of_cell? _ _ (hHeld.1))).trans (hHeld.1)
                            have HS1_ := (hb.cell (World.block_lt_of_cell? _ _ (hHeld.2.1))).trans (hHeld.2.1)
                            have HS2_ := (hb.cell (World.block_lt_of_cell? _ _ (hHeld.2.2))).trans (hHeld.2.2)
                            clear hg_ hnew_
                            (first | rw [← Ny280.out] at ho32 | (simp only [Int.reduceToNat] at ho32; rw [← Ny280.out] at ho32))
                            have n0_ := Aside0.mk (Kd.R_elder' (wR HO_7) (Kd.R_base ho32) hb)
                            have n1_ := Aside0.mk (Kd.R_elder' (wR HO275) (Kd.R_base ho32) hb)
                            have n2_ := Aside0.mk (Kd.R_lower (Kd.R_new' (Kd.R_new' ho32 (Kd.R_lt (wR HO_7))) (Kd.R_lt (wR HO275))) (below_size (wB HB)))
                            have n3_ := Aside0.mk (blk_below (g := gb269) (o := .cells #[.string t262, .string t263, .string t264, .string t265, .bool t266, .int .i64 t267] 26 (0, 0)) (wK BK269) hb)
                            have n4_ := Aside0.mk (below_step (wB HB) hb)
                            clear HO_7 HO275 BK269 HB; have HO_7 := n0_; have HO275 := n1_; have HO282 := n2_; have BK269 := n3_; have HB := n4_; clear n0_ n1_ n2_ n3_ n4_ hb ho32
                            refine hK.out _ _ ⟨HS0_, HS1_, HS2_⟩ (fun hHeld => ?_)
                            clear hK K
                            refine norm_ (a' := ?_) ?_ ?_
                            rotate_left
                            ·show Act.put _ (some 57) _ = _
                             simp only [Act.put, List.setIfInBounds_toArray, List.set_cons_zero, List.set_cons_succ, i64_w, i32_w]
                             rfl
                            exact norm_ (by first | (simp only [putAll, Act.put, List.setIfInBounds_toArray, List.set_cons_zero, List.set_cons_succ]; done) | (simp only [putAll, Act.put, List.setIfInBounds_toArray, List.set_cons_zero, List.set_cons_succ]; rfl)) (hJ0_7 (v274, v281) _ ⟨hHeld, (by (with_reducible repeat (first | apply Kd.R_alloc | apply Kd.R_drewN | apply Kd.R_drew)); exact Kd.R_mono HO275.out (fun _ hk => ⟨hk.2, hk.1⟩)), (by (with_reducible repeat (first | apply Kd.R_alloc | apply Kd.R_drewN | apply Kd.R_drew)); exact Kd.R_mono HO282.out (fun _ hk => ⟨hk.2, hk.1.2⟩)), (wR HO_7), (wK BK269), (wB HB)⟩)
                           ·skip
                            refine box_step ?hg (N := 9) ?hd (cs := #[.string (⟨#[]⟩ : ByteArray), .string (⟨#[]⟩ : ByteArray), .string (⟨#[]⟩ : ByteArray), .string (⟨#[]⟩ : ByteArray), .bool false, .int .i64 0]) (t := 26) ?hr ?_; (case hd => rfl); (case hg => rfl); (case hr => first | (go_simp; done) | (go_simp; rfl))
                            intro gb293 hg w31 hbox hb
                            have HS0_ := (hb.cell (World.block_lt_of_cell? _ _ (hHeld.1))).trans (hHeld.1)
                            have HS1_ := (hb.cell (World.block_lt_of_cell? _ _ (hHeld.2.1))).trans (hHeld.2.1)
                            have HS2_ := (hb.cell (World.block_lt_of_cell? _ _ (hHeld.2.2))).trans (hHeld.2.2)
                            have n0_ := Aside0.mk (Kd.R_below (wR HO_7) hb)
                            have n1_ := Aside0.mk (Kd.R_below (wR HO275) hb)
                            have n2_ := Aside0.mk (blk_below (g := gb269) (o := .cells #[.string t262, .string t263, .string t264, .string t265, .bool t266, .int .i64 t267] 26 (0, 0)) (wK BK269) hb)
                            have n3_ := Aside0.mk (below_step (wB HB) hb)
                            have n4_ := Aside0.mk (hbox)
                            have n5_ := Aside0.mk ((by rw [hg]; exact (below_size (wB HB)) : w.heap.size ≤ gb293))
                            have n6_ := Aside0.mk ((by rw [hg]; exact (below_size (wB HB)) : w.heap.size ≤ gb293))
                            have n7_ := Aside0.mk ((by rw [hg]; exact Nat.ne_of_lt (blk_lt (g := gb269) (o := .cells #[.string t262, .string t263, .string t264, .string t265, .bool t266, .int .i64 t267] 26 (0, 0)) (wK BK269)) : gb269 ≠ gb293))
                            have n8_ := Aside0.mk ((by rw [hg]; exact Nat.ne_of_gt (blk_lt (g := gb269) (o := .cells #[.string t262, .string t263, .string t264, .string t265, .bool t266, .int .i64 t267] 26 (0, 0)) (wK BK269)) : gb293 ≠ gb269))
                            clear HO_7 HO275 BK269 HB; have HO_7 := n0_; have HO275 := n1_; have BK269 := n2_; have HB := n3_; have BK293 := n4_; have GW293 := n5_; have GE293 := n6_; have NB269_293 := n7_; have NB293_269 := n8_; clear n0_ n1_ n2_ n3_ n4_ n5_ n6_ n7_ n8_ hb hbox hg
                            refine hK.out _ _ ⟨HS0_, HS1_, HS2_⟩ (fun hHeld => ?_)
                            clear hK K
                            refine norm_ (a' := ?_) ?_ ?_
                            rotate_left
                            ·show Act.put _ (some 9) _ = _
                             simp only [Act.put, List.setIfInBounds_toArray, List.set_cons_zero, List.set_cons_succ, i64_w, i32_w]
                             rfl
                            exact norm_ (by first | (simp only [putAll, Act.put, List.setIfInBounds_toArray, List.set_cons_zero, List.set_cons_succ]; done) | (simp only [putAll, Act.put, List.setIfInBounds_toArray, List.set_cons_zero, List.set_cons_succ]; rfl)) (hJ0_13 (v274, gb293) _ ⟨hHeld, (wR HO275), (wR HO_7), (wK BK269), (wK BK293), GW293.out, GE293.out, NB269_293.out, NB293_269.out, (wB HB)⟩)
                         ·skip
                          rintro ⟨v281, gb293⟩ w31 ⟨hS_, h0_, h1_, h2_, h3_, h4_, h5_, h6_, h7_, h8_⟩
                          have n0_ : Aside0 (Kd.R k32 32 w31 w.heap.size (fun k_ => some k_ ≠ (.slice (some ad279) y270.length co26 : Value).ownBlock) v281 y280) := ⟨h0_⟩
                          have n1_ : Aside0 (Kd.R k32 32 w31 w.heap.size (fun k_ => some k_ ≠ (v281 : Value).ownBlock) (.slice (some ad279) y270.length co26) y270) := ⟨h1_⟩
                          have n2_ : Aside0 (w31.heap[gb269]? = some (.cells #[.string t262, .string t263, .string t264, .string t265, .bool t266, .int .i64 t267] 26 (0, 0))) := ⟨h2_⟩
                          have n3_ : Aside0 (w31.heap[gb293]? = some (.cells #[.string (⟨#[]⟩ : ByteArray), .string (⟨#[]⟩ : ByteArray), .string (⟨#[]⟩ : ByteArray), .string (⟨#[]⟩ : ByteArray), .bool false, .int .i64 0] 26 (0, 0))) := ⟨h3_⟩
                          have n4_ : Aside0 (w.heap.size ≤ gb293) := ⟨h4_⟩
                          have n5_ : Aside0 (w.heap.size ≤ gb293) := ⟨h5_⟩
                          have n6_ : Aside0 (gb269 ≠ gb293) := ⟨h6_⟩
                          have n7_ : Aside0 (gb293 ≠ gb269) := ⟨h7_⟩
                          have n8_ : Aside0 (Below w.heap.size w w31) := ⟨h8_⟩
                          clear HO_7 BK269 HB h0_ h1_ h2_ h3_ h4_ h5_ h6_ h7_ h8_; have HO282 := n0_; have HO_7 := n1_; have BK269 := n2_; have BK293 := n3_; have GW293 := n4_; have GE293 := n5_; have NB269_293 := n6_; have NB293_269 := n7_; have HB := n8_; clear n0_ n1_ n2_ n3_ n4_ n5_ n6_ n7_ n8_
                          have hHeld : w31.cell? (ad279.add ((x8_2).toNat * 3)) = some (.string ((rd_T32 y270 x8_2).f0)) ∧ w31.cell? ⟨(ad279.add ((x8_2).toNat * 3)).block, (ad279.add ((x8_2).toNat * 3)).off + 1, none⟩ = some (.string ((rd_T32 y270 x8_2).f1)) ∧ w31.cell? ⟨(ad279.add ((x8_2).toNat * 3)).block, (ad279.add ((x8_2).toNat * 3)).off + 2, none⟩ = some (.bool ((rd_T32 y270 x8_2).f2)) := hS_
                          refine norm_ (a' := ?_) ?_ ?_
                          rotate_left
                          ·simp only [putAll, Act.put, List.setIfInBounds_toArray, List.set_cons_zero, List.set_cons_succ]
                           rfl
                          refine one_ (i := 0) (N := some 50) #[true, true, false, true, true, true, true, true, false, false, false, false, false, true, false, false] rfl rfl (one_of HT_.out (by kernel_rfl)) (by decide) (fun K hK => ?_)
                          refine Kd.R_lit_step k32 _ 32 ?hg (N := 50) ?hd (xs := ([] : List (S32))) (inner := []) (ok := fun _ => True) (okp := fun _ => True) ?hr ?hp (fun _ hk => hk) trivial (Below.refl _ _) (Nat.le_refl _) (by simp) ?_; (case hd => rfl); (case hg => rfl); (case hr => first | (go_simp; done) | (go_simp; rfl)); (case hp => exact (Reps.none _ _))
                          intro v274 w32 ho33 hb hg_ hnew_
                          have HS0_ := (hb.cell (World.block_lt_of_cell? _ _ (hHeld.1))).trans (hHeld.1)
                          have HS1_ := (hb.cell (World.block_lt_of_cell? _ _ (hHeld.2.1))).trans (hHeld.2.1)
                          have HS2_ := (hb.cell (World.block_lt_of_cell? _ _ (hHeld.2.2))).trans (hHeld.2.2)
                          clear hg_ hnew_
                          (first | rw [← Ny273.out] at ho33 | (simp only [Int.reduceToNat] at ho33; rw [← Ny273.out] at ho33))
                          have n0_ := Aside0.mk (Kd.R_elder' (wR HO_7) (Kd.R_base ho33) hb)
                          have n1_ := Aside0.mk (Kd.R_elder' (wR HO282) (Kd.R_base ho33) hb)
                          have n2_ := Aside0.mk (Kd.R_lower (Kd.R_new' (Kd.R_new' ho33 (Kd.R_lt (wR HO_7))) (Kd.R_lt (wR HO282))) (below_size (wB HB)))
                          have n3_ := Aside0.mk (blk_below (g := gb269) (o := .cells #[.string t262, .string t263, .string t264, .string t265, .bool t266, .int .i64 t267] 26 (0, 0)) (wK BK269) hb)
                          have n4_ := Aside0.mk (blk_below (g := gb293) (o := .cells #[.string (⟨#[]⟩ : ByteArray), .string (⟨#[]⟩ : ByteArray), .string (⟨#[]⟩ : ByteArray), .string (⟨#[]⟩ : ByteArray), .bool false, .int .i64 0] 26 (0, 0)) (wK BK293) hb)
                          have n5_ := Aside0.mk (below_step (wB HB) hb)
                          clear HO_7 HO282 BK269 BK293 HB; have HO_7 := n0_; have HO282 := n1_; have HO275 := n2_; have BK269 := n3_; have BK293 := n4_; have HB := n5_; clear n0_ n1_ n2_ n3_ n4_ n5_ hb ho33
                          refine hK.out _ _ ⟨HS0_, HS1_, HS2_⟩ (fun hHeld => ?_)
                          clear hK K
                          refine norm_ (a' := ?_) ?_ ?_
                          rotate_left
                          ·show Act.put _ (some 50) _ = _
                           simp only [Act.put, List.setIfInBounds_toArray, List.set_cons_zero, List.set_cons_succ, i64_w, i32_w]
                           rfl
                          exact norm_ (by first | (simp only [putAll, Act.put, List.setIfInBounds_toArray, List.set_cons_zero, List.set_cons_succ]; done) | (simp only [putAll, Act.put, List.setIfInBounds_toArray, List.set_cons_zero, List.set_cons_succ]; rfl)) (hJ0_7_13 (v274, v281, gb293) _ ⟨hHeld, (by (with_reducible repeat (first | apply Kd.R_alloc | apply Kd.R_drewN | apply Kd.R_drew)); exact Kd.R_mono HO275.out (fun _ hk => ⟨hk.2, hk.1.2⟩)), (by (with_reducible repeat (first | apply Kd.R_alloc | apply Kd.R_drewN | apply Kd.R_drew)); exact Kd.R_mono HO282.out (fun _ hk => ⟨hk.2, hk.1⟩)), (by (with_reducible repeat (first | apply Kd.R_alloc | apply Kd.R_drewN | apply Kd.R_drew)); exact Kd.R_mono HO_7.out (fun _ hk => ⟨hk.2, hk.1⟩)), (wK BK269), (wK BK293), GW293.out, GE293.out, NB269_293.out, NB293_269.out, (wB HB)⟩)
                        ·skip
                         rintro ⟨v274, gb293⟩ w31 ⟨hS_, h0_, h1_, h2_, h3_, h4_, h5_, h6_, h7_, h8_⟩
                         have n0_ : Aside0 (Kd.R k32 32 w31 w.heap.size (fun k_ => some k_ ≠ (.slice (some ad279) y270.length co26 : Value).ownBlock) v274 y273) := ⟨h0_⟩
                         have n1_ : Aside0 (Kd.R k32 32 w31 w.heap.size (fun k_ => some k_ ≠ (v274 : Value).ownBlock) (.slice (some ad279) y270.length co26) y270) := ⟨h1_⟩
                         have n2_ : Aside0 (w31.heap[gb269]? = some (.cells #[.string t262, .string t263, .string t264, .string t265, .bool t266, .int .i64 t267] 26 (0, 0))) := ⟨h2_⟩
                         have n3_ : Aside0 (w31.heap[gb293]? = some (.cells #[.string (⟨#[]⟩ : ByteArray), .string (⟨#[]⟩ : ByteArray), .string (⟨#[]⟩ : ByteArray), .string (⟨#[]⟩ : ByteArray), .bool false, .int .i64 0] 26 (0, 0))) := ⟨h3_⟩
                         have n4_ : Aside0 (w.heap.size ≤ gb293) := ⟨h4_⟩
                         have n5_ : Aside0 (w.heap.size ≤ gb293) := ⟨h5_⟩
                         have n6_ : Aside0 (gb269 ≠ gb293) := ⟨h6_⟩
                         have n7_ : Aside0 (gb293 ≠ gb269) := ⟨h7_⟩
                         have n8_ : Aside0 (Below w.heap.size w w31) := ⟨h8_⟩
                         clear HO_7 BK269 HB h0_ h1_ h2_ h3_ h4_ h5_ h6_ h7_ h8_; have HO275 := n0_; have HO_7 := n1_; have BK269 := n2_; have BK293 := n3_; have GW293 := n4_; have GE293 := n5_; have NB269_293 := n6_; have NB293_269 := n7_; have HB := n8_; clear n0_ n1_ n2_ n3_ n4_ n5_ n6_ n7_ n8_
                         have hHeld : w31.cell? (ad279.add ((x8_2).toNat * 3)) = some (.string ((rd_T32 y270 x8_2).f0)) ∧ w31.cell? ⟨(ad279.add ((x8_2).toNat * 3)).block, (ad279.add ((x8_2).toNat * 3)).off + 1, none⟩ = some (.string ((rd_T32 y270 x8_2).f1)) ∧ w31.cell? ⟨(ad279.add ((x8_2).toNat * 3)).block, (ad279.add ((x8_2).toNat * 3)).off + 2, none⟩ = some (.bool ((rd_T32 y270 x8_2).f2)) := hS_
                         refine norm_ (a' := ?_) ?_ ?_
                         rotate_left
                         ·simp only [putAll, Act.put, List.setIfInBounds_toArray, List.set_cons_zero, List.set_cons_succ]
                          rfl
                         refine two_ (i := 2) (j := 7) (Ni := some 52) (Nj := some 57) #[true, true, true, true, true, true, true, false, false, false, false, false, false, true, false, false] #[true, true, false, true, true, true, true, true, false, false, false, false, false, true, false, false] rfl rfl rfl rfl (two_of HT_.out (by kernel_rfl)) (by decide) (by decide) (fun K hK => ?_) (fun K hK => ?_)
                         ·skip
                          refine Kd.R_append_rows_step k32 (w0 := w) w.heap.size (by rfl) (.tmp 50) (.tmp 51) 22 32 (.agg #[(.string ⟨#[]⟩), (.string ⟨#[]⟩), (.bool false)]) 40 rfl Tryd.underlying22 info32 rfl (by decide) (by omega) v274 y273 l0 _ _ _ (fun k_ => some k_ ≠ (.slice (some ad279) y270.length co26 : Value).ownBlock) (fun _ => False) rfl rfl ?aO ?aR (fun _ _ h => h) (fun _ h => h.elim) ?aF ?aB ?aS ?aL ?_
                          (case aR => repeat (first | exact (Kd.C_below HR0.out HB.out) | (with_reducible refine Kd.C_alloc ?_ _) | (with_reducible refine Kd.C_drewN ?_ _) | (with_reducible refine Kd.C_drew ?_)))
                          (case aB => exact (wB HB))
                          (case aF => exact (fun k_ hk => Kd.fresh' (Kd.R_lt (wR HO_7)) k_ hk))
                          (case aO => exact (wR HO275))
                          (case aS => exact (below_size (wB HB)))
                          (case aL => have := LMc20.out; omega)
                          intro v277 w32 ho hb hg hat
                          have HS0_ := cell_grown hg (hHeld.1) (by (first | rw [add_block] | skip); intro e_; have h_ := HO275.out.1 _ e_.symm; first | exact h_ rfl | exact h_.1 rfl | exact h_.2 rfl | exact h_.1.1 rfl | exact h_.1.2 rfl | exact h_.2.1 rfl | exact h_.2.2 rfl | exact h_.2.2.1 rfl | exact h_.2.2.2 rfl)
                          have HS1_ := cell_grown hg (hHeld.2.1) (by (first | rw [add_block] | skip); intro e_; have h_ := HO275.out.1 _ e_.symm; first | exact h_ rfl | exact h_.1 rfl | exact h_.2 rfl | exact h_.1.1 rfl | exact h_.1.2 rfl | exact h_.2.1 rfl | exact h_.2.2 rfl | exact h_.2.2.1 rfl | exact h_.2.2.2 rfl)
                          have HS2_ := cell_grown hg (hHeld.2.2) (by (first | rw [add_block] | skip); intro e_; have h_ := HO275.out.1 _ e_.symm; first | exact h_ rfl | exact h_.1 rfl | exact h_.2 rfl | exact h_.1.1 rfl | exact h_.1.2 rfl | exact h_.2.1 rfl | exact h_.2.2 rfl | exact h_.2.2.1 rfl | exact h_.2.2.2 rfl)
                          rw [← Ny276.out] at ho
                          have n0_ := Aside0.mk (Kd.R_after (ok := (fun _ => True)) (by (with_reducible repeat (first | apply Kd.R_alloc | apply Kd.R_drewN | apply Kd.R_drew)); exact Kd.R_mono HO_7.out (fun _ hk => ⟨trivial, hk⟩)) hg hat)
                          have n1_ := Aside0.mk (blk_grown (g := gb269) (o := .cells #[.string t262, .string t263, .string t264, .string t265, .bool t266, .int .i64 t267] 26 (0, 0)) (wK BK269) hg (Kd.R_ne HO275.out BK269.out (by decide)))
                          have n2_ := Aside0.mk (blk_grown (g := gb293) (o := .cells #[.string (⟨#[]⟩ : ByteArray), .string (⟨#[]⟩ : ByteArray), .string (⟨#[]⟩ : ByteArray), .string (⟨#[]⟩ : ByteArray), .bool false, .int .i64 0] 26 (0, 0)) (wK BK293) hg (Kd.R_ne HO275.out BK293.out (by decide)))
                          have n3_ := Aside0.mk (hb)
                          have n4_ := Aside0.mk (ho)
                          clear HO_7 BK269 BK293 HB HO275; have HO_7 := n0_; have BK269 := n1_; have BK293 := n2_; have HB := n3_; have HO278 := n4_; clear n0_ n1_ n2_ n3_ n4_ ho hb hg hat
                          refine hK.out _ _ ⟨HS0_, HS1_, HS2_⟩ (fun hHeld => ?_)
                          clear hK K
                          refine norm_ (a' := ?_) ?_ ?_
                          rotate_left
                          ·show Act.put _ (some 52) _ = _
                           simp only [Act.put, List.setIfInBounds_toArray, List.set_cons_zero, List.set_cons_succ, i64_w, i32_w]
                           rfl
                          exact norm_ (by first | (simp only [putAll, Act.put, List.setIfInBounds_toArray, List.set_cons_zero, List.set_cons_succ]; done) | (simp only [putAll, Act.put, List.setIfInBounds_toArray, List.set_cons_zero, List.set_cons_succ]; rfl)) (hJ0_2_13 (v274, v277, gb293) _ ⟨hHeld, (wR HO278), (by (with_reducible repeat (first | apply Kd.R_alloc | apply Kd.R_drewN | apply Kd.R_drew)); exact Kd.R_mono HO_7.out (fun _ hk => hk.2)), (wK BK269), (wK BK293), GW293.out, GE293.out, NB269_293.out, NB293_269.out, (wB HB)⟩)
                         ·skip
                          refine Kd.R_lit_step k32 _ 32 ?hg (N := 57) ?hd (xs := ([(⟨(rd_T32 y270 x8_2).f0, (rd_T32 y270 x8_2).f1, (rd_T32 y270 x8_2).f2⟩ : S32)] : List (S32))) (inner := [.string ((rd_T32 y270 x8_2).f0), .string ((rd_T32 y270 x8_2).f1), .bool ((rd_T32 y270 x8_2).f2)]) (ok := fun _ => True) (okp := fun _ => True) ?hr ?hp (fun _ hk => hk) trivial (Below.refl _ _) (Nat.le_refl _) (by simp) ?_; (case hd => rfl); (case hg => rfl); (case hr => first | (go_simp; done) | (go_simp; rfl)); (case hp => exact (Reps.c3 (show Kd.M k32 _ _ _ (⟨(rd_T32 y270 x8_2).f0, (rd_T32 y270 x8_2).f1, (rd_T32 y270 x8_2).f2⟩ : S32) [.string ((rd_T32 y270 x8_2).f0), .string ((rd_T32 y270 x8_2).f1), .bool ((rd_T32 y270 x8_2).f2)] from (k32_mkM _ _ _ (⟨(rd_T32 y270 x8_2).f0, (rd_T32 y270 x8_2).f1, (rd_T32 y270 x8_2).f2⟩ : S32) )) (Reps.none _ _)))
                          intro v281 w32 ho33 hb hg_ hnew_
                          have HS0_ := (hb.cell (World.block_lt_of_cell? _ _ (hHeld.1))).trans (hHeld.1)
                          have HS1_ := (hb.cell (World.block_lt_of_cell? _ _ (hHeld.2.1))).trans (hHeld.2.1)
                          have HS2_ := (hb.cell (World.block_lt_of_cell? _ _ (hHeld.2.2))).trans (hHeld.2.2)
                          clear hg_ hnew_
                          (first | rw [← Ny280.out] at ho33 | (simp only [Int.reduceToNat] at ho33; rw [← Ny280.out] at ho33))
                          have n0_ := Aside0.mk (Kd.R_elder' (wR HO_7) (Kd.R_base ho33) hb)
                          have n1_ := Aside0.mk (Kd.R_elder' (wR HO275) (Kd.R_base ho33) hb)
                          have n2_ := Aside0.mk (Kd.R_lower (Kd.R_new' (Kd.R_new' ho33 (Kd.R_lt (wR HO_7))) (Kd.R_lt (wR HO275))) (below_size (wB HB)))
                          have n3_ := Aside0.mk (blk_below (g := gb269) (o := .cells #[.string t262, .string t263, .string t264, .string t265, .bool t266, .int .i64 t267] 26 (0, 0)) (wK BK269) hb)
                          have n4_ := Aside0.mk (blk_below (g := gb293) (o := .cells #[.string (⟨#[]⟩ : ByteArray), .string (⟨#[]⟩ : ByteArray), .string (⟨#[]⟩ : ByteArray), .string (⟨#[]⟩ : ByteArray), .bool false, .int .i64 0] 26 (0, 0)) (wK BK293) hb)
                          have n5_ := Aside0.mk (below_step (wB HB) hb)
                          clear HO_7 HO275 BK269 BK293 HB; have HO_7 := n0_; have HO275 := n1_; have HO282 := n2_; have BK269 := n3_; have BK293 := n4_; have HB := n5_; clear n0_ n1_ n2_ n3_ n4_ n5_ hb ho33
                          refine hK.out _ _ ⟨HS0_, HS1_, HS2_⟩ (fun hHeld => ?_)
                          clear hK K
                          refine norm_ (a' := ?_) ?_ ?_
                          rotate_left
                          ·show Act.put _ (some 57) _ = _
                           simp only [Act.put, List.setIfInBounds_toArray, List.set_cons_zero, List.set_cons_succ, i64_w, i32_w]
                           rfl
                          exact norm_ (by first | (simp only [putAll, Act.put, List.setIfInBounds_toArray, List.set_cons_zero, List.set_cons_succ]; done) | (simp only [putAll, Act.put, List.setIfInBounds_toArray, List.set_cons_zero, List.set_cons_succ]; rfl)) (hJ0_7_13 (v274, v281, gb293) _ ⟨hHeld, (by (with_reducible repeat (first | apply Kd.R_alloc | apply Kd.R_drewN | apply Kd.R_drew)); exact Kd.R_mono HO275.out (fun _ hk => ⟨hk.2, hk.1⟩)), (by (with_reducible repeat (first | apply Kd.R_alloc | apply Kd.R_drewN | apply Kd.R_drew)); exact Kd.R_mono HO282.out (fun _ hk => ⟨hk.2, hk.1.2⟩)), (wR HO_7), (wK BK269), (wK BK293), GW293.out, GE293.out, NB269_293.out, NB293_269.out, (wB HB)⟩)
                       ·skip
                        rintro ⟨v274, v281⟩ w32 ⟨hS_, h0_, h1_, h2_, h3_, h4_⟩
                        have n0_ : Aside0 (Kd.R k32 32 w32 w.heap.size (fun k_ => some k_ ≠ (v281 : Value).ownBlock ∧ some k_ ≠ (.slice (some ad279) y270.length co26 : Value).ownBlock) v274 y273) := ⟨h0_⟩
                        have n1_ : Aside0 (Kd.R k32 32 w32 w.heap.size (fun k_ => some k_ ≠ (v274 : Value).ownBlock ∧ some k_ ≠ (.slice (some ad279) y270.length co26 : Value).ownBlock) v281 y280) := ⟨h1_⟩
                        have n2_ : Aside0 (Kd.R k32 32 w32 w.heap.size (fun k_ => some k_ ≠ (v274 : Value).ownBlock ∧ some k_ ≠ (v281 : Value).ownBlock) (.slice (some ad279) y270.length co26) y270) := ⟨h2_⟩
                        have n3_ : Aside0 (w32.heap[gb269]? = some (.cells #[.string t262, .string t263, .string t264, .string t265, .bool t266, .int .i64 t267] 26 (0, 0))) := ⟨h3_⟩
                        have n4_ : Aside0 (Below w.heap.size w w32) := ⟨h4_⟩
                        clear HO_7 BK269 HB h0_ h1_ h2_ h3_ h4_; have HO275 := n0_; have HO282 := n1_; have HO_7 := n2_; have BK269 := n3_; have HB := n4_; clear n0_ n1_ n2_ n3_ n4_
                        have hHeld : w32.cell? (ad279.add ((x8_2).toNat * 3)) = some (.string ((rd_T32 y270 x8_2).f0)) ∧ w32.cell? ⟨(ad279.add ((x8_2).toNat * 3)).block, (ad279.add ((x8_2).toNat * 3)).off + 1, none⟩ = some (.string ((rd_T32 y270 x8_2).f1)) ∧ w32.cell? ⟨(ad279.add ((x8_2).toNat * 3)).block, (ad279.add ((x8_2).toNat * 3)).off + 2, none⟩ = some (.bool ((rd_T32 y270 x8_2).f2)) := hS_
                        refine norm_ (a' := ?_) ?_ ?_
                        rotate_left
                        ·simp only [putAll, Act.put, List.setIfInBounds_toArray, List.set_cons_zero, List.set_cons_succ]
                         rfl
                        refine two_ (i := 2) (j := 13) (Ni := some 52) (Nj := some 9) #[true, true, true, true, true, true, true, true, false, false, false, false, false, false, false, false] #[true, true, false, true, true, true, true, true, false, false, false, false, false, true, false, false] rfl rfl rfl rfl (two_of HT_.out (by kernel_rfl)) (by decide) (by decide) (fun K hK => ?_) (fun K hK => ?_)
                        ·skip
                         refine Kd.R_append_rows_step k32 (w0 := w) w.heap.size (by rfl) (.tmp 50) (.tmp 51) 22 32 (.agg #[(.string ⟨#[]⟩), (.string ⟨#[]⟩), (.bool false)]) 40 rfl Tryd.underlying22 info32 rfl (by decide) (by omega) v274 y273 l0 _ _ _ (fun k_ => some k_ ≠ (.slice (some ad279) y270.length co26 : Value).ownBlock ∧ some k_ ≠ (v281 : Value).ownBlock) (fun _ => False) rfl rfl ?aO ?aR (fun _ _ h => h) (fun _ h => h.elim) ?aF ?aB ?aS ?aL ?_
                         (case aR => repeat (first | exact (Kd.C_below HR0.out HB.out) | (with_reducible refine Kd.C_alloc ?_ _) | (with_reducible refine Kd.C_drewN ?_ _) | (with_reducible refine Kd.C_drew ?_)))
                         (case aB => exact (wB HB))
                         (case aF => exact (fun k_ hk => ⟨Kd.fresh' (Kd.R_lt (wR HO_7)) k_ hk, Kd.fresh' (Kd.R_lt (wR HO282)) k_ hk⟩))
                         (case aO => exact (by (with_reducible repeat (first | apply Kd.R_alloc | apply Kd.R_drewN | apply Kd.R_drew)); exact Kd.R_mono HO275.out (fun _ hk => ⟨hk.2, hk.1⟩)))
                         (case aS => exact (below_size (wB HB)))
                         (case aL => have := LMc20.out; omega)
                         intro v277 w33 ho hb hg hat
                         have HS0_ := cell_grown hg (hHeld.1) (by (first | rw [add_block] | skip); intro e_; have h_ := HO275.out.1 _ e_.symm; first | exact h_ rfl | exact h_.1 rfl | exact h_.2 rfl | exact h_.1.1 rfl | exact h_.1.2 rfl | exact h_.2.1 rfl | exact h_.2.2 rfl | exact h_.2.2.1 rfl | exact h_.2.2.2 rfl)
                         have HS1_ := cell_grown hg (hHeld.2.1) (by (first | rw [add_block] | skip); intro e_; have h_ := HO275.out.1 _ e_.symm; first | exact h_ rfl | exact h_.1 rfl | exact h_.2 rfl | exact h_.1.1 rfl | exact h_.1.2 rfl | exact h_.2.1 rfl | exact h_.2.2 rfl | exact h_.2.2.1 rfl | exact h_.2.2.2 rfl)
                         have HS2_ := cell_grown hg (hHeld.2.2) (by (first | rw [add_block] | skip); intro e_; have h_ := HO275.out.1 _ e_.symm; first | exact h_ rfl | exact h_.1 rfl | exact h_.2 rfl | exact h_.1.1 rfl | exact h_.1.2 rfl | exact h_.2.1 rfl | exact h_.2.2 rfl | exact h_.2.2.1 rfl | exact h_.2.2.2 rfl)
                         rw [← Ny276.out] at ho
                         have n0_ := Aside0.mk (Kd.R_after (ok := (fun k_ => some k_ ≠ (v281 : Value).ownBlock)) (by (with_reducible repeat (first | apply Kd.R_alloc | apply Kd.R_drewN | apply Kd.R_drew)); exact Kd.R_mono HO_7.out (fun _ hk => ⟨hk.2, hk.1⟩)) hg hat)
                         have n1_ := Aside0.mk (blk_grown (g := gb269) (o := .cells #[.string t262, .string t263, .string t264, .string t265, .bool t266, .int .i64 t267] 26 (0, 0)) (wK BK269) hg (Kd.R_ne HO275.out BK269.out (by decide)))
                         have n2_ := Aside0.mk (Kd.R_after (ok := (fun k_ => some k_ ≠ (.slice (some ad279) y270.length co26 : Value).ownBlock)) (by (with_reducible repeat (first | apply Kd.R_alloc | apply Kd.R_drewN | apply Kd.R_drew)); exact Kd.R_mono HO282.out (fun _ hk => ⟨hk.2, hk.1⟩)) hg hat)
                         have n3_ := Aside0.mk (hb)
                         have n4_ := Aside0.mk (ho)
                         clear HO_7 BK269 HO282 HB HO275; have HO_7 := n0_; have BK269 := n1_; have HO282 := n2_; have HB := n3_; have HO278 := n4_; clear n0_ n1_ n2_ n3_ n4_ ho hb hg hat
                         refine hK.out _ _ ⟨HS0_, HS1_, HS2_⟩ (fun hHeld => ?_)
                         clear hK K
                         refine norm_ (a' := ?_) ?_ ?_
                         rotate_left
                         ·show Act.put _ (some 52) _ = _
                          simp only [Act.put, List.setIfInBounds_toArray, List.set_cons_zero, List.set_cons_succ, i64_w, i32_w]
                          rfl
                         exact norm_ (by first | (simp only [putAll, Act.put, List.setIfInBounds_toArray, List.set_cons_zero, List.set_cons_succ]; done) | (simp only [putAll, Act.put, List.setIfInBounds_toArray, List.set_cons_zero, List.set_cons_succ]; rfl)) (hJ0_2_7 (v274, v277, v281) _ ⟨hHeld, (by (with_reducible repeat (first | apply Kd.R_alloc | apply Kd.R_drewN | apply Kd.R_drew)); exact Kd.R_mono HO278.out (fun _ hk => ⟨hk.2, hk.1⟩)), (by (with_reducible repeat (first | apply Kd.R_alloc | apply Kd.R_drewN | apply Kd.R_drew)); exact Kd.R_mono HO282.out (fun _ hk => ⟨hk.2, hk.1⟩)), (by (with_reducible repeat (first | apply Kd.R_alloc | apply Kd.R_drewN | apply Kd.R_drew)); exact Kd.R_mono HO_7.out (fun _ hk => ⟨hk.2, hk.1⟩)), (wK BK269), (wB HB)⟩)
                        ·skip
                         refine box_step ?hg (N := 9) ?hd (cs := #[.string (⟨#[]⟩ : ByteArray), .string (⟨#[]⟩ : ByteArray), .string (⟨#[]⟩ : ByteArray), .string (⟨#[]⟩ : ByteArray), .bool false, .int .i64 0]) (t := 26) ?hr ?_; (case hd => rfl); (case hg => rfl); (case hr => first | (go_simp; done) | (go_simp; rfl))
                         intro gb293 hg w33 hbox hb
                         have HS0_ := (hb.cell (World.block_lt_of_cell? _ _ (hHeld.1))).trans (hHeld.1)
                         have HS1_ := (hb.cell (World.block_lt_of_cell? _ _ (hHeld.2.1))).trans (hHeld.2.1)
                         have HS2_ := (hb.cell (World.block_lt_of_cell? _ _ (hHeld.2.2))).trans (hHeld.2.2)
                         have n0_ := Aside0.mk (Kd.R_below (wR HO_7) hb)
                         have n1_ := Aside0.mk (Kd.R_below (wR HO275) hb)
                         have n2_ := Aside0.mk (Kd.R_below (wR HO282) hb)
                         have n3_ := Aside0.mk (blk_below (g := gb269) (o := .cells #[.string t262, .string t263, .string t264, .string t265, .bool t266, .int .i64 t267] 26 (0, 0)) (wK BK269) hb)
                         have n4_ := Aside0.mk (below_step (wB HB) hb)
                         have n5_ := Aside0.mk (hbox)
                         have n6_ := Aside0.mk ((by rw [hg]; exact (below_size (wB HB)) : w.heap.size ≤ gb293))
                         have n7_ := Aside0.mk ((by rw [hg]; exact (below_size (wB HB)) : w.heap.size ≤ gb293))
                         have n8_ := Aside0.mk ((by rw [hg]; exact Nat.ne_of_lt (blk_lt (g := gb269) (o := .cells #[.string t262, .string t263, .string t264, .string t265, .bool t266, .int .i64 t267] 26 (0, 0)) (wK BK269)) : gb269 ≠ gb293))
                         have n9_ := Aside0.mk ((by rw [hg]; exact Nat.ne_of_gt (blk_lt (g := gb269) (o := .cells #[.string t262, .string t263, .string t264, .string t265, .bool t266, .int .i64 t267] 26 (0, 0)) (wK BK269)) : gb293 ≠ gb269))
                         clear HO_7 HO275 HO282 BK269 HB; have HO_7 := n0_; have HO275 := n1_; have HO282 := n2_; have BK269 := n3_; have HB := n4_; have BK293 := n5_; have GW293 := n6_; have GE293 := n7_; have NB269_293 := n8_; have NB293_269 := n9_; clear n0_ n1_ n2_ n3_ n4_ n5_ n6_ n7_ n8_ n9_ hb hbox hg
                         refine hK.out _ _ ⟨HS0_, HS1_, HS2_⟩ (fun hHeld => ?_)
                         clear hK K
                         refine norm_ (a' := ?_) ?_ ?_
                         rotate_left
                         ·show Act.put _ (some 9) _ = _
                          simp only [Act.put, List.setIfInBounds_toArray, List.set_cons_zero, List.set_cons_succ, i64_w, i32_w]
                          rfl
                         exact norm_ (by first | (simp only [putAll, Act.put, List.setIfInBounds_toArray, List.set_cons_zero, List.set_cons_succ]; done) | (simp only [putAll, Act.put, List.setIfInBounds_toArray, List.set_cons_zero, List.set_cons_succ]; rfl)) (hJ0_7_13 (v274, v281, gb293) _ ⟨hHeld, (wR HO275), (wR HO282), (wR HO_7), (wK BK269), (wK BK293), GW293.out, GE293.out, NB269_293.out, NB293_269.out, (wB HB)⟩)
                      ·skip
                       rintro ⟨v274, v277⟩ w31 ⟨hS_, h0_, h1_, h2_, h3_⟩
                       have n0_ : Aside0 (Kd.R k32 32 w31 w.heap.size (fun k_ => some k_ ≠ (.slice (some ad279) y270.length co26 : Value).ownBlock) v277 y276) := ⟨h0_⟩
                       have n1_ : Aside0 (Kd.R k32 32 w31 w.heap.size (fun k_ => some k_ ≠ (v277 : Value).ownBlock) (.slice (some ad279) y270.length co26) y270) := ⟨h1_⟩
                       have n2_ : Aside0 (w31.heap[gb269]? = some (.cells #[.string t262, .string t263, .string t264, .string t265, .bool t266, .int .i64 t267] 26 (0, 0))) := ⟨h2_⟩
                       have n3_ : Aside0 (Below w.heap.size w w31) := ⟨h3_⟩
                       clear HO_7 BK269 HB h0_ h1_ h2_ h3_; have HO278 := n0_; have HO_7 := n1_; have BK269 := n2_; have HB := n3_; clear n0_ n1_ n2_ n3_
                       have hHeld : w31.cell? (ad279.add ((x8_2).toNat * 3)) = some (.string ((rd_T32 y270 x8_2).f0)) ∧ w31.cell? ⟨(ad279.add ((x8_2).toNat * 3)).block, (ad279.add ((x8_2).toNat * 3)).off + 1, none⟩ = some (.string ((rd_T32 y270 x8_2).f1)) ∧ w31.cell? ⟨(ad279.add ((x8_2).toNat * 3)).block, (ad279.add ((x8_2).toNat * 3)).off + 2, none⟩ = some (.bool ((rd_T32 y270 x8_2).f2)) := hS_
                       refine norm_ (a' := ?_) ?_ ?_
                       rotate_left
                       ·simp only [putAll, Act.put, List.setIfInBounds_toArray, List.set_cons_zero, List.set_cons_succ]
                        rfl
                       refine two_ (i := 7) (j := 13) (Ni := some 57) (Nj := some 9) #[true, true, true, true, true, true, true, true, false, false, false, false, false, false, false, false] #[true, true, true, true, true, true, true, false, false, false, false, false, false, true, false, false] rfl rfl rfl rfl (two_of HT_.out (by kernel_rfl)) (by decide) (by decide) (fun K hK => ?_) (fun K hK => ?_)
                       ·skip
                        refine Kd.R_lit_step k32 _ 32 ?hg (N := 57) ?hd (xs := ([(⟨(rd_T32 y270 x8_2).f0, (rd_T32 y270 x8_2).f1, (rd_T32 y270 x8_2).f2⟩ : S32)] : List (S32))) (inner := [.string ((rd_T32 y270 x8_2).f0), .string ((rd_T32 y270 x8_2).f1), .bool ((rd_T32 y270 x8_2).f2)]) (ok := fun _ => True) (okp := fun _ => True) ?hr ?hp (fun _ hk => hk) trivial (Below.refl _ _) (Nat.le_refl _) (by simp) ?_; (case hd => rfl); (case hg => rfl); (case hr => first | (go_simp; done) | (go_simp; rfl)); (case hp => exact (Reps.c3 (show Kd.M k32 _ _ _ (⟨(rd_T32 y270 x8_2).f0, (rd_T32 y270 x8_2).f1, (rd_T32 y270 x8_2).f2⟩ : S32) [.string ((rd_T32 y270 x8_2).f0), .string ((rd_T32 y270 x8_2).f1), .bool ((rd_T32 y270 x8_2).f2)] from (k32_mkM _ _ _ (⟨(rd_T32 y270 x8_2).f0, (rd_T32 y270 x8_2).f1, (rd_T32 y270 x8_2).f2⟩ : S32) )) (Reps.none _ _)))
                        intro v281 w32 ho33 hb hg_ hnew_
                        have HS0_ := (hb.cell (World.block_lt_of_cell? _ _ (hHeld.1))).trans (hHeld.1)
                        have HS1_ := (hb.cell (World.block_lt_of_cell? _ _ (hHeld.2.1))).trans (hHeld.2.1)
                        have HS2_ := (hb.cell (World.block_lt_of_cell? _ _ (hHeld.2.2))).trans (hHeld.2.2)
                        clear hg_ hnew_
                        (first | rw [← Ny280.out] at ho33 | (simp only [Int.reduceToNat] at ho33; rw [← Ny280.out] at ho33))
                        have n0_ := Aside0.mk (Kd.R_elder' (wR HO_7) (Kd.R_base ho33) hb)
                        have n1_ := Aside0.mk (Kd.R_elder' (wR HO278) (Kd.R_base ho33) hb)
                        have n2_ := Aside0.mk (Kd.R_lower (Kd.R_new' (Kd.R_new' ho33 (Kd.R_lt (wR HO_7))) (Kd.R_lt (wR HO278))) (below_size (wB HB)))
                        have n3_ := Aside0.mk (blk_below (g := gb269) (o := .cells #[.string t262, .string t263, .string t264, .string t265, .bool t266, .int .i64 t267] 26 (0, 0)) (wK BK269) hb)
                        have n4_ := Aside0.mk (below_step (wB HB) hb)
                        clear HO_7 HO278 BK269 HB; have HO_7 := n0_; have HO278 := n1_; have HO282 := n2_; have BK269 := n3_; have HB := n4_; clear n0_ n1_ n2_ n3_ n4_ hb ho33
                        refine hK.out _ _ ⟨HS0_, HS1_, HS2_⟩ (fun hHeld => ?_)
                        clear hK K
                        refine norm_ (a' := ?_) ?_ ?_
                        rotate_left
                        ·show Act.put _ (some 57) _ = _
                         simp only [Act.put, List.setIfInBounds_toArray, List.set_cons_zero, List.set_cons_succ, i64_w, i32_w]
                         rfl
                        exact norm_ (by first | (simp only [putAll, Act.put, List.setIfInBounds_toArray, List.set_cons_zero, List.set_cons_succ]; done) | (simp only [putAll, Act.put, List.setIfInBounds_toArray, List.set_cons_zero, List.set_cons_succ]; rfl)) (hJ0_2_7 (v274, v277, v281) _ ⟨hHeld, (by (with_reducible repeat (first | apply Kd.R_alloc | apply Kd.R_drewN | apply Kd.R_drew)); exact Kd.R_mono HO278.out (fun _ hk => ⟨hk.2, hk.1⟩)), (by (with_reducible repeat (first | apply Kd.R_alloc | apply Kd.R_drewN | apply Kd.R_drew)); exact Kd.R_mono HO282.out (fun _ hk => ⟨hk.2, hk.1.2⟩)), (wR HO_7), (wK BK269), (wB HB)⟩)
                       ·skip
                        refine box_step ?hg (N := 9) ?hd (cs := #[.string (⟨#[]⟩ : ByteArray), .string (⟨#[]⟩ : ByteArray), .string (⟨#[]⟩ : ByteArray), .string (⟨#[]⟩ : ByteArray), .bool false, .int .i64 0]) (t := 26) ?hr ?_; (case hd => rfl); (case hg => rfl); (case hr => first | (go_simp; done) | (go_simp; rfl))
                        intro gb293 hg w32 hbox hb
                        have HS0_ := (hb.cell (World.block_lt_of_cell? _ _ (hHeld.1))).trans (hHeld.1)
                        have HS1_ := (hb.cell (World.block_lt_of_cell? _ _ (hHeld.2.1))).trans (hHeld.2.1)
                        have HS2_ := (hb.cell (World.block_lt_of_cell? _ _ (hHeld.2.2))).trans (hHeld.2.2)
                        have n0_ := Aside0.mk (Kd.R_below (wR HO_7) hb)
                        have n1_ := Aside0.mk (Kd.R_below (wR HO278) hb)
                        have n2_ := Aside0.mk (blk_below (g := gb269) (o := .cells #[.string t262, .string t263, .string t264, .string t265, .bool t266, .int .i64 t267] 26 (0, 0)) (wK BK269) hb)
                        have n3_ := Aside0.mk (below_step (wB HB) hb)
                        have n4_ := Aside0.mk (hbox)
                        have n5_ := Aside0.mk ((by rw [hg]; exact (below_size (wB HB)) : w.heap.size ≤ gb293))
                        have n6_ := Aside0.mk ((by rw [hg]; exact (below_size (wB HB)) : w.heap.size ≤ gb293))
                        have n7_ := Aside0.mk ((by rw [hg]; exact Nat.ne_of_lt (blk_lt (g := gb269) (o := .cells #[.string t262, .string t263, .string t264, .string t265, .bool t266, .int .i64 t267] 26 (0, 0)) (wK BK269)) : gb269 ≠ gb293))
                        have n8_ := Aside0.mk ((by rw [hg]; exact Nat.ne_of_gt (blk_lt (g := gb269) (o := .cells #[.string t262, .string t263, .string t264, .string t265, .bool t266, .int .i64 t267] 26 (0, 0)) (wK BK269)) : gb293 ≠ gb269))
                        clear HO_7 HO278 BK269 HB; have HO_7 := n0_; have HO278 := n1_; have BK269 := n2_; have HB := n3_; have BK293 := n4_; have GW293 := n5_; have GE293 := n6_; have NB269_293 := n7_; have NB293_269 := n8_; clear n0_ n1_ n2_ n3_ n4_ n5_ n6_ n7_ n8_ hb hbox hg
                        refine hK.out _ _ ⟨HS0_, HS1_, HS2_⟩ (fun hHeld => ?_)
                        clear hK K
                        refine norm_ (a' := ?_) ?_ ?_
                        rotate_left
                        ·show Act.put _ (some 9) _ = _
                         simp only [Act.put, List.setIfInBounds_toArray, List.set_cons_zero, List.set_cons_succ, i64_w, i32_w]
                         rfl
                        exact norm_ (by first | (simp only [putAll, Act.put, List.setIfInBounds_toArray, List.set_cons_zero, List.set_cons_succ]; done) | (simp only [putAll, Act.put, List.setIfInBounds_toArray, List.set_cons_zero, List.set_cons_succ]; rfl)) (hJ0_2_13 (v274, v277, gb293) _ ⟨hHeld, (wR HO278), (wR HO_7), (wK BK269), (wK BK293), GW293.out, GE293.out, NB269_293.out, NB293_269.out, (wB HB)⟩)
                     ·skip
                      rintro ⟨v274, v281, gb293⟩ w33 ⟨hS_, h0_, h1_, h2_, h3_, h4_, h5_, h6_, h7_, h8_, h9_⟩
                      have n0_ : Aside0 (Kd.R k32 32 w33 w.heap.size (fun k_ => some k_ ≠ (v281 : Value).ownBlock ∧ some k_ ≠ (.slice (some ad279) y270.length co26 : Value).ownBlock) v274 y273) := ⟨h0_⟩
                      have n1_ : Aside0 (Kd.R k32 32 w33 w.heap.size (fun k_ => some k_ ≠ (v274 : Value).ownBlock ∧ some k_ ≠ (.slice (some ad279) y270.length co26 : Value).ownBlock) v281 y280) := ⟨h1_⟩
                      have n2_ : Aside0 (Kd.R k32 32 w33 w.heap.size (fun k_ => some k_ ≠ (v274 : Value).ownBlock ∧ some k_ ≠ (v281 : Value).ownBlock) (.slice (some ad279) y270.length co26) y270) := ⟨h2_⟩
                      have n3_ : Aside0 (w33.heap[gb269]? = some (.cells #[.string t262, .string t263, .string t264, .string t265, .bool t266, .int .i64 t267] 26 (0, 0))) := ⟨h3_⟩
                      have n4_ : Aside0 (w33.heap[gb293]? = some (.cells #[.string (⟨#[]⟩ : ByteArray), .string (⟨#[]⟩ : ByteArray), .string (⟨#[]⟩ : ByteArray), .string (⟨#[]⟩ : ByteArray), .bool false, .int .i64 0] 26 (0, 0))) := ⟨h4_⟩
                      have n5_ : Aside0 (w.heap.size ≤ gb293) := ⟨h5_⟩
                      have n6_ : Aside0 (w.heap.size ≤ gb293) := ⟨h6_⟩
                      have n7_ : Aside0 (gb269 ≠ gb293) := ⟨h7_⟩
                      have n8_ : Aside0 (gb293 ≠ gb269) := ⟨h8_⟩
                      have n9_ : Aside0 (Below w.heap.size w w33) := ⟨h9_⟩
                      clear HO_7 BK269 HB h0_ h1_ h2_ h3_ h4_ h5_ h6_ h7_ h8_ h9_; have HO275 := n0_; have HO282 := n1_; have HO_7 := n2_; have BK269 := n3_; have BK293 := n4_; have GW293 := n5_; have GE293 := n6_; have NB269_293 := n7_; have NB293_269 := n8_; have HB := n9_; clear n0_ n1_ n2_ n3_ n4_ n5_ n6_ n7_ n8_ n9_
                      have hHeld : w33.cell? (ad279.add ((x8_2).toNat * 3)) = some (.string ((rd_T32 y270 x8_2).f0)) ∧ w33.cell? ⟨(ad279.add ((x8_2).toNat * 3)).block, (ad279.add ((x8_2).toNat * 3)).off + 1, none⟩ = some (.string ((rd_T32 y270 x8_2).f1)) ∧ w33.cell? ⟨(ad279.add ((x8_2).toNat * 3)).block, (ad279.add ((x8_2).toNat * 3)).off + 2, none⟩ = some (.bool ((rd_T32 y270 x8_2).f2)) := hS_
                      refine norm_ (a' := ?_) ?_ ?_
                      rotate_left
                      ·simp only [putAll, Act.put, List.setIfInBounds_toArray, List.set_cons_zero, List.set_cons_succ]
                       rfl
                      refine one_ (i := 2) (N := some 52) #[true, true, true, true, true, true, true, true, false, false, false, false, false, true, false, false] rfl rfl (one_of HT_.out (by kernel_rfl)) (by decide) (fun K hK => ?_)
                      refine Kd.R_append_rows_step k32 (w0 := w) w.heap.size (by rfl) (.tmp 50) (.tmp 51) 22 32 (.agg #[(.string ⟨#[]⟩), (.string ⟨#[]⟩), (.bool false)]) 40 rfl Tryd.underlying22 info32 rfl (by decide) (by omega) v274 y273 l0 _ _ _ (fun k_ => some k_ ≠ (.slice (some ad279) y270.length co26 : Value).ownBlock ∧ some k_ ≠ (v281 : Value).ownBlock) (fun _ => False) rfl rfl ?aO ?aR (fun _ _ h => h) (fun _ h => h.elim) ?aF ?aB ?aS ?aL ?_
                      (case aR => repeat (first | exact (Kd.C_below HR0.out HB.out) | (with_reducible refine Kd.C_alloc ?_ _) | (with_reducible refine Kd.C_drewN ?_ _) | (with_reducible refine Kd.C_drew ?_)))
                      (case aB => exact (wB HB))
                      (case aF => exact (fun k_ hk => ⟨Kd.fresh' (Kd.R_lt (wR HO_7)) k_ hk, Kd.fresh' (Kd.R_lt (wR HO282)) k_ hk⟩))
                      (case aO => exact (by (with_reducible repeat (first | apply Kd.R_alloc | apply Kd.R_drewN | apply Kd.R_drew)); exact Kd.R_mono HO275.out (fun _ hk => ⟨hk.2, hk.1⟩)))
                      (case aS => exact (below_size (wB HB)))
                      (case aL => have := LMc20.out; omega)
                      intro v277 w34 ho hb hg hat
                      have HS0_ := cell_grown hg (hHeld.1) (by (first | rw [add_block] | skip); intro e_; have h_ := HO275.out.1 _ e_.symm; first | exact h_ rfl | exact h_.1 rfl | exact h_.2 rfl | exact h_.1.1 rfl | exact h_.1.2 rfl | exact h_.2.1 rfl | exact h_.2.2 rfl | exact h_.2.2.1 rfl | exact h_.2.2.2 rfl)
                      have HS1_ := cell_grown hg (hHeld.2.1) (by (first | rw [add_block] | skip); intro e_; have h_ := HO275.out.1 _ e_.symm; first | exact h_ rfl | exact h_.1 rfl | exact h_.2 rfl | exact h_.1.1 rfl | exact h_.1.2 rfl | exact h_.2.1 rfl | exact h_.2.2 rfl | exact h_.2.2.1 rfl | exact h_.2.2.2 rfl)
                      have HS2_ := cell_grown hg (hHeld.2.2) (by (first | rw [add_block] | skip); intro e_; have h_ := HO275.out.1 _ e_.symm; first | exact h_ rfl | exact h_.1 rfl | exact h_.2 rfl | exact h_.1.1 rfl | exact h_.1.2 rfl | exact h_.2.1 rfl | exact h_.2.2 rfl | exact h_.2.2.1 rfl | exact h_.2.2.2 rfl)
                      rw [← Ny276.out] at ho
                      have n0_ := Aside0.mk (Kd.R_after (ok := (fun k_ => some k_ ≠ (v281 : Value).ownBlock)) (by (with_reducible repeat (first | apply Kd.R_alloc | apply Kd.R_drewN | apply Kd.R_drew)); exact Kd.R_mono HO_7.out (fun _ hk => ⟨hk.2, hk.1⟩)) hg hat)
                      have n1_ := Aside0.mk (blk_grown (g := gb269) (o := .cells #[.string t262, .string t263, .string t264, .string t265, .bool t266, .int .i64 t267] 26 (0, 0)) (wK BK269) hg (Kd.R_ne HO275.out BK269.out (by decide)))
                      have n2_ := Aside0.mk (Kd.R_after (ok := (fun k_ => some k_ ≠ (.slice (some ad279) y270.length co26 : Value).ownBlock)) (by (with_reducible repeat (first | apply Kd.R_alloc | apply Kd.R_drewN | apply Kd.R_drew)); exact Kd.R_mono HO282.out (fun _ hk => ⟨hk.2, hk.1⟩)) hg hat)
                      have n3_ := Aside0.mk (blk_grown (g := gb293) (o := .cells #[.string (⟨#[]⟩ : ByteArray), .string (⟨#[]⟩ : ByteArray), .string (⟨#[]⟩ : ByteArray), .string (⟨#[]⟩ : ByteArray), .bool false, .int .i64 0] 26 (0, 0)) (wK BK293) hg (Kd.R_ne HO275.out BK293.out (by decide)))
                      have n4_ := Aside0.mk (hb)
                      have n5_ := Aside0.mk (ho)
                      clear HO_7 BK269 HO282 BK293 HB HO275; have HO_7 := n0_; have BK269 := n1_; have HO282 := n2_; have BK293 := n3_; have HB := n4_; have HO278 := n5_; clear n0_ n1_ n2_ n3_ n4_ n5_ ho hb hg hat
                      refine hK.out _ _ ⟨HS0_, HS1_, HS2_⟩ (fun hHeld => ?_)
                      clear hK K
                      refine norm_ (a' := ?_) ?_ ?_
                      rotate_left
                      ·show Act.put _ (some 52) _ = _
                       simp only [Act.put, List.setIfInBounds_toArray, List.set_cons_zero, List.set_cons_succ, i64_w, i32_w]
                       rfl
                      exact norm_ (by first | (simp only [putAll, Act.put, List.setIfInBounds_toArray, List.set_cons_zero, List.set_cons_succ]; done) | (simp only [putAll, Act.put, List.setIfInBounds_toArray, List.set_cons_zero, List.set_cons_succ]; rfl)) (hJ0_2_7_13 (v274, v277, v281, gb293) _ ⟨hHeld, (by (with_reducible repeat (first | apply Kd.R_alloc | apply Kd.R_drewN | apply Kd.R_drew)); exact Kd.R_mono HO278.out (fun _ hk => ⟨hk.2, hk.1⟩)), (by (with_reducible repeat (first | apply Kd.R_alloc | apply Kd.R_drewN | apply Kd.R_drew)); exact Kd.R_mono HO282.out (fun _ hk => ⟨hk.2, hk.1⟩)), (by (with_reducible repeat (first | apply Kd.R_alloc | apply Kd.R_drewN | apply Kd.R_drew)); exact Kd.R_mono HO_7.out (fun _ hk => ⟨hk.2, hk.1⟩)), (wK BK269), (wK BK293), GW293.out, GE293.out, NB269_293.out, NB293_269.out, (wB HB)⟩)
                    ·skip
                     rintro ⟨v274, v277, gb293⟩ w32 ⟨hS_, h0_, h1_, h2_, h3_, h4_, h5_, h6_, h7_, h8_⟩
                     have n0_ : Aside0 (Kd.R k32 32 w32 w.heap.size (fun k_ => some k_ ≠ (.slice (some ad279) y270.length co26 : Value).ownBlock) v277 y276) := ⟨h0_⟩
                     have n1_ : Aside0 (Kd.R k32 32 w32 w.heap.size (fun k_ => some k_ ≠ (v277 : Value).ownBlock) (.slice (some ad279) y270.length co26) y270) := ⟨h1_⟩
                     have n2_ : Aside0 (w32.heap[gb269]? = some (.cells #[.string t262, .string t263, .string t264, .string t265, .bool t266, .int .i64 t267] 26 (0, 0))) := ⟨h2_⟩
                     have n3_ : Aside0 (w32.heap[gb293]? = some (.cells #[.string (⟨#[]⟩ : ByteArray), .string (⟨#[]⟩ : ByteArray), .string (⟨#[]⟩ : ByteArray), .string (⟨#[]⟩ : ByteArray), .bool false, .int .i64 0] 26 (0, 0))) := ⟨h3_⟩
                     have n4_ : Aside0 (w.heap.size ≤ gb293) := ⟨h4_⟩
                     have n5_ : Aside0 (w.heap.size ≤ gb293) := ⟨h5_⟩
                     have n6_ : Aside0 (gb269 ≠ gb293) := ⟨h6_⟩
                     have n7_ : Aside0 (gb293 ≠ gb269) := ⟨h7_⟩
                     have n8_ : Aside0 (Below w.heap.size w w32) := ⟨h8_⟩
                     clear HO_7 BK269 HB h0_ h1_ h2_ h3_ h4_ h5_ h6_ h7_ h8_; have HO278 := n0_; have HO_7 := n1_; have BK269 := n2_; have BK293 := n3_; have GW293 := n4_; have GE293 := n5_; have NB269_293 := n6_; have NB293_269 := n7_; have HB := n8_; clear n0_ n1_ n2_ n3_ n4_ n5_ n6_ n7_ n8_
                     have hHeld : w32.cell? (ad279.add ((x8_2).toNat * 3)) = some (.string ((rd_T32 y270 x8_2).f0)) ∧ w32.cell? ⟨(ad279.add ((x8_2).toNat * 3)).block, (ad279.add ((x8_2).toNat * 3)).off + 1, none⟩ = some (.string ((rd_T32 y270 x8_2).f1)) ∧ w32.cell? ⟨(ad279.add ((x8_2).toNat * 3)).block, (ad279.add ((x8_2).toNat * 3)).off + 2, none⟩ = some (.bool ((rd_T32 y270 x8_2).f2)) := hS_
                     refine norm_ (a' := ?_) ?_ ?_
                     rotate_left
                     ·simp only [putAll, Act.put, List.setIfInBounds_toArray, List.set_cons_zero, List.set_cons_succ]
                      rfl
                     refine one_ (i := 7) (N := some 57) #[true, true, true, true, true, true, true, true, false, false, false, false, false, true, false, false] rfl rfl (one_of HT_.out (by kernel_rfl)) (by decide) (fun K hK => ?_)
                     refine Kd.R_lit_step k32 _ 32 ?hg (N := 57) ?hd (xs := ([(⟨(rd_T32 y270 x8_2).f0, (rd_T32 y270 x8_2).f1, (rd_T32 y270 x8_2).f2⟩ : S32)] : List (S32))) (inner := [.string ((rd_T32 y270 x8_2).f0), .string ((rd_T32 y270 x8_2).f1), .bool ((rd_T32 y270 x8_2).f2)]) (ok := fun _ => True) (okp := fun _ => True) ?hr ?hp (fun _ hk => hk) trivial (Below.refl _ _) (Nat.le_refl _) (by simp) ?_; (case hd => rfl); (case hg => rfl); (case hr => first | (go_simp; done) | (go_simp; rfl)); (case hp => exact (Reps.c3 (show Kd.M k32 _ _ _ (⟨(rd_T32 y270 x8_2).f0, (rd_T32 y270 x8_2).f1, (rd_T32 y270 x8_2).f2⟩ : S32) [.string ((rd_T32 y270 x8_2).f0), .string ((rd_T32 y270 x8_2).f1), .bool ((rd_T32 y270 x8_2).f2)] from (k32_mkM _ _ _ (⟨(rd_T32 y270 x8_2).f0, (rd_T32 y270 x8_2).f1, (rd_T32 y270 x8_2).f2⟩ : S32) )) (Reps.none _ _)))
                     intro v281 w33 ho34 hb hg_ hnew_
                     have HS0_ := (hb.cell (World.block_lt_of_cell? _ _ (hHeld.1))).trans (hHeld.1)
                     have HS1_ := (hb.cell (World.block_lt_of_cell? _ _ (hHeld.2.1))).trans (hHeld.2.1)
                     have HS2_ := (hb.cell (World.block_lt_of_cell? _ _ (hHeld.2.2))).trans (hHeld.2.2)
                     clear hg_ hnew_
                     (first | rw [← Ny280.out] at ho34 | (simp only [Int.reduceToNat] at ho34; rw [← Ny280.out] at ho34))
                     have n0_ := Aside0.mk (Kd.R_elder' (wR HO_7) (Kd.R_base ho34) hb)
                     have n1_ := Aside0.mk (Kd.R_elder' (wR HO278) (Kd.R_base ho34) hb)
                     have n2_ := Aside0.mk (Kd.R_lower (Kd.R_new' (Kd.R_new' ho34 (Kd.R_lt (wR HO_7))) (Kd.R_lt (wR HO278))) (below_size (wB HB)))
                     have n3_ := Aside0.mk (blk_below (g := gb269) (o := .cells #[.string t262, .string t263, .string t264, .string t265, .bool t266, .int .i64 t267] 26 (0, 0)) (wK BK269) hb)
                     have n4_ := Aside0.mk (blk_below (g := gb293) (o := .cells #[.string (⟨#[]⟩ : ByteArray), .string (⟨#[]⟩ : ByteArray), .string (⟨#[]⟩ : ByteArray), .string (⟨#[]⟩ : ByteArray), .bool false, .int .i64 0] 26 (0, 0)) (wK BK293) hb)
                     have n5_ := Aside0.mk (below_step (wB HB) hb)
                     clear HO_7 HO278 BK269 BK293 HB; have HO_7 := n0_; have HO278 := n1_; have HO282 := n2_; have BK269 := n3_; have BK293 := n4_; have HB := n5_; clear n0_ n1_ n2_ n3_ n4_ n5_ hb ho34
                     refine hK.out _ _ ⟨HS0_, HS1_, HS2_⟩ (fun hHeld => ?_)
                     clear hK K
                     refine norm_ (a' := ?_) ?_ ?_
                     rotate_left
                     ·show Act.put _ (some 57) _ = _
                      simp only [Act.put, List.setIfInBounds_toArray, List.set_cons_zero, List.set_cons_succ, i64_w, i32_w]
                      rfl
                     exact norm_ (by first | (simp only [putAll, Act.put, List.setIfInBounds_toArray, List.set_cons_zero, List.set_cons_succ]; done) | (simp only [putAll, Act.put, List.setIfInBounds_toArray, List.set_cons_zero, List.set_cons_succ]; rfl)) (hJ0_2_7_13 (v274, v277, v281, gb293) _ ⟨hHeld, (by (with_reducible repeat (first | apply Kd.R_alloc | apply Kd.R_drewN | apply Kd.R_drew)); exact Kd.R_mono HO278.out (fun _ hk => ⟨hk.2, hk.1⟩)), (by (with_reducible repeat (first | apply Kd.R_alloc | apply Kd.R_drewN | apply Kd.R_drew)); exact Kd.R_mono HO282.out (fun _ hk => ⟨hk.2, hk.1.2⟩)), (wR HO_7), (wK BK269), (wK BK293), GW293.out, GE293.out, NB269_293.out, NB293_269.out, (wB HB)⟩)
                   ·skip
                    rintro ⟨v274, v277, v281⟩ w33 ⟨hS_, h0_, h1_, h2_, h3_, h4_⟩
                    have n0_ : Aside0 (Kd.R k32 32 w33 w.heap.size (fun k_ => some k_ ≠ (v281 : Value).ownBlock ∧ some k_ ≠ (.slice (some ad279) y270.length co26 : Value).ownBlock) v277 y276) := ⟨h0_⟩
                    have n1_ : Aside0 (Kd.R k32 32 w33 w.heap.size (fun k_ => some k_ ≠ (v277 : Value).ownBlock ∧ some k_ ≠ (.slice (some ad279) y270.length co26 : Value).ownBlock) v281 y280) := ⟨h1_⟩
                    have n2_ : Aside0 (Kd.R k32 32 w33 w.heap.size (fun k_ => some k_ ≠ (v277 : Value).ownBlock ∧ some k_ ≠ (v281 : Value).ownBlock) (.slice (some ad279) y270.length co26) y270) := ⟨h2_⟩
                    have n3_ : Aside0 (w33.heap[gb269]? = some (.cells #[.string t262, .string t263, .string t264, .string t265, .bool t266, .int .i64 t267] 26 (0, 0))) := ⟨h3_⟩
                    have n4_ : Aside0 (Below w.heap.size w w33) := ⟨h4_⟩
                    clear HO_7 BK269 HB h0_ h1_ h2_ h3_ h4_; have HO278 := n0_; have HO282 := n1_; have HO_7 := n2_; have BK269 := n3_; have HB := n4_; clear n0_ n1_ n2_ n3_ n4_
                    have hHeld : w33.cell? (ad279.add ((x8_2).toNat * 3)) = some (.string ((rd_T32 y270 x8_2).f0)) ∧ w33.cell? ⟨(ad279.add ((x8_2).toNat * 3)).block, (ad279.add ((x8_2).toNat * 3)).off + 1, none⟩ = some (.string ((rd_T32 y270 x8_2).f1)) ∧ w33.cell? ⟨(ad279.add ((x8_2).toNat * 3)).block, (ad279.add ((x8_2).toNat * 3)).off + 2, none⟩ = some (.bool ((rd_T32 y270 x8_2).f2)) := hS_
                    obtain ⟨Ao35, co35, eo35⟩ := Kd.R_slice HO282.out
                    (first | subst eo35 | (injection eo35 with f1_ f2_ f3_; have f4_ := f1_.symm; have f5_ := f3_.symm; clear f1_ f2_ f3_; subst f4_; subst f5_))
                    refine norm_ (a' := ?_) ?_ ?_
                    rotate_left
                    ·simp only [putAll, Act.put, List.setIfInBounds_toArray, List.set_cons_zero, List.set_cons_succ]
                     rfl
                    refine two_ (i := 8) (j := 13) (Ni := some 58) (Nj := some 9) #[true, true, true, true, true, true, true, true, true, false, false, false, false, false, false, false] #[true, true, true, true, true, true, true, true, false, false, false, false, false, true, false, false] rfl rfl rfl rfl (two_of HT_.out (by kernel_rfl)) (by decide) (by decide) (fun K hK => ?_) (fun K hK => ?_)
                    ·skip
                     refine Kd.R_append_rows_step k32 (w0 := w) w.heap.size (by rfl) (.tmp 52) (.tmp 57) 22 32 (.agg #[(.string ⟨#[]⟩), (.string ⟨#[]⟩), (.bool false)]) 40 rfl Tryd.underlying22 info32 rfl (by decide) (by omega) v277 y276 y280 _ _ _ (fun k_ => some k_ ≠ (.slice (some ad279) y270.length co26 : Value).ownBlock ∧ some k_ ≠ (.slice Ao35 y280.length co35 : Value).ownBlock) (fun _ => False) rfl rfl ?aO ?aR (fun _ _ h => h) (fun _ h => h.elim) ?aF ?aB ?aS ?aL ?_
                     (case aR => repeat (first | exact (Kd.R_reads' HO282.out).2.2 | (with_reducible refine Kd.C_alloc ?_ _) | (with_reducible refine Kd.C_drewN ?_ _) | (with_reducible refine Kd.C_drew ?_)))
                     (case aB => exact (wB HB))
                     (case aF => exact (fun k_ hk => ⟨Kd.fresh' (Kd.R_lt (wR HO_7)) k_ hk, Kd.fresh' (Kd.R_lt (wR HO282)) k_ hk⟩))
                     (case aO => exact (by (with_reducible repeat (first | apply Kd.R_alloc | apply Kd.R_drewN | apply Kd.R_drew)); exact Kd.R_mono HO278.out (fun _ hk => ⟨hk.2, hk.1⟩)))
                     (case aS => exact (below_size (wB HB)))
                     (case aL => have := LMc22.out; omega)
                     intro v284 w34 ho hb hg hat
                     have HS0_ := cell_grown hg (hHeld.1) (by (first | rw [add_block] | skip); intro e_; have h_ := HO278.out.1 _ e_.symm; first | exact h_ rfl | exact h_.1 rfl | exact h_.2 rfl | exact h_.1.1 rfl | exact h_.1.2 rfl | exact h_.2.1 rfl | exact h_.2.2 rfl | exact h_.2.2.1 rfl | exact h_.2.2.2 rfl)
                     have HS1_ := cell_grown hg (hHeld.2.1) (by (first | rw [add_block] | skip); intro e_; have h_ := HO278.out.1 _ e_.symm; first | exact h_ rfl | exact h_.1 rfl | exact h_.2 rfl | exact h_.1.1 rfl | exact h_.1.2 rfl | exact h_.2.1 rfl | exact h_.2.2 rfl | exact h_.2.2.1 rfl | exact h_.2.2.2 rfl)
                     have HS2_ := cell_grown hg (hHeld.2.2) (by (first | rw [add_block] | skip); intro e_; have h_ := HO278.out.1 _ e_.symm; first | exact h_ rfl | exact h_.1 rfl | exact h_.2 rfl | exact h_.1.1 rfl | exact h_.1.2 rfl | exact h_.2.1 rfl | exact h_.2.2 rfl | exact h_.2.2.1 rfl | exact h_.2.2.2 rfl)
                     rw [← Ny283.out] at ho
                     have n0_ := Aside0.mk (Kd.R_after (ok := (fun k_ => some k_ ≠ (.slice Ao35 y280.length co35 : Value).ownBlock)) (by (with_reducible repeat (first | apply Kd.R_alloc | apply Kd.R_drewN | apply Kd.R_drew)); exact Kd.R_mono HO_7.out (fun _ hk => ⟨hk.2, hk.1⟩)) hg hat)
                     have n1_ := Aside0.mk (blk_grown (g := gb269) (o := .cells #[.string t262, .string t263, .string t264, .string t265, .bool t266, .int .i64 t267] 26 (0, 0)) (wK BK269) hg (Kd.R_ne HO278.out BK269.out (by decide)))
                     have n2_ := Aside0.mk (Kd.R_after (ok := (fun k_ => some k_ ≠ (.slice (some ad279) y270.length co26 : Value).ownBlock)) (by (with_reducible repeat (first | apply Kd.R_alloc | apply Kd.R_drewN | apply Kd.R_drew)); exact Kd.R_mono HO282.out (fun _ hk => ⟨hk.2, hk.1⟩)) hg hat)
                     have n3_ := Aside0.mk (hb)
                     have n4_ := Aside0.mk (ho)
                     clear HO_7 BK269 HO282 HB HO278; have HO_7 := n0_; have BK269 := n1_; have HO282 := n2_; have HB := n3_; have HO285 := n4_; clear n0_ n1_ n2_ n3_ n4_ ho hb hg hat
                     refine hK.out _ _ ⟨HS0_, HS1_, HS2_⟩ (fun hHeld => ?_)
                     clear hK K
                     refine norm_ (a' := ?_) ?_ ?_
                     rotate_left
                     ·show Act.put _ (some 58) _ = _
                      simp only [Act.put, List.setIfInBounds_toArray, List.set_cons_zero, List.set_cons_succ, i64_w, i32_w]
                      rfl
                     exact norm_ (by first | (simp only [putAll, Act.put, List.setIfInBounds_toArray, List.set_cons_zero, List.set_cons_succ]; done) | (simp only [putAll, Act.put, List.setIfInBounds_toArray, List.set_cons_zero, List.set_cons_succ]; rfl)) (hJ0_2_7_8 (v274, v277, .slice Ao35 y280.length co35, v284) _ ⟨hHeld, (by (with_reducible repeat (first | apply Kd.R_alloc | apply Kd.R_drewN | apply Kd.R_drew)); exact Kd.R_mono HO282.out (fun _ hk => ⟨hk.2, hk.1⟩)), (by (with_reducible repeat (first | apply Kd.R_alloc | apply Kd.R_drewN | apply Kd.R_drew)); exact Kd.R_mono HO285.out (fun _ hk => ⟨hk.2, hk.1⟩)), (wR HO_7), (wK BK269), (wB HB)⟩)
                    ·skip
                     refine box_step ?hg (N := 9) ?hd (cs := #[.string (⟨#[]⟩ : ByteArray), .string (⟨#[]⟩ : ByteArray), .string (⟨#[]⟩ : ByteArray), .string (⟨#[]⟩ : ByteArray), .bool false, .int .i64 0]) (t := 26) ?hr ?_; (case hd => rfl); (case hg => rfl); (case hr => first | (go_simp; done) | (go_simp; rfl))
                     intro gb293 hg w34 hbox hb
                     have HS0_ := (hb.cell (World.block_lt_of_cell? _ _ (hHeld.1))).trans (hHeld.1)
                     have HS1_ := (hb.cell (World.block_lt_of_cell? _ _ (hHeld.2.1))).trans (hHeld.2.1)
                     have HS2_ := (hb.cell (World.block_lt_of_cell? _ _ (hHeld.2.2))).trans (hHeld.2.2)
                     have n0_ := Aside0.mk (Kd.R_below (wR HO_7) hb)
                     have n1_ := Aside0.mk (Kd.R_below (wR HO278) hb)
                     have n2_ := Aside0.mk (Kd.R_below (wR HO282) hb)
                     have n3_ := Aside0.mk (blk_below (g := gb269) (o := .cells #[.string t262, .string t263, .string t264, .string t265, .bool t266, .int .i64 t267] 26 (0, 0)) (wK BK269) hb)
                     have n4_ := Aside0.mk (below_step (wB HB) hb)
                     have n5_ := Aside0.mk (hbox)
                     have n6_ := Aside0.mk ((by rw [hg]; exact (below_size (wB HB)) : w.heap.size ≤ gb293))
                     have n7_ := Aside0.mk ((by rw [hg]; exact (below_size (wB HB)) : w.heap.size ≤ gb293))
                     have n8_ := Aside0.mk ((by rw [hg]; exact Nat.ne_of_lt (blk_lt (g := gb269) (o := .cells #[.string t262, .string t263, .string t264, .string t265, .bool t266, .int .i64 t267] 26 (0, 0)) (wK BK269)) : gb269 ≠ gb293))
                     have n9_ := Aside0.mk ((by rw [hg]; exact Nat.ne_of_gt (blk_lt (g := gb269) (o := .cells #[.string t262, .string t263, .string t264, .string t265, .bool t266, .int .i64 t267] 26 (0, 0)) (wK BK269)) : gb293 ≠ gb269))
                     clear HO_7 HO278 HO282 BK269 HB; have HO_7 := n0_; have HO278 := n1_; have HO282 := n2_; have BK269 := n3_; have HB := n4_; have BK293 := n5_; have GW293 := n6_; have GE293 := n7_; have NB269_293 := n8_; have NB293_269 := n9_; clear n0_ n1_ n2_ n3_ n4_ n5_ n6_ n7_ n8_ n9_ hb hbox hg
                     refine hK.out _ _ ⟨HS0_, HS1_, HS2_⟩ (fun hHeld => ?_)
                     clear hK K
                     refine norm_ (a' := ?_) ?_ ?_
                     rotate_left
                     ·show Act.put _ (some 9) _ = _
                      simp only [Act.put, List.setIfInBounds_toArray, List.set_cons_zero, List.set_cons_succ, i64_w, i32_w]
                      rfl
                     exact norm_ (by first | (simp only [putAll, Act.put, List.setIfInBounds_toArray, List.set_cons_zero, List.set_cons_succ]; done) | (simp only [putAll, Act.put, List.setIfInBounds_toArray, List.set_cons_zero, List.set_cons_succ]; rfl)) (hJ0_2_7_13 (v274, v277, _, gb293) _ ⟨hHeld, (wR HO278), (wR HO282), (wR HO_7), (wK BK269), (wK BK293), GW293.out, GE293.out, NB269_293.out, NB293_269.out, (wB HB)⟩)
                  ·skip
                   rintro ⟨v274, v277, v281, gb293⟩ w34 ⟨hS_, h0_, h1_, h2_, h3_, h4_, h5_, h6_, h7_, h8_, h9_⟩
                   have n0_ : Aside0 (Kd.R k32 32 w34 w.heap.size (fun k_ => some k_ ≠ (v281 : Value).ownBlock ∧ some k_ ≠ (.slice (some ad279) y270.length co26 : Value).ownBlock) v277 y276) := ⟨h0_⟩
                   have n1_ : Aside0 (Kd.R k32 32 w34 w.heap.size (fun k_ => some k_ ≠ (v277 : Value).ownBlock ∧ some k_ ≠ (.slice (some ad279) y270.length co26 : Value).ownBlock) v281 y280) := ⟨h1_⟩
                   have n2_ : Aside0 (Kd.R k32 32 w34 w.heap.size (fun k_ => some k_ ≠ (v277 : Value).ownBlock ∧ some k_ ≠ (v281 : Value).ownBlock) (.slice (some ad279) y270.length co26) y270) := ⟨h2_⟩
                   have n3_ : Aside0 (w34.heap[gb269]? = some (.cells #[.string t262, .string t263, .string t264, .string t265, .bool t266, .int .i64 t267] 26 (0, 0))) := ⟨h3_⟩
                   have n4_ : Aside0 (w34.heap[gb293]? = some (.cells #[.string (⟨#[]⟩ : ByteArray), .string (⟨#[]⟩ : ByteArray), .string (⟨#[]⟩ : ByteArray), .string (⟨#[]⟩ : ByteArray), .bool false, .int .i64 0] 26 (0, 0))) := ⟨h4_⟩
                   have n5_ : Aside0 (w.heap.size ≤ gb293) := ⟨h5_⟩
                   have n6_ : Aside0 (w.heap.size ≤ gb293) := ⟨h6_⟩
                   have n7_ : Aside0 (gb269 ≠ gb293) := ⟨h7_⟩
                   have n8_ : Aside0 (gb293 ≠ gb269) := ⟨h8_⟩
                   have n9_ : Aside0 (Below w.heap.size w w34) := ⟨h9_⟩
                   clear HO_7 BK269 HB h0_ h1_ h2_ h3_ h4_ h5_ h6_ h7_ h8_ h9_; have HO278 := n0_; have HO282 := n1_; have HO_7 := n2_; have BK269 := n3_; have BK293 := n4_; have GW293 := n5_; have GE293 := n6_; have NB269_293 := n7_; have NB293_269 := n8_; have HB := n9_; clear n0_ n1_ n2_ n3_ n4_ n5_ n6_ n7_ n8_ n9_
                   have hHeld : w34.cell? (ad279.add ((x8_2).toNat * 3)) = some (.string ((rd_T32 y270 x8_2).f0)) ∧ w34.cell? ⟨(ad279.add ((x8_2).toNat * 3)).block, (ad279.add ((x8_2).toNat * 3)).off + 1, none⟩ = some (.string ((rd_T32 y270 x8_2).f1)) ∧ w34.cell? ⟨(ad279.add ((x8_2).toNat * 3)).block, (ad279.add ((x8_2).toNat * 3)).off + 2, none⟩ = some (.bool ((rd_T32 y270 x8_2).f2)) := hS_
                   obtain ⟨Ao36, co36, eo36⟩ := Kd.R_slice HO282.out
                   (first | subst eo36 | (injection eo36 with f1_ f2_ f3_; have f4_ := f1_.symm; have f5_ := f3_.symm; clear f1_ f2_ f3_; subst f4_; subst f5_))
                   refine norm_ (a' := ?_) ?_ ?_
                   rotate_left
                   ·simp only [putAll, Act.put, List.setIfInBounds_toArray, List.set_cons_zero, List.set_cons_succ]
                    rfl
                   refine one_ (i := 8) (N := some 58) #[true, true, true, true, true, true, true, true, true, false, false, false, false, true, false, false] rfl rfl (one_of HT_.out (by kernel_rfl)) (by decide) (fun K hK => ?_)
                   refine Kd.R_append_rows_step k32 (w0 := w) w.heap.size (by rfl) (.tmp 52) (.tmp 57) 22 32 (.agg #[(.string ⟨#[]⟩), (.string ⟨#[]⟩), (.bool false)]) 40 rfl Tryd.underlying22 info32 rfl (by decide) (by omega) v277 y276 y280 _ _ _ (fun k_ => some k_ ≠ (.slice (some ad279) y270.length co26 : Value).ownBlock ∧ some k_ ≠ (.slice Ao36 y280.length co36 : Value).ownBlock) (fun _ => False) rfl rfl ?aO ?aR (fun _ _ h => h) (fun _ h => h.elim) ?aF ?aB ?aS ?aL ?_
                   (case aR => repeat (first | exact (Kd.R_reads' HO282.out).2.2 | (with_reducible refine Kd.C_alloc ?_ _) | (with_reducible refine Kd.C_drewN ?_ _) | (with_reducible refine Kd.C_drew ?_)))
                   (case aB => exact (wB HB))
                   (case aF => exact (fun k_ hk => ⟨Kd.fresh' (Kd.R_lt (wR HO_7)) k_ hk, Kd.fresh' (Kd.R_lt (wR HO282)) k_ hk⟩))
                   (case aO => exact (by (with_reducible repeat (first | apply Kd.R_alloc | apply Kd.R_drewN | apply Kd.R_drew)); exact Kd.R_mono HO278.out (fun _ hk => ⟨hk.2, hk.1⟩)))
                   (case aS => exact (below_size (wB HB)))
                   (case aL => have := LMc22.out; omega)
                   intro v284 w35 ho hb hg hat
                   have HS0_ := cell_grown hg (hHeld.1) (by (first | rw [add_block] | skip); intro e_; have h_ := HO278.out.1 _ e_.symm; first | exact h_ rfl | exact h_.1 rfl | exact h_.2 rfl | exact h_.1.1 rfl | exact h_.1.2 rfl | exact h_.2.1 rfl | exact h_.2.2 rfl | exact h_.2.2.1 rfl | exact h_.2.2.2 rfl)
                   have HS1_ := cell_grown hg (hHeld.2.1) (by (first | rw [add_block] | skip); intro e_; have h_ := HO278.out.1 _ e_.symm; first | exact h_ rfl | exact h_.1 rfl | exact h_.2 rfl | exact h_.1.1 rfl | exact h_.1.2 rfl | exact h_.2.1 rfl | exact h_.2.2 rfl | exact h_.2.2.1 rfl | exact h_.2.2.2 rfl)
                   have HS2_ := cell_grown hg (hHeld.2.2) (by (first | rw [add_block] | skip); intro e_; have h_ := HO278.out.1 _ e_.symm; first | exact h_ rfl | exact h_.1 rfl | exact h_.2 rfl | exact h_.1.1 rfl | exact h_.1.2 rfl | exact h_.2.1 rfl | exact h_.2.2 rfl | exact h_.2.2.1 rfl | exact h_.2.2.2 rfl)
                   rw [← Ny283.out] at ho
                   have n0_ := Aside0.mk (Kd.R_after (ok := (fun k_ => some k_ ≠ (.slice Ao36 y280.length co36 : Value).ownBlock)) (by (with_reducible repeat (first | apply Kd.R_alloc | apply Kd.R_drewN | apply Kd.R_drew)); exact Kd.R_mono HO_7.out (fun _ hk => ⟨hk.2, hk.1⟩)) hg hat)
                   have n1_ := Aside0.mk (blk_grown (g := gb269) (o := .cells #[.string t262, .string t263, .string t264, .string t265, .bool t266, .int .i64 t267] 26 (0, 0)) (wK BK269) hg (Kd.R_ne HO278.out BK269.out (by decide)))
                   have n2_ := Aside0.mk (Kd.R_after (ok := (fun k_ => some k_ ≠ (.slice (some ad279) y270.length co26 : Value).ownBlock)) (by (with_reducible repeat (first | apply Kd.R_alloc | apply Kd.R_drewN | apply Kd.R_drew)); exact Kd.R_mono HO282.out (fun _ hk => ⟨hk.2, hk.1⟩)) hg hat)
                   have n3_ := Aside0.mk (blk_grown (g := gb293) (o := .cells #[.string (⟨#[]⟩ : ByteArray), .string (⟨#[]⟩ : ByteArray), .string (⟨#[]⟩ : ByteArray), .string (⟨#[]⟩ : ByteArray), .bool false, .int .i64 0] 26 (0, 0)) (wK BK293) hg (Kd.R_ne HO278.out BK293.out (by decide)))
                   have n4_ := Aside0.mk (hb)
                   have n5_ := Aside0.mk (ho)
                   clear HO_7 BK269 HO282 BK293 HB HO278; have HO_7 := n0_; have BK269 := n1_; have HO282 := n2_; have BK293 := n3_; have HB := n4_; have HO285 := n5_; clear n0_ n1_ n2_ n3_ n4_ n5_ ho hb hg hat
                   refine hK.out _ _ ⟨HS0_, HS1_, HS2_⟩ (fun hHeld => ?_)
                   clear hK K
                   refine norm_ (a' := ?_) ?_ ?_
                   rotate_left
                   ·show Act.put _ (some 58) _ = _
                    simp only [Act.put, List.setIfInBounds_toArray, List.set_cons_zero, List.set_cons_succ, i64_w, i32_w]
                    rfl
                   exact norm_ (by first | (simp only [putAll, Act.put, List.setIfInBounds_toArray, List.set_cons_zero, List.set_cons_succ]; done) | (simp only [putAll, Act.put, List.setIfInBounds_toArray, List.set_cons_zero, List.set_cons_succ]; rfl)) (hJ0_2_7_8_13 (v274, v277, .slice Ao36 y280.length co36, v284, gb293) _ ⟨hHeld, (by (with_reducible repeat (first | apply Kd.R_alloc | apply Kd.R_drewN | apply Kd.R_drew)); exact Kd.R_mono HO282.out (fun _ hk => ⟨hk.2, hk.1⟩)), (by (with_reducible repeat (first | apply Kd.R_alloc | apply Kd.R_drewN | apply Kd.R_drew)); exact Kd.R_mono HO285.out (fun _ hk => ⟨hk.2, hk.1⟩)), (wR HO_7), (wK BK269), (wK BK293), GW293.out, GE293.out, NB269_293.out, NB293_269.out, (wB HB)⟩)
                 ·skip
                  rintro ⟨v274, v277, v281, v284⟩ w35 ⟨hS_, h0_, h1_, h2_, h3_, h4_⟩
                  have n0_ : Aside0 (Kd.R k32 32 w35 w.heap.size (fun k_ => some k_ ≠ (v284 : Value).ownBlock ∧ some k_ ≠ (.slice (some ad279) y270.length co26 : Value).ownBlock) v281 y280) := ⟨h0_⟩
                  have n1_ : Aside0 (Kd.R k32 32 w35 w.heap.size (fun k_ => some k_ ≠ (v281 : Value).ownBlock ∧ some k_ ≠ (.slice (some ad279) y270.length co26 : Value).ownBlock) v284 y283) := ⟨h1_⟩
                  have n2_ : Aside0 (Kd.R k32 32 w35 w.heap.size (fun k_ => some k_ ≠ (v281 : Value).ownBlock ∧ some k_ ≠ (v284 : Value).ownBlock) (.slice (some ad279) y270.length co26) y270) := ⟨h2_⟩
                  have n3_ : Aside0 (w35.heap[gb269]? = some (.cells #[.string t262, .string t263, .string t264, .string t265, .bool t266, .int .i64 t267] 26 (0, 0))) := ⟨h3_⟩
                  have n4_ : Aside0 (Below w.heap.size w w35) := ⟨h4_⟩
                  clear HO_7 BK269 HB h0_ h1_ h2_ h3_ h4_; have HO282 := n0_; have HO285 := n1_; have HO_7 := n2_; have BK269 := n3_; have HB := n4_; clear n0_ n1_ n2_ n3_ n4_
                  have hHeld : w35.cell? (ad279.add ((x8_2).toNat * 3)) = some (.string ((rd_T32 y270 x8_2).f0)) ∧ w35.cell? ⟨(ad279.add ((x8_2).toNat * 3)).block, (ad279.add ((x8_2).toNat * 3)).off + 1, none⟩ = some (.string ((rd_T32 y270 x8_2).f1)) ∧ w35.cell? ⟨(ad279.add ((x8_2).toNat * 3)).block, (ad279.add ((x8_2).toNat * 3)).off + 2, none⟩ = some (.bool ((rd_T32 y270 x8_2).f2)) := hS_
                  obtain ⟨Ao36, co36, eo36⟩ := Kd.R_slice HO285.out
                  (first | subst eo36 | (injection eo36 with f1_ f2_ f3_; have f4_ := f1_.symm; have f5_ := f3_.symm; clear f1_ f2_ f3_; subst f4_; subst f5_))
                  refine norm_ (a' := ?_) ?_ ?_
                  rotate_left
                  ·simp only [putAll, Act.put, List.setIfInBounds_toArray, List.set_cons_zero, List.set_cons_succ]
                   rfl
                  refine two_ (i := 9) (j := 13) (Ni := some 59) (Nj := some 9) #[true, true, true, true, true, true, true, true, true, true, false, false, false, false, false, false] #[true, true, true, true, true, true, true, true, true, false, false, false, false, true, false, false] rfl rfl rfl rfl (two_of HT_.out (by kernel_rfl)) (by decide) (by decide) (fun K hK => ?_) (fun K hK => ?_)
                  ·skip
                   refine goes_ Tryd.func8 (by kernel_rfl) rfl #[.slice Ao36 y283.length co36] (by rfl) rfl rfl (by (try simp only [List.map_toArray, List.map_cons, List.map_nil]); first | done | rfl | (simp only [List.length_drop, List.length_take]; rfl)) ?_
                   with_reducible refine (head_Request.calls _ _ y283 t286 t287 t288 t289 t290 t291 t292 _ ?side1 ?side2 A23.out).mono ?_
                   (case side1 => repeat (first | exact (Kd.R_reads' HO285.out).2.2 | (with_reducible refine Kd.C_alloc ?_ _) | (with_reducible refine Kd.C_drewN ?_ _) | (with_reducible refine Kd.C_drew ?_)))
                   (case side2 => exact (Kd.R_reads' HO285.out).2.1)
                   rintro e w37 ⟨rfl, hb⟩
                   have HS0_ := (hb.cell (World.block_lt_of_cell? _ _ (hHeld.1))).trans (hHeld.1)
                   have HS1_ := (hb.cell (World.block_lt_of_cell? _ _ (hHeld.2.1))).trans (hHeld.2.1)
                   have HS2_ := (hb.cell (World.block_lt_of_cell? _ _ (hHeld.2.2))).trans (hHeld.2.2)
                   refine ⟨_, rfl, ?_⟩
                   have n0_ := Aside0.mk (Kd.R_below (wR HO_7) hb)
                   have n1_ := Aside0.mk (Kd.R_below (wR HO282) hb)
                   have n2_ := Aside0.mk (Kd.R_below (wR HO285) hb)
                   have n3_ := Aside0.mk (blk_below (g := gb269) (o := .cells #[.string t262, .string t263, .string t264, .string t265, .bool t266, .int .i64 t267] 26 (0, 0)) (wK BK269) hb)
                   have n4_ := Aside0.mk (below_step (wB HB) hb)
                   clear HO_7 HO282 HO285 BK269 HB; have HO_7 := n0_; have HO282 := n1_; have HO285 := n2_; have BK269 := n3_; have HB := n4_; clear n0_ n1_ n2_ n3_ n4_; (try clear hb); (try clear hb2); (try clear hk); (try clear hi)
                   refine hK.out _ _ ⟨HS0_, HS1_, HS2_⟩ (fun hHeld => ?_)
                   clear hK K
                   refine norm_ (a' := ?_) ?_ ?_
                   rotate_left
                   ·show Act.put _ (some 59) _ = _
                    simp only [Act.put, List.setIfInBounds_toArray, List.set_cons_zero, List.set_cons_succ, i64_w, i32_w]
                    rfl
                   refine pure_ (i := 10) (N := some 49) (v := ?_) (a' := ?_) #[true, true, true, true, true, true, true, true, true, true, true, false, false, false, false, false] rfl rfl (any_of HT_.out (by kernel_rfl)) (fun _ _ _ h => h) (Or.inl ⟨by rfl, ?_⟩) ?_ ?_
                   rotate_left
                   ·intro w'
                    go_simp
                    with_reducible rfl
                   rotate_left
                   ·simp only [Act.put, List.setIfInBounds_toArray, List.set_cons_zero, List.set_cons_succ, i64_w, i32_w]
                    rfl
                   refine pure_ (i := 11) (N := some 60) (v := ?_) (a' := ?_) #[true, true, true, true, true, true, true, true, true, true, true, true, false, false, false, false] rfl rfl (any_of HT_.out (by kernel_rfl)) (fun _ _ _ h => h) (Or.inl ⟨by rfl, ?_⟩) ?_ ?_
                   rotate_left
                   ·intro w'
                    go_simp
                    with_reducible rfl
                   rotate_left
                   ·simp only [Act.put, List.setIfInBounds_toArray, List.set_cons_zero, List.set_cons_succ, i64_w, i32_w]
                    rfl
                   refine pure_ (i := 12) (N := some 61) (v := ?_) (a' := ?_) #[true, true, true, true, true, true, true, true, true, true, true, true, true, false, false, false] rfl rfl (any_of HT_.out (by kernel_rfl)) (fun _ _ _ h => h) (Or.inl ⟨by rfl, ?_⟩) ?_ ?_
                   rotate_left
                   ·intro w'
                    go_simp
                    with_reducible rfl
                   rotate_left
                   ·simp only [Act.put, List.setIfInBounds_toArray, List.set_cons_zero, List.set_cons_succ, i64_w, i32_w]
                    rfl
                   exact norm_ (by first | (simp only [putAll, Act.put, List.setIfInBounds_toArray, List.set_cons_zero, List.set_cons_succ]; done) | (simp only [putAll, Act.put, List.setIfInBounds_toArray, List.set_cons_zero, List.set_cons_succ]; rfl)) (hJ0_2_7_8_9 (v274, v277, v281, .slice Ao36 y283.length co36) _ ⟨hHeld, (wR HO282), (wR HO285), (wR HO_7), (wK BK269), (wB HB)⟩)
                  ·skip
                   refine box_step ?hg (N := 9) ?hd (cs := #[.string (⟨#[]⟩ : ByteArray), .string (⟨#[]⟩ : ByteArray), .string (⟨#[]⟩ : ByteArray), .string (⟨#[]⟩ : ByteArray), .bool false, .int .i64 0]) (t := 26) ?hr ?_; (case hd => rfl); (case hg => rfl); (case hr => first | (go_simp; done) | (go_simp; rfl))
                   intro gb293 hg w36 hbox hb
                   have HS0_ := (hb.cell (World.block_lt_of_cell? _ _ (hHeld.1))).trans (hHeld.1)
                   have HS1_ := (hb.cell (World.block_lt_of_cell? _ _ (hHeld.2.1))).trans (hHeld.2.1)
                   have HS2_ := (hb.cell (World.block_lt_of_cell? _ _ (hHeld.2.2))).trans (hHeld.2.2)
                   have n0_ := Aside0.mk (Kd.R_below (wR HO_7) hb)
                   have n1_ := Aside0.mk (Kd.R_below (wR HO282) hb)
                   have n2_ := Aside0.mk (Kd.R_below (wR HO285) hb)
                   have n3_ := Aside0.mk (blk_below (g := gb269) (o := .cells #[.string t262, .string t263, .string t264, .string t265, .bool t266, .int .i64 t267] 26 (0, 0)) (wK BK269) hb)
                   have n4_ := Aside0.mk (below_step (wB HB) hb)
                   have n5_ := Aside0.mk (hbox)
                   have n6_ := Aside0.mk ((by rw [hg]; exact (below_size (wB HB)) : w.heap.size ≤ gb293))
                   have n7_ := Aside0.mk ((by rw [hg]; exact (below_size (wB HB)) : w.heap.size ≤ gb293))
                   have n8_ := Aside0.mk ((by rw [hg]; exact Nat.ne_of_lt (blk_lt (g := gb269) (o := .cells #[.string t262, .string t263, .string t264, .string t265, .bool t266, .int .i64 t267] 26 (0, 0)) (wK BK269)) : gb269 ≠ gb293))
                   have n9_ := Aside0.mk ((by rw [hg]; exact Nat.ne_of_gt (blk_lt (g := gb269) (o := .cells #[.string t262, .string t263, .string t264, .string t265, .bool t266, .int .i64 t267] 26 (0, 0)) (wK BK269)) : gb293 ≠ gb269))
                   clear HO_7 HO282 HO285 BK269 HB; have HO_7 := n0_; have HO282 := n1_; have HO285 := n2_; have BK269 := n3_; have HB := n4_; have BK293 := n5_; have GW293 := n6_; have GE293 := n7_; have NB269_293 := n8_; have NB293_269 := n9_; clear n0_ n1_ n2_ n3_ n4_ n5_ n6_ n7_ n8_ n9_ hb hbox hg
                   refine hK.out _ _ ⟨HS0_, HS1_, HS2_⟩ (fun hHeld => ?_)
                   clear hK K
                   refine norm_ (a' := ?_) ?_ ?_
                   rotate_left
                   ·show Act.put _ (some 9) _ = _
                    simp only [Act.put, List.setIfInBounds_toArray, List.set_cons_zero, List.set_cons_succ, i64_w, i32_w]
                    rfl
                   exact norm_ (by first | (simp only [putAll, Act.put, List.setIfInBounds_toArray, List.set_cons_zero, List.set_cons_succ]; done) | (simp only [putAll, Act.put, List.setIfInBounds_toArray, List.set_cons_zero, List.set_cons_succ]; rfl)) (hJ0_2_7_8_13 (v274, v277, v281, _, gb293) _ ⟨hHeld, (wR HO282), (wR HO285), (wR HO_7), (wK BK269), (wK BK293), GW293.out, GE293.out, NB269_293.out, NB293_269.out, (wB HB)⟩)
                ·skip
                 rintro ⟨v274, v277, v281, v284, gb293⟩ w36 ⟨hS_, h0_, h1_, h2_, h3_, h4_, h5_, h6_, h7_, h8_, h9_⟩
                 have n0_ : Aside0 (Kd.R k32 32 w36 w.heap.size (fun k_ => some k_ ≠ (v284 : Value).ownBlock ∧ some k_ ≠ (.slice (some ad279) y270.length co26 : Value).ownBlock) v281 y280) := ⟨h0_⟩
                 have n1_ : Aside0 (Kd.R k32 32 w36 w.heap.size (fun k_ => some k_ ≠ (v281 : Value).ownBlock ∧ some k_ ≠ (.slice (some ad279) y270.length co26 : Value).ownBlock) v284 y283) := ⟨h1_⟩
                 have n2_ : Aside0 (Kd.R k32 32 w36 w.heap.size (fun k_ => some k_ ≠ (v281 : Value).ownBlock ∧ some k_ ≠ (v284 : Value).ownBlock) (.slice (some ad279) y270.length co26) y270) := ⟨h2_⟩
                 have n3_ : Aside0 (w36.heap[gb269]? = some (.cells #[.string t262, .string t263, .string t264, .string t265, .bool t266, .int .i64 t267] 26 (0, 0))) := ⟨h3_⟩
                 have n4_ : Aside0 (w36.heap[gb293]? = some (.cells #[.string (⟨#[]⟩ : ByteArray), .string (⟨#[]⟩ : ByteArray), .string (⟨#[]⟩ : ByteArray), .string (⟨#[]⟩ : ByteArray), .bool false, .int .i64 0] 26 (0, 0))) := ⟨h4_⟩
                 have n5_ : Aside0 (w.heap.size ≤ gb293) := ⟨h5_⟩
                 have n6_ : Aside0 (w.heap.size ≤ gb293) := ⟨h6_⟩
                 have n7_ : Aside0 (gb269 ≠ gb293) := ⟨h7_⟩
                 have n8_ : Aside0 (gb293 ≠ gb269) := ⟨h8_⟩
                 have n9_ : Aside0 (Below w.heap.size w w36) := ⟨h9_⟩
                 clear HO_7 BK269 HB h0_ h1_ h2_ h3_ h4_ h5_ h6_ h7_ h8_ h9_; have HO282 := n0_; have HO285 := n1_; have HO_7 := n2_; have BK269 := n3_; have BK293 := n4_; have GW293 := n5_; have GE293 := n6_; have NB269_293 := n7_; have NB293_269 := n8_; have HB := n9_; clear n0_ n1_ n2_ n3_ n4_ n5_ n6_ n7_ n8_ n9_
                 have hHeld : w36.cell? (ad279.add ((x8_2).toNat * 3)) = some (.string ((rd_T32 y270 x8_2).f0)) ∧ w36.cell? ⟨(ad279.add ((x8_2).toNat * 3)).block, (ad279.add ((x8_2).toNat * 3)).off + 1, none⟩ = some (.string ((rd_T32 y270 x8_2).f1)) ∧ w36.cell? ⟨(ad279.add ((x8_2).toNat * 3)).block, (ad279.add ((x8_2).toNat * 3)).off + 2, none⟩ = some (.bool ((rd_T32 y270 x8_2).f2)) := hS_
                 obtain ⟨Ao37, co37, eo37⟩ := Kd.R_slice HO285.out
                 (first | subst eo37 | (injection eo37 with f1_ f2_ f3_; have f4_ := f1_.symm; have f5_ := f3_.symm; clear f1_ f2_ f3_; subst f4_; subst f5_))
                 refine norm_ (a' := ?_) ?_ ?_
                 rotate_left
                 ·simp only [putAll, Act.put, List.setIfInBounds_toArray, List.set_cons_zero, List.set_cons_succ]
                  rfl
                 refine one_ (i := 9) (N := some 59) #[true, true, true, true, true, true, true, true, true, true, false, false, false, true, false, false] rfl rfl (one_of HT_.out (by kernel_rfl)) (by decide) (fun K hK => ?_)
                 refine goes_ Tryd.func8 (by kernel_rfl) rfl #[.slice Ao37 y283.length co37] (by rfl) rfl rfl (by (try simp only [List.map_toArray, List.map_cons, List.map_nil]); first | done | rfl | (simp only [List.length_drop, List.length_take]; rfl)) ?_
                 with_reducible refine (head_Request.calls _ _ y283 t286 t287 t288 t289 t290 t291 t292 _ ?side1 ?side2 A23.out).mono ?_
                 (case side1 => repeat (first | exact (Kd.R_reads' HO285.out).2.2 | (with_reducible refine Kd.C_alloc ?_ _) | (with_reducible refine Kd.C_drewN ?_ _) | (with_reducible refine Kd.C_drew ?_)))
                 (case side2 => exact (Kd.R_reads' HO285.out).2.1)
                 rintro e w38 ⟨rfl, hb⟩
                 have HS0_ := (hb.cell (World.block_lt_of_cell? _ _ (hHeld.1))).trans (hHeld.1)
                 have HS1_ := (hb.cell (World.block_lt_of_cell? _ _ (hHeld.2.1))).trans (hHeld.2.1)
                 have HS2_ := (hb.cell (World.block_lt_of_cell? _ _ (hHeld.2.2))).trans (hHeld.2.2)
                 refine ⟨_, rfl, ?_⟩
                 have n0_ := Aside0.mk (Kd.R_below (wR HO_7) hb)
                 have n1_ := Aside0.mk (Kd.R_below (wR HO282) hb)
                 have n2_ := Aside0.mk (Kd.R_below (wR HO285) hb)
                 have n3_ := Aside0.mk (blk_below (g := gb269) (o := .cells #[.string t262, .string t263, .string t264, .string t265, .bool t266, .int .i64 t267] 26 (0, 0)) (wK BK269) hb)
                 have n4_ := Aside0.mk (blk_below (g := gb293) (o := .cells #[.string (⟨#[]⟩ : ByteArray), .string (⟨#[]⟩ : ByteArray), .string (⟨#[]⟩ : ByteArray), .string (⟨#[]⟩ : ByteArray), .bool false, .int .i64 0] 26 (0, 0)) (wK BK293) hb)
                 have n5_ := Aside0.mk (below_step (wB HB) hb)
                 clear HO_7 HO282 HO285 BK269 BK293 HB; have HO_7 := n0_; have HO282 := n1_; have HO285 := n2_; have BK269 := n3_; have BK293 := n4_; have HB := n5_; clear n0_ n1_ n2_ n3_ n4_ n5_; (try clear hb); (try clear hb2); (try clear hk); (try clear hi)
                 refine hK.out _ _ ⟨HS0_, HS1_, HS2_⟩ (fun hHeld => ?_)
                 clear hK K
                 refine norm_ (a' := ?_) ?_ ?_
                 rotate_left
                 ·show Act.put _ (some 59) _ = _
                  simp only [Act.put, List.setIfInBounds_toArray, List.set_cons_zero, List.set_cons_succ, i64_w, i32_w]
                  rfl
                 refine pure_ (i := 10) (N := some 49) (v := ?_) (a' := ?_) #[true, true, true, true, true, true, true, true, true, true, true, false, false, true, false, false] rfl rfl (any_of HT_.out (by kernel_rfl)) (fun _ _ _ h => h) (Or.inl ⟨by rfl, ?_⟩) ?_ ?_
                 rotate_left
                 ·intro w'
                  go_simp
                  with_reducible rfl
                 rotate_left
                 ·simp only [Act.put, List.setIfInBounds_toArray, List.set_cons_zero, List.set_cons_succ, i64_w, i32_w]
                  rfl
                 refine pure_ (i := 11) (N := some 60) (v := ?_) (a' := ?_) #[true, true, true, true, true, true, true, true, true, true, true, true, false, true, false, false] rfl rfl (any_of HT_.out (by kernel_rfl)) (fun _ _ _ h => h) (Or.inl ⟨by rfl, ?_⟩) ?_ ?_
                 rotate_left
                 ·intro w'
                  go_simp
                  with_reducible rfl
                 rotate_left
                 ·simp only [Act.put, List.setIfInBounds_toArray, List.set_cons_zero, List.set_cons_succ, i64_w, i32_w]
                  rfl
                 refine pure_ (i := 12) (N := some 61) (v := ?_) (a' := ?_) #[true, true, true, true, true, true, true, true, true, true, true, true, true, true, false, false] rfl rfl (any_of HT_.out (by kernel_rfl)) (fun _ _ _ h => h) (Or.inl ⟨by rfl, ?_⟩) ?_ ?_
                 rotate_left
                 ·intro w'
                  go_simp
                  with_reducible rfl
                 rotate_left
                 ·simp only [Act.put, List.setIfInBounds_toArray, List.set_cons_zero, List.set_cons_succ, i64_w, i32_w]
                  rfl
                 exact norm_ (by first | (simp only [putAll, Act.put, List.setIfInBounds_toArray, List.set_cons_zero, List.set_cons_succ]; done) | (simp only [putAll, Act.put, List.setIfInBounds_toArray, List.set_cons_zero, List.set_cons_succ]; rfl)) (hJ0_2_7_8_9_13 (v274, v277, v281, .slice Ao37 y283.length co37, gb293) _ ⟨hHeld, (wR HO282), (wR HO285), (wR HO_7), (wK BK269), (wK BK293), GW293.out, GE293.out, NB269_293.out, NB293_269.out, (wB HB)⟩)
               ·skip
                rintro ⟨v274, v277, v281, v284⟩ w37 ⟨hS_, h0_, h1_, h2_, h3_, h4_⟩
                have n0_ : Aside0 (Kd.R k32 32 w37 w.heap.size (fun k_ => some k_ ≠ (v284 : Value).ownBlock ∧ some k_ ≠ (.slice (some ad279) y270.length co26 : Value).ownBlock) v281 y280) := ⟨h0_⟩
                have n1_ : Aside0 (Kd.R k32 32 w37 w.heap.size (fun k_ => some k_ ≠ (v281 : Value).ownBlock ∧ some k_ ≠ (.slice (some ad279) y270.length co26 : Value).ownBlock) v284 y283) := ⟨h1_⟩
                have n2_ : Aside0 (Kd.R k32 32 w37 w.heap.size (fun k_ => some k_ ≠ (v281 : Value).ownBlock ∧ some k_ ≠ (v284 : Value).ownBlock) (.slice (some ad279) y270.length co26) y270) := ⟨h2_⟩
                have n3_ : Aside0 (w37.heap[gb269]? = some (.cells #[.string t262, .string t263, .string t264, .string t265, .bool t266, .int .i64 t267] 26 (0, 0))) := ⟨h3_⟩
                have n4_ : Aside0 (Below w.heap.size w w37) := ⟨h4_⟩
                clear HO_7 BK269 HB h0_ h1_ h2_ h3_ h4_; have HO282 := n0_; have HO285 := n1_; have HO_7 := n2_; have BK269 := n3_; have HB := n4_; clear n0_ n1_ n2_ n3_ n4_
                have hHeld : w37.cell? (ad279.add ((x8_2).toNat * 3)) = some (.string ((rd_T32 y270 x8_2).f0)) ∧ w37.cell? ⟨(ad279.add ((x8_2).toNat * 3)).block, (ad279.add ((x8_2).toNat * 3)).off + 1, none⟩ = some (.string ((rd_T32 y270 x8_2).f1)) ∧ w37.cell? ⟨(ad279.add ((x8_2).toNat * 3)).block, (ad279.add ((x8_2).toNat * 3)).off + 2, none⟩ = some (.bool ((rd_T32 y270 x8_2).f2)) := hS_
                refine norm_ (a' := ?_) ?_ ?_
                rotate_left
                ·simp only [putAll, Act.put, List.setIfInBounds_toArray, List.set_cons_zero, List.set_cons_succ]
                 rfl
                refine one_ (i := 13) (N := some 9) #[true, true, true, true, true, true, true, true, true, true, true, true, true, true, false, false] rfl rfl (one_of HT_.out (by kernel_rfl)) (by decide) (fun K hK => ?_)
                refine box_step ?hg (N := 9) ?hd (cs := #[.string (⟨#[]⟩ : ByteArray), .string (⟨#[]⟩ : ByteArray), .string (⟨#[]⟩ : ByteArray), .string (⟨#[]⟩ : ByteArray), .bool false, .int .i64 0]) (t := 26) ?hr ?_; (case hd => rfl); (case hg => rfl); (case hr => first | (go_simp; done) | (go_simp; rfl))
                intro gb293 hg w38 hbox hb
                have HS0_ := (hb.cell (World.block_lt_of_cell? _ _ (hHeld.1))).trans (hHeld.1)
                have HS1_ := (hb.cell (World.block_lt_of_cell? _ _ (hHeld.2.1))).trans (hHeld.2.1)
                have HS2_ := (hb.cell (World.block_lt_of_cell? _ _ (hHeld.2.2))).trans (hHeld.2.2)
                have n0_ := Aside0.mk (Kd.R_below (wR HO_7) hb)
                have n1_ := Aside0.mk (Kd.R_below (wR HO282) hb)
                have n2_ := Aside0.mk (Kd.R_below (wR HO285) hb)
                have n3_ := Aside0.mk (blk_below (g := gb269) (o := .cells #[.string t262, .string t263, .string t264, .string t265, .bool t266, .int .i64 t267] 26 (0, 0)) (wK BK269) hb)
                have n4_ := Aside0.mk (below_step (wB HB) hb)
                have n5_ := Aside0.mk (hbox)
                have n6_ := Aside0.mk ((by rw [hg]; exact (below_size (wB HB)) : w.heap.size ≤ gb293))
                have n7_ := Aside0.mk ((by rw [hg]; exact (below_size (wB HB)) : w.heap.size ≤ gb293))
                have n8_ := Aside0.mk ((by rw [hg]; exact Nat.ne_of_lt (blk_lt (g := gb269) (o := .cells #[.string t262, .string t263, .string t264, .string t265, .bool t266, .int .i64 t267] 26 (0, 0)) (wK BK269)) : gb269 ≠ gb293))
                have n9_ := Aside0.mk ((by rw [hg]; exact Nat.ne_of_gt (blk_lt (g := gb269) (o := .cells #[.string t262, .string t263, .string t264, .string t265, .bool t266, .int .i64 t267] 26 (0, 0)) (wK BK269)) : gb293 ≠ gb269))
                clear HO_7 HO282 HO285 BK269 HB; have HO_7 := n0_; have HO282 := n1_; have HO285 := n2_; have BK269 := n3_; have HB := n4_; have BK293 := n5_; have GW293 := n6_; have GE293 := n7_; have NB269_293 := n8_; have NB293_269 := n9_; clear n0_ n1_ n2_ n3_ n4_ n5_ n6_ n7_ n8_ n9_ hb hbox hg
                refine hK.out _ _ ⟨HS0_, HS1_, HS2_⟩ (fun hHeld => ?_)
                clear hK K
                refine norm_ (a' := ?_) ?_ ?_
                rotate_left
                ·show Act.put _ (some 9) _ = _
                 simp only [Act.put, List.setIfInBounds_toArray, List.set_cons_zero, List.set_cons_succ, i64_w, i32_w]
                 rfl
                exact norm_ (by first | (simp only [putAll, Act.put, List.setIfInBounds_toArray, List.set_cons_zero, List.set_cons_succ]; done) | (simp only [putAll, Act.put, List.setIfInBounds_toArray, List.set_cons_zero, List.set_cons_succ]; rfl)) (hJ0_2_7_8_9_13 (v274, v277, v281, v284, gb293) _ ⟨hHeld, (wR HO282), (wR HO285), (wR HO_7), (wK BK269), (wK BK293), GW293.out, GE293.out, NB269_293.out, NB293_269.out, (wB HB)⟩)
              rintro ⟨v274, v277, v281, v284, gb293⟩ w38 ⟨hS_, h0_, h1_, h2_, h3_, h4_, h5_, h6_, h7_, h8_, h9_⟩
              have n0_ : Aside0 (Kd.R k32 32 w38 w.heap.size (fun k_ => some k_ ≠ (v284 : Value).ownBlock ∧ some k_ ≠ (.slice (some ad279) y270.length co26 : Value).ownBlock) v281 y280) := ⟨h0_⟩
              have n1_ : Aside0 (Kd.R k32 32 w38 w.heap.size (fun k_ => some k_ ≠ (v281 : Value).ownBlock ∧ some k_ ≠ (.slice (some ad279) y270.length co26 : Value).ownBlock) v284 y283) := ⟨h1_⟩
              have n2_ : Aside0 (Kd.R k32 32 w38 w.heap.size (fun k_ => some k_ ≠ (v281 : Value).ownBlock ∧ some k_ ≠ (v284 : Value).ownBlock) (.slice (some ad279) y270.length co26) y270) := ⟨h2_⟩
              have n3_ : Aside0 (w38.heap[gb269]? = some (.cells #[.string t262, .string t263, .string t264, .string t265, .bool t266, .int .i64 t267] 26 (0, 0))) := ⟨h3_⟩
              have n4_ : Aside0 (w38.heap[gb293]? = some (.cells #[.string (⟨#[]⟩ : ByteArray), .string (⟨#[]⟩ : ByteArray), .string (⟨#[]⟩ : ByteArray), .string (⟨#[]⟩ : ByteArray), .bool false, .int .i64 0] 26 (0, 0))) := ⟨h4_⟩
              have n5_ : Aside0 (w.heap.size ≤ gb293) := ⟨h5_⟩
              have n6_ : Aside0 (w.heap.size ≤ gb293) := ⟨h6_⟩
              have n7_ : Aside0 (gb269 ≠ gb293) := ⟨h7_⟩
              have n8_ : Aside0 (gb293 ≠ gb269) := ⟨h8_⟩
              have n9_ : Aside0 (Below w.heap.size w w38) := ⟨h9_⟩
              clear HO_7 BK269 HB h0_ h1_ h2_ h3_ h4_ h5_ h6_ h7_ h8_ h9_; have HO282 := n0_; have HO285 := n1_; have HO_7 := n2_; have BK269 := n3_; have BK293 := n4_; have GW293 := n5_; have GE293 := n6_; have NB269_293 := n7_; have NB293_269 := n8_; have HB := n9_; clear n0_ n1_ n2_ n3_ n4_ n5_ n6_ n7_ n8_ n9_
              have hHeld : w38.cell? (ad279.add ((x8_2).toNat * 3)) = some (.string ((rd_T32 y270 x8_2).f0)) ∧ w38.cell? ⟨(ad279.add ((x8_2).toNat * 3)).block, (ad279.add ((x8_2).toNat * 3)).off + 1, none⟩ = some (.string ((rd_T32 y270 x8_2).f1)) ∧ w38.cell? ⟨(ad279.add ((x8_2).toNat * 3)).block, (ad279.add ((x8_2).toNat * 3)).off + 2, none⟩ = some (.bool ((rd_T32 y270 x8_2).f2)) := hS_
              refine norm_ (a' := ?_) ?_ ?_
              rotate_left
              ·simp only [putAll, Act.put, List.setIfInBounds_toArray, List.set_cons_zero, List.set_cons_succ]
               rfl
              refine one_ (i := 14) (N := none) #[true, true, true, true, true, true, true, true, true, true, true, true, true, true, true, false] rfl rfl (one_of HT_.out (by kernel_rfl)) (by decide) (fun K hK => ?_)
              have hs39 : w38.cell? ⟨gb293, 0, none⟩ = some (.string (⟨#[]⟩ : ByteArray)) := (blk_cell BK293.out 0).trans rfl
              have hfs39 := blk_frozen BK293.out 0
              have hns39_0 := NB269_293.out
              have hms39_0 := NB293_269.out
              have hs40 : w38.cell? ⟨gb293, 1, none⟩ = some (.string (⟨#[]⟩ : ByteArray)) := (blk_cell BK293.out 1).trans rfl
              have hfs40 := blk_frozen BK293.out 1
              have hns40_0 := NB269_293.out
              have hms40_0 := NB293_269.out
              have hs41 : w38.cell? ⟨gb293, 2, none⟩ = some (.string (⟨#[]⟩ : ByteArray)) := (blk_cell BK293.out 2).trans rfl
              have hfs41 := blk_frozen BK293.out 2
              have hns41_0 := NB269_293.out
              have hms41_0 := NB293_269.out
              have hs42 : w38.cell? ⟨gb293, 3, none⟩ = some (.string (⟨#[]⟩ : ByteArray)) := (blk_cell BK293.out 3).trans rfl
              have hfs42 := blk_frozen BK293.out 3
              have hns42_0 := NB269_293.out
              have hms42_0 := NB293_269.out
              have hs43 : w38.cell? ⟨gb293, 4, none⟩ = some (.bool false) := (blk_cell BK293.out 4).trans rfl
              have hfs43 := blk_frozen BK293.out 4
              have hns43_0 := NB269_293.out
              have hms43_0 := NB293_269.out
              have hs44 : w38.cell? ⟨gb293, 5, none⟩ = some (.int .i64 0) := (blk_cell BK293.out 5).trans rfl
              have hfs44 := blk_frozen BK293.out 5
              have hns44_0 := NB269_293.out
              have hms44_0 := NB293_269.out
              refine skip_ (w1 := ?_) (by rfl) rfl ?_ ?_
              rotate_left
              ·go_simp
               rfl
              refine hK.out _ _ ⟨((cell_far (p := ⟨gb293, _, none⟩) (by first | exact Kd.own_blk (Kd.R_ne HO_7.out BK293.out (by decide)) | (rw [add_block]; exact Kd.own_blk (Kd.R_ne HO_7.out BK293.out (by decide))) | (show (Addr.add _ _).block ≠ _; rw [add_block]; exact Kd.own_blk (Kd.R_ne HO_7.out BK293.out (by decide))) | (dsimp only; exact Kd.own_blk (Kd.R_ne HO_7.out BK293.out (by decide)))) _).trans (((cell_far (p := ⟨gb293, _, none⟩) (by first | exact Kd.own_blk (Kd.R_ne HO_7.out BK293.out (by decide)) | (rw [add_block]; exact Kd.own_blk (Kd.R_ne HO_7.out BK293.out (by decide))) | (show (Addr.add _ _).block ≠ _; rw [add_block]; exact Kd.own_blk (Kd.R_ne HO_7.out BK293.out (by decide))) | (dsimp only; exact Kd.own_blk (Kd.R_ne HO_7.out BK293.out (by decide)))) _).trans (((cell_far (p := ⟨gb293, _, none⟩) (by first | exact Kd.own_blk (Kd.R_ne HO_7.out BK293.out (by decide)) | (rw [add_block]; exact Kd.own_blk (Kd.R_ne HO_7.out BK293.out (by decide))) | (show (Addr.add _ _).block ≠ _; rw [add_block]; exact Kd.own_blk (Kd.R_ne HO_7.out BK293.out (by decide))) | (dsimp only; exact Kd.own_blk (Kd.R_ne HO_7.out BK293.out (by decide)))) _).trans (((cell_far (p := ⟨gb293, _, none⟩) (by first | exact Kd.own_blk (Kd.R_ne HO_7.out BK293.out (by decide)) | (rw [add_block]; exact Kd.own_blk (Kd.R_ne HO_7.out BK293.out (by decide))) | (show (Addr.add _ _).block ≠ _; rw [add_block]; exact Kd.own_blk (Kd.R_ne HO_7.out BK293.out (by decide))) | (dsimp only; exact Kd.own_blk (Kd.R_ne HO_7.out BK293.out (by decide)))) _).trans (((cell_far (p := ⟨gb293, _, none⟩) (by first | exact Kd.own_blk (Kd.R_ne HO_7.out BK293.out (by decide)) | (rw [add_block]; exact Kd.own_blk (Kd.R_ne HO_7.out BK293.out (by decide))) | (show (Addr.add _ _).block ≠ _; rw [add_block]; exact Kd.own_blk (Kd.R_ne HO_7.out BK293.out (by decide))) | (dsimp only; exact Kd.own_blk (Kd.R_ne HO_7.out BK293.out (by decide)))) _).trans (((cell_far (p := ⟨gb293, _, none⟩) (by first | exact Kd.own_blk (Kd.R_ne HO_7.out BK293.out (by decide)) | (rw [add_block]; exact Kd.own_blk (Kd.R_ne HO_7.out BK293.out (by decide))) | (show (Addr.add _ _).block ≠ _; rw [add_block]; exact Kd.own_blk (Kd.R_ne HO_7.out BK293.out (by decide))) | (dsimp only; exact Kd.own_blk (Kd.R_ne HO_7.out BK293.out (by decide)))) _).trans (hHeld.1)))))))))))), ((cell_far (p := ⟨gb293, _, none⟩) (by first | exact Kd.own_blk (Kd.R_ne HO_7.out BK293.out (by decide)) | (rw [add_block]; exact Kd.own_blk (Kd.R_ne HO_7.out BK293.out (by decide))) | (show (Addr.add _ _).block ≠ _; rw [add_block]; exact Kd.own_blk (Kd.R_ne HO_7.out BK293.out (by decide))) | (dsimp only; exact Kd.own_blk (Kd.R_ne HO_7.out BK293.out (by decide)))) _).trans (((cell_far (p := ⟨gb293, _, none⟩) (by first | exact Kd.own_blk (Kd.R_ne HO_7.out BK293.out (by decide)) | (rw [add_block]; exact Kd.own_blk (Kd.R_ne HO_7.out BK293.out (by decide))) | (show (Addr.add _ _).block ≠ _; rw [add_block]; exact Kd.own_blk (Kd.R_ne HO_7.out BK293.out (by decide))) | (dsimp only; exact Kd.own_blk (Kd.R_ne HO_7.out BK293.out (by decide)))) _).trans (((cell_far (p := ⟨gb293, _, none⟩) (by first | exact Kd.own_blk (Kd.R_ne HO_7.out BK293.out (by decide)) | (rw [add_block]; exact Kd.own_blk (Kd.R_ne HO_7.out BK293.out (by decide))) | (show (Addr.add _ _).block ≠ _; rw [add_block]; exact Kd.own_blk (Kd.R_ne HO_7.out BK293.out (by decide))) | (dsimp only; exact Kd.own_blk (Kd.R_ne HO_7.out BK293.out (by decide)))) _).trans (((cell_far (p := ⟨gb293, _, none⟩) (by first | exact Kd.own_blk (Kd.R_ne HO_7.out BK293.out (by decide)) | (rw [add_block]; exact Kd.own_blk (Kd.R_ne HO_7.out BK293.out (by decide))) | (show (Addr.add _ _).block ≠ _; rw [add_block]; exact Kd.own_blk (Kd.R_ne HO_7.out BK293.out (by decide))) | (dsimp only; exact Kd.own_blk (Kd.R_ne HO_7.out BK293.out (by decide)))) _).trans (((cell_far (p := ⟨gb293, _, none⟩) (by first | exact Kd.own_blk (Kd.R_ne HO_7.out BK293.out (by decide)) | (rw [add_block]; exact Kd.own_blk (Kd.R_ne HO_7.out BK293.out (by decide))) | (show (Addr.add _ _).block ≠ _; rw [add_block]; exact Kd.own_blk (Kd.R_ne HO_7.out BK293.out (by decide))) | (dsimp only; exact Kd.own_blk (Kd.R_ne HO_7.out BK293.out (by decide)))) _).trans (((cell_far (p := ⟨gb293, _, none⟩) (by first | exact Kd.own_blk (Kd.R_ne HO_7.out BK293.out (by decide)) | (rw [add_block]; exact Kd.own_blk (Kd.R_ne HO_7.out BK293.out (by decide))) | (show (Addr.add _ _).block ≠ _; rw [add_block]; exact Kd.own_blk (Kd.R_ne HO_7.out BK293.out (by decide))) | (dsimp only; exact Kd.own_blk (Kd.R_ne HO_7.out BK293.out (by decide)))) _).trans (hHeld.2.1)))))))))))), ((cell_far (p := ⟨gb293, _, none⟩) (by first | exact Kd.own_blk (Kd.R_ne HO_7.out BK293.out (by decide)) | (rw [add_block]; exact Kd.own_blk (Kd.R_ne HO_7.out BK293.out (by decide))) | (show (Addr.add _ _).block ≠ _; rw [add_block]; exact Kd.own_blk (Kd.R_ne HO_7.out BK293.out (by decide))) | (dsimp only; exact Kd.own_blk (Kd.R_ne HO_7.out BK293.out (by decide)))) _).trans (((cell_far (p := ⟨gb293, _, none⟩) (by first | exact Kd.own_blk (Kd.R_ne HO_7.out BK293.out (by decide)) | (rw [add_block]; exact Kd.own_blk (Kd.R_ne HO_7.out BK293.out (by decide))) | (show (Addr.add _ _).block ≠ _; rw [add_block]; exact Kd.own_blk (Kd.R_ne HO_7.out BK293.out (by decide))) | (dsimp only; exact Kd.own_blk (Kd.R_ne HO_7.out BK293.out (by decide)))) _).trans (((cell_far (p := ⟨gb293, _, none⟩) (by first | exact Kd.own_blk (Kd.R_ne HO_7.out BK293.out (by decide)) | (rw [add_block]; exact Kd.own_blk (Kd.R_ne HO_7.out BK293.out (by decide))) | (show (Addr.add _ _).block ≠ _; rw [add_block]; exact Kd.own_blk (Kd.R_ne HO_7.out BK293.out (by decide))) | (dsimp only; exact Kd.own_blk (Kd.R_ne HO_7.out BK293.out (by decide)))) _).trans (((cell_far (p := ⟨gb293, _, none⟩) (by first | exact Kd.own_blk (Kd.R_ne HO_7.out BK293.out (by decide)) | (rw [add_block]; exact Kd.own_blk (Kd.R_ne HO_7.out BK293.out (by decide))) | (show (Addr.add _ _).block ≠ _; rw [add_block]; exact Kd.own_blk (Kd.R_ne HO_7.out BK293.out (by decide))) | (dsimp only; exact Kd.own_blk (Kd.R_ne HO_7.out BK293.out (by decide)))) _).trans (((cell_far (p := ⟨gb293, _, none⟩) (by first | exact Kd.own_blk (Kd.R_ne HO_7.out BK293.out (by decide)) | (rw [add_block]; exact Kd.own_blk (Kd.R_ne HO_7.out BK293.out (by decide))) | (show (Addr.add _ _).block ≠ _; rw [add_block]; exact Kd.own_blk (Kd.R_ne HO_7.out BK293.out (by decide))) | (dsimp only; exact Kd.own_blk (Kd.R_ne HO_7.out BK293.out (by decide)))) _).trans (((cell_far (p := ⟨gb293, _, none⟩) (by first | exact Kd.own_blk (Kd.R_ne HO_7.out BK293.out (by decide)) | (rw [add_block]; exact Kd.own_blk (Kd.R_ne HO_7.out BK293.out (by decide))) | (show (Addr.add _ _).block ≠ _; rw [add_block]; exact Kd.own_blk (Kd.R_ne HO_7.out BK293.out (by decide))) | (dsimp only; exact Kd.own_blk (Kd.R_ne HO_7.out BK293.out (by decide)))) _).trans (hHeld.2.2))))))))))))⟩ (fun hHeld => ?_)
              clear hK K
              refine pure_ (i := 15) (N := some 10) (v := ?_) (a' := ?_) #[true, true, true, true, true, true, true, true, true, true, true, true, true, true, true, true] rfl rfl (any_of HT_.out (by kernel_rfl)) (fun _ _ _ h => h) (Or.inl ⟨by rfl, ?_⟩) ?_ ?_
              rotate_left
              ·intro w'
               go_simp
               with_reducible rfl
              rotate_left
              ·simp only [Act.put, List.setIfInBounds_toArray, List.set_cons_zero, List.set_cons_succ, i64_w, i32_w]
               rfl
              refine done_ (done_of HT_.out (by kernel_rfl)) ?_
              have hnb45 := NB293_269.out
              have hnc45 := NB269_293.out
              have hcz46_0 : w38.cell? ⟨gb293, 0, none⟩ = some (.string (⟨#[]⟩ : ByteArray)) := (blk_cell BK293.out 0).trans rfl
              have hcz46_1 : w38.cell? ⟨gb293, 1, none⟩ = some (.string (⟨#[]⟩ : ByteArray)) := (blk_cell BK293.out 1).trans rfl
              have hcz46_2 : w38.cell? ⟨gb293, 2, none⟩ = some (.string (⟨#[]⟩ : ByteArray)) := (blk_cell BK293.out 2).trans rfl
              have hcz46_3 : w38.cell? ⟨gb293, 3, none⟩ = some (.string (⟨#[]⟩ : ByteArray)) := (blk_cell BK293.out 3).trans rfl
              have hcz46_4 : w38.cell? ⟨gb293, 4, none⟩ = some (.bool false) := (blk_cell BK293.out 4).trans rfl
              have hcz46_5 : w38.cell? ⟨gb293, 5, none⟩ = some (.int .i64 0) := (blk_cell BK293.out 5).trans rfl
              have hfz46_0 := blk_frozen BK293.out 0
              have hfz46_1 := blk_frozen BK293.out 1
              have hfz46_2 := blk_frozen BK293.out 2
              have hfz46_3 := blk_frozen BK293.out 3
              have hfz46_4 := blk_frozen BK293.out 4
              have hfz46_5 := blk_frozen BK293.out 5
              try go_wp2
              go_roundg k2
              case measure => have := HJ4.out; have := HK2.out; omega
              case rel => exact ⟨(wrap64 (x8_2 + 1)), (by first | rfl | (simp; done) | (simp [*]; done)), H', ⟨by have := HJ4.out; have := HK2.out; omega⟩, ⟨by (with_reducible repeat (first | apply Kd.R_alloc | apply Kd.R_drewN | apply Kd.R_drew)); exact Kd.R_mono (Kd.R_far (p := ⟨gb293, 5, none⟩) (Kd.R_far (p := ⟨gb293, 4, none⟩) (Kd.R_far (p := ⟨gb293, 3, none⟩) (Kd.R_far (p := ⟨gb293, 2, none⟩) (Kd.R_far (p := ⟨gb293, 1, none⟩) (Kd.R_far (p := ⟨gb293, 0, none⟩) (Kd.R_types HO_7.out BK293.out (by decide)) (fun _ hk => hk.2) (.string t286)) (fun _ hk => hk.2) (.string t287)) (fun _ hk => hk.2) (.string t288)) (fun _ hk => hk.2) (.string t289)) (fun _ hk => hk.2) (.bool t290)) (fun _ hk => hk.2) (.int .i64 t291)) (fun _ hk => trivial)⟩, ⟨by (with_reducible repeat (first | refine blk_drewN ?_ _ | refine blk_drew ?_ | refine blk_alloc ?_ _)); refine blk_far ?_ NB269_293.out _; (with_reducible repeat (first | refine blk_drewN ?_ _ | refine blk_drew ?_ | refine blk_alloc ?_ _)); refine blk_far ?_ NB269_293.out _; (with_reducible repeat (first | refine blk_drewN ?_ _ | refine blk_drew ?_ | refine blk_alloc ?_ _)); refine blk_far ?_ NB269_293.out _; (with_reducible repeat (first | refine blk_drewN ?_ _ | refine blk_drew ?_ | refine blk_alloc ?_ _)); refine blk_far ?_ NB269_293.out _; (with_reducible repeat (first | refine blk_drewN ?_ _ | refine blk_drew ?_ | refine blk_alloc ?_ _)); refine blk_far ?_ NB269_293.out _; (with_reducible repeat (first | refine blk_drewN ?_ _ | refine blk_drew ?_ | refine blk_alloc ?_ _)); refine blk_far ?_ NB269_293.out _; (with_reducible repeat (first | refine blk_drewN ?_ _ | refine blk_drew ?_ | refine blk_alloc ?_ _)); exact BK269.out⟩, ⟨wB HB⟩⟩
             ·rw [if_neg c25] at H
              exact absurd H (by simp)
            ·rw [if_neg c24] at H
             exact absurd H (by simp)
           ·rw [if_neg c22] at H
            exact absurd H (by simp)
          ·rw [if_neg c21] at H
           exact absurd H (by simp)
         ·rw [if_neg c20] at H
          exact absurd H (by simp)
        ·rw [if_neg c19] at H
         have c19b0 : decide (x8_2 < (y270.length : Int)) = false := decide_eq_false c19
         clear c19
         by_cases c47 : a1 < 0
         ·rw [if_pos c47] at H
          have c47b0 : decide (a1 < 0) = true := decide_eq_true c47
          clear c47
          obtain rfl := Option.some.inj H
          obtain ⟨Ao48, co48, eo48⟩ := Kd.R_slice HO_7.out
          subst eo48
          go_wp2
          go_ret
          exact ⟨by first | rfl | (simp [errW_none, errW_some] <;> rfl) | (simp [*, errW_none, errW_some] <;> rfl), by repeat (first | (with_reducible first | exact HB.out | apply below_alloc | apply pw_below_drewN | apply below_drew1 | refine below_set ?_ GE269.out) | exact HB.out)⟩
         ·rw [if_neg c47] at H
          have c47b0 : decide (a1 < 0) = false := decide_eq_false c47
          clear c47
          by_cases c49 : a1 ≥ (l0.length : Int)
          ·rw [if_pos c49] at H
           have c49b0 : decide ((l0.length : Int) ≤ a1) = true := decide_eq_true c49
           clear c49
           obtain rfl := Option.some.inj H
           obtain ⟨Ao50, co50, eo50⟩ := Kd.R_slice HO_7.out
           subst eo50
           go_wp2
           go_ret
           exact ⟨by first | rfl | (simp [errW_none, errW_some] <;> rfl) | (simp [*, errW_none, errW_some] <;> rfl), by repeat (first | (with_reducible first | exact HB.out | apply below_alloc | apply pw_below_drewN | apply below_drew1 | refine below_set ?_ GE269.out) | exact HB.out)⟩
          ·rw [if_neg c49] at H
           have c49b0 : decide ((l0.length : Int) ≤ a1) = false := decide_eq_false c49
           clear c49
           obtain ⟨y294, hy294⟩ : ∃ y_ : List (S32), y_ = (([] : List (S32))) := ⟨_, rfl⟩
           replace H : (if y294.length + l0.length < 3518437208883 then ((some (y294 ++ l0 : List (S32))).bind fun y297 => (if 0 ≤ a1 then (if a1 < (l0.length : Int) then ((some (([(⟨(rd_T32 l0 a1).f0, (rd_T32 l0 a1).f1, (rd_T32 l0 a1).f2⟩ : S32)] : List (S32)) : List (S32))).bind fun y301 => (if y297.length + y301.length < 3518437208883 then ((head_Request.f (y297 ++ y301)).bind fun bt307 => (if bt307.2.2.2.2.2.2 = 100 then (some true) else (if 0 < (((rd_T32 l0 a1).f0).size : Int) then (if (bt ((rd_T32 l0 a1).f0) 0) = 58 then (none) else (if ((rd_T32 l0 a1).f0).toList = ([99, 111, 110, 116, 101, 110, 116, 45, 108, 101, 110, 103, 116, 104] : List UInt8) then (none) else (some (((rd_T32 l0 a1).f0).toList != ([99, 111, 110, 116, 101, 110, 116, 45, 116, 121, 112, 101] : List UInt8))))) else (none)))) else (none))) else (none)) else (none))) else (none)) = some r := by first | (rw [hy294]; with_reducible exact H) | (have H2_ := (Option.bind_some _ _).symm.trans H; rw [hy294]; with_reducible exact H2_) | (have H2_ := (Option.bind_some _ _).symm.trans H; with_reducible exact H2_) | with_reducible exact H | (rw [hy294]; exact H) | exact H
           have Ny294 := Aside0.mk hy294
           clear hy294
           by_cases c51 : y294.length + l0.length < 3518437208883
           ·rw [if_pos c51] at H
            have LMc51 := Aside0.mk c51
            clear c51
            obtain ⟨y297, hy297⟩ : ∃ y_ : List (S32), y_ = (y294 ++ l0) := ⟨_, rfl⟩
            replace H : (if 0 ≤ a1 then (if a1 < (l0.length : Int) then ((some (([(⟨(rd_T32 l0 a1).f0, (rd_T32 l0 a1).f1, (rd_T32 l0 a1).f2⟩ : S32)] : List (S32)) : List (S32))).bind fun y301 => (if y297.length + y301.length < 3518437208883 then ((head_Request.f (y297 ++ y301)).bind fun bt307 => (if bt307.2.2.2.2.2.2 = 100 then (some true) else (if 0 < (((rd_T32 l0 a1).f0).size : Int) then (if (bt ((rd_T32 l0 a1).f0) 0) = 58 then (none) else (if ((rd_T32 l0 a1).f0).toList = ([99, 111, 110, 116, 101, 110, 116, 45, 108, 101, 110, 103, 116, 104] : List UInt8) then (none) else (some (((rd_T32 l0 a1).f0).toList != ([99, 111, 110, 116, 101, 110, 116, 45, 116, 121, 112, 101] : List UInt8))))) else (none)))) else (none))) else (none)) else (none)) = some r := by first | (rw [hy297]; with_reducible exact H) | (have H2_ := (Option.bind_some _ _).symm.trans H; rw [hy297]; with_reducible exact H2_) | (have H2_ := (Option.bind_some _ _).symm.trans H; with_reducible exact H2_) | with_reducible exact H | (rw [hy297]; exact H) | exact H
            have Ny297 := Aside0.mk hy297
            clear hy297
            by_cases c52 : 0 ≤ a1
            ·rw [if_pos c52] at H
             have c52b0 : decide (0 ≤ a1) = true := decide_eq_true c52
             clear c52
             by_cases c53 : a1 < (l0.length : Int)
             ·rw [if_pos c53] at H
              have c53b0 : decide (a1 < (l0.length : Int)) = true := decide_eq_true c53
              clear c53
              obtain ⟨y301, hy301⟩ : ∃ y_ : List (S32), y_ = (([(⟨(rd_T32 l0 a1).f0, (rd_T32 l0 a1).f1, (rd_T32 l0 a1).f2⟩ : S32)] : List (S32))) := ⟨_, rfl⟩
              replace H : (if y297.length + y301.length < 3518437208883 then ((head_Request.f (y297 ++ y301)).bind fun bt307 => (if bt307.2.2.2.2.2.2 = 100 then (some true) else (if 0 < (((rd_T32 l0 a1).f0).size : Int) then (if (bt ((rd_T32 l0 a1).f0) 0) = 58 then (none) else (if ((rd_T32 l0 a1).f0).toList = ([99, 111, 110, 116, 101, 110, 116, 45, 108, 101, 110, 103, 116, 104] : List UInt8) then (none) else (some (((rd_T32 l0 a1).f0).toList != ([99, 111, 110, 116, 101, 110, 116, 45, 116, 121, 112, 101] : List UInt8))))) else (none)))) else (none)) = some r := by first | (rw [hy301]; with_reducible exact H) | (have H2_ := (Option.bind_some _ _).symm.trans H; rw [hy301]; with_reducible exact H2_) | (have H2_ := (Option.bind_some _ _).symm.trans H; with_reducible exact H2_) | with_reducible exact H | (rw [hy301]; exact H) | exact H
              have Ny301 := Aside0.mk hy301
              clear hy301
              by_cases c54 : y297.length + y301.length < 3518437208883
              ·rw [if_pos c54] at H
               have LMc54 := Aside0.mk c54
               clear c54
               obtain ⟨y304, hy304⟩ : ∃ y_ : List (S32), y_ = (y297 ++ y301) := ⟨_, rfl⟩
               replace H : ((head_Request.f y304).bind fun bt307 => (if bt307.2.2.2.2.2.2 = 100 then (some true) else (if 0 < (((rd_T32 l0 a1).f0).size : Int) then (if (bt ((rd_T32 l0 a1).f0) 0) = 58 then (none) else (if ((rd_T32 l0 a1).f0).toList = ([99, 111, 110, 116, 101, 110, 116, 45, 108, 101, 110, 103, 116, 104] : List UInt8) then (none) else (some (((rd_T32 l0 a1).f0).toList != ([99, 111, 110, 116, 101, 110, 116, 45, 116, 121, 112, 101] : List UInt8))))) else (none)))) = some r := by first | (rw [hy304]; with_reducible exact H) | (have H2_ := (Option.bind_some _ _).symm.trans H; rw [hy304]; with_reducible exact H2_) | (have H2_ := (Option.bind_some _ _).symm.trans H; with_reducible exact H2_) | with_reducible exact H | (rw [hy304]; exact H) | exact H
               have Ny304 := Aside0.mk hy304
               clear hy304
               replace H := Option.bind_eq_some_iff.mp H
               obtain ⟨⟨t307, t308, t309, t310, t311, t312, t313⟩, A550, H⟩ := H
               replace H : (if t313 = 100 then (some true) else (if 0 < (((rd_T32 l0 a1).f0).size : Int) then (if (bt ((rd_T32 l0 a1).f0) 0) = 58 then (none) else (if ((rd_T32 l0 a1).f0).toList = ([99, 111, 110, 116, 101, 110, 116, 45, 108, 101, 110, 103, 116, 104] : List UInt8) then (none) else (some (((rd_T32 l0 a1).f0).toList != ([99, 111, 110, 116, 101, 110, 116, 45, 116, 121, 112, 101] : List UInt8))))) else (none))) = some r := H
               have A55 := Aside0.mk A550
               clear A550
               by_cases c56 : t313 = 100
               ·rw [if_pos c56] at H
                have c56b0 : (t313 == 100) = true := beq_iff_eq.mpr c56
                have c56b1 : (t313 != 100) = false := bne_eq_false_iff_eq.mpr c56
                clear c56
                obtain rfl := Option.some.inj H
                obtain ⟨Ao57, co57, eo57⟩ := Kd.R_slice HO_7.out
                subst eo57
                try go_wp2
                have n0_ := Aside0.mk (Kd.R_drew HO_7.out)
                have n1_ := Aside0.mk (blk_drew BK269.out)
                have n2_ := Aside0.mk (below_drew1 HB.out)
                clear HO_7 BK269 HB; have HO_7 := n0_; have BK269 := n1_; have HB := n2_; clear n0_ n1_ n2_
                have p300 : 0 ≤ (a1 : Int) := of_decide_eq_true (by first | (with_reducible assumption) | assumption)
                have q300 : a1 < (l0.length : Int) := of_decide_eq_true (by first | (with_reducible assumption) | assumption)
                obtain ⟨ad300, e300, hx300_0, hx300_1, hx300_2⟩ := at_T32 HR0.out a1 p300 q300
                have hw300_2 := hx300_2; have hw300_1 := hx300_1; have hw300_0 := hx300_0
                cases e300
                replace hx300_0 := (HB.out.cell (World.block_lt_of_cell? w _ hx300_0)).trans hx300_0
                replace hx300_1 := (HB.out.cell (World.block_lt_of_cell? w _ hx300_1)).trans hx300_1
                replace hx300_2 := (HB.out.cell (World.block_lt_of_cell? w _ hx300_2)).trans hx300_2
                replace p300 := eq_true p300
                replace q300 := eq_true q300
                refine start_ (n := 10) (S := fun w' => w'.cell? (ad300.add ((a1).toNat * 3)) = some (.string ((rd_T32 l0 a1).f0)) ∧ w'.cell? ⟨(ad300.add ((a1).toNat * 3)).block, (ad300.add ((a1).toNat * 3)).off + 1, none⟩ = some (.string ((rd_T32 l0 a1).f1)) ∧ w'.cell? ⟨(ad300.add ((a1).toNat * 3)).block, (ad300.add ((a1).toNat * 3)).off + 2, none⟩ = some (.bool ((rd_T32 l0 a1).f2))) (ds := []) #[false, false, false, false, false, false, false, false, false, false] (by kernel_rfl) rfl rfl ⟨((HB.out.cell (World.block_lt_of_cell? w _ hw300_0)).trans hw300_0), ((HB.out.cell (World.block_lt_of_cell? w _ hw300_1)).trans hw300_1), ((HB.out.cell (World.block_lt_of_cell? w _ hw300_2)).trans hw300_2)⟩ (fun hHeld => ?_); refine with_tabW HW.tab17 HW.bits17 (fun HT_ HW_ => ?_)
                generalize wr.drew = w58 at HO_7 BK269 HB hx300_0 hx300_1 hx300_2 hHeld ⊢
                refine pure_ (i := 1) (N := some 78) (v := ?_) (a' := ?_) #[false, true, false, false, false, false, false, false, false, false] rfl rfl (any_of HT_.out (by kernel_rfl)) (fun _ _ _ h => h) (Or.inl ⟨by rfl, ?_⟩) ?_ ?_
                rotate_left
                ·intro w'
                 go_simp
                 with_reducible rfl
                rotate_left
                ·simp only [Act.put, List.setIfInBounds_toArray, List.set_cons_zero, List.set_cons_succ, i64_w, i32_w]
                 rfl
                refine pure_ (i := 3) (N := some 80) (v := ?_) (a' := ?_) #[false, true, false, true, false, false, false, false, false, false] rfl rfl (any_of HT_.out (by kernel_rfl)) (fun _ _ _ h => h) (Or.inl ⟨by rfl, ?_⟩) ?_ ?_
                rotate_left
                ·intro w'
                 go_simp
                 with_reducible rfl
                rotate_left
                ·simp only [Act.put, List.setIfInBounds_toArray, List.set_cons_zero, List.set_cons_succ, i64_w, i32_w]
                 rfl
                refine pure_ (i := 4) (N := some 81) (v := ?_) (a' := ?_) #[false, true, false, true, true, false, false, false, false, false] rfl rfl (any_of HT_.out (by kernel_rfl)) (fun _ _ _ h => h) (Or.inl ⟨by rfl, ?_⟩) ?_ ?_
                rotate_left
                ·intro w'
                 go_simp
                 with_reducible rfl
                rotate_left
                ·simp only [Act.put, List.setIfInBounds_toArray, List.set_cons_zero, List.set_cons_succ, i64_w, i32_w]
                 rfl
                refine pure_ (i := 5) (N := some 82) (v := ?_) (a' := ?_) #[false, true, false, true, true, true, false, false, false, false] rfl rfl (any_of HT_.out (by kernel_rfl)) (fun _ _ _ h => h) (Or.inl ⟨by rfl, ?_⟩) ?_ ?_
                rotate_left
                ·intro w'
                 go_simp
                 with_reducible rfl
                rotate_left
                ·simp only [Act.put, List.setIfInBounds_toArray, List.set_cons_zero, List.set_cons_succ, i64_w, i32_w]
                 rfl
                refine take_ (i := 6) (N := some 83) (v := ?_) (a' := ?_) #[false, true, false, true, true, true, true, false, false, false] rfl rfl (take_ofW HT_.out HW_.out (by kernel_rfl)) (fun _ _ _ h => h) (Or.inl ⟨by rfl, ?_⟩) hHeld ?_ ?_
                rotate_left
                ·rintro w' ⟨s0, s1, s2⟩
                 go_simp
                 with_reducible rfl
                rotate_left
                ·simp only [Act.put, List.setIfInBounds_toArray, List.set_cons_zero, List.set_cons_succ, i64_w, i32_w]
                 rfl
                refine join_ (σ := Value × Value × Value) 2 #[true, true, true, true, true, true, true, true, false, false] (fun s_ => [(77, s_.1), (79, s_.2.1), (84, s_.2.2)]) (fun s_ w' => (w'.cell? (ad300.add ((a1).toNat * 3)) = some (.string ((rd_T32 l0 a1).f0)) ∧ w'.cell? ⟨(ad300.add ((a1).toNat * 3)).block, (ad300.add ((a1).toNat * 3)).off + 1, none⟩ = some (.string ((rd_T32 l0 a1).f1)) ∧ w'.cell? ⟨(ad300.add ((a1).toNat * 3)).block, (ad300.add ((a1).toNat * 3)).off + 2, none⟩ = some (.bool ((rd_T32 l0 a1).f2))) ∧ (Kd.R k32 32 w' w.heap.size (fun k_ => some k_ ≠ (s_.2.2 : Value).ownBlock ∧ some k_ ≠ (.slice Ao57 y270.length co57 : Value).ownBlock) s_.2.1 y297) ∧ (Kd.R k32 32 w' w.heap.size (fun k_ => some k_ ≠ (s_.2.1 : Value).ownBlock ∧ some k_ ≠ (.slice Ao57 y270.length co57 : Value).ownBlock) s_.2.2 y301) ∧ (Kd.R k32 32 w' w.heap.size (fun k_ => some k_ ≠ (s_.2.1 : Value).ownBlock ∧ some k_ ≠ (s_.2.2 : Value).ownBlock) (.slice Ao57 y270.length co57) y270) ∧ (w'.heap[gb269]? = some (.cells #[.string t262, .string t263, .string t264, .string t265, .bool t266, .int .i64 t267] 26 (0, 0))) ∧ (Below w.heap.size w w')) ?_ ?_
                rotate_left
                ·intro hCont
                 refine two_ (i := 0) (j := 7) (Ni := some 77) (Nj := some 84) #[true, true, false, true, true, true, true, false, false, false] #[false, true, false, true, true, true, true, true, false, false] rfl rfl rfl rfl (two_of HT_.out (by kernel_rfl)) (by decide) (by decide) (fun K hK => ?_) (fun K hK => ?_)
                 ·skip
                  refine Kd.R_lit_step k32 _ 32 ?hg (N := 77) ?hd (xs := ([] : List (S32))) (inner := []) (ok := fun _ => True) (okp := fun _ => True) ?hr ?hp (fun _ hk => hk) trivial (Below.refl _ _) (Nat.le_refl _) (by simp) ?_; (case hd => rfl); (case hg => rfl); (case hr => first | (go_simp; done) | (go_simp; rfl)); (case hp => exact (Reps.none _ _))
                  intro v295 w59 ho60 hb hg_ hnew_
                  clear hg_ hnew_
                  (first | rw [← Ny294.out] at ho60 | (simp only [Int.reduceToNat] at ho60; rw [← Ny294.out] at ho60))
                  have n0_ := Aside0.mk (Kd.R_elder' (wR HO_7) (Kd.R_base ho60) hb)
                  have n1_ := Aside0.mk (Kd.R_lower (Kd.R_new' ho60 (Kd.R_lt (wR HO_7))) (below_size (wB HB)))
                  have n2_ := Aside0.mk (blk_below (g := gb269) (o := .cells #[.string t262, .string t263, .string t264, .string t265, .bool t266, .int .i64 t267] 26 (0, 0)) (wK BK269) hb)
                  have n3_ := Aside0.mk (below_step (wB HB) hb)
                  clear HO_7 BK269 HB; have HO_7 := n0_; have HO296 := n1_; have BK269 := n2_; have HB := n3_; clear n0_ n1_ n2_ n3_ hb ho60
                  refine hK.out _ _ ⟨((HB.out.cell (World.block_lt_of_cell? w _ hw300_0)).trans hw300_0), ((HB.out.cell (World.block_lt_of_cell? w _ hw300_1)).trans hw300_1), ((HB.out.cell (World.block_lt_of_cell? w _ hw300_2)).trans hw300_2)⟩ (fun hHeld => ?_)
                  clear hK K
                  refine norm_ (a' := ?_) ?_ ?_
                  rotate_left
                  ·show Act.put _ (some 77) _ = _
                   simp only [Act.put, List.setIfInBounds_toArray, List.set_cons_zero, List.set_cons_succ, i64_w, i32_w]
                   rfl
                  refine two_ (i := 2) (j := 7) (Ni := some 79) (Nj := some 84) #[true, true, true, true, true, true, true, false, false, false] #[true, true, false, true, true, true, true, true, false, false] rfl rfl rfl rfl (two_of HT_.out (by kernel_rfl)) (by decide) (by decide) (fun K hK => ?_) (fun K hK => ?_)
                  ·skip
                   refine Kd.R_append_rows_step k32 (w0 := w) w.heap.size (by rfl) (.tmp 77) (.tmp 78) 22 32 (.agg #[(.string ⟨#[]⟩), (.string ⟨#[]⟩), (.bool false)]) 40 rfl Tryd.underlying22 info32 rfl (by decide) (by omega) v295 y294 l0 _ _ _ (fun k_ => some k_ ≠ (.slice Ao57 y270.length co57 : Value).ownBlock) (fun _ => False) rfl rfl ?aO ?aR (fun _ _ h => h) (fun _ h => h.elim) ?aF ?aB ?aS ?aL ?_
                   (case aR => repeat (first | exact (Kd.C_below HR0.out HB.out) | (with_reducible refine Kd.C_alloc ?_ _) | (with_reducible refine Kd.C_drewN ?_ _) | (with_reducible refine Kd.C_drew ?_)))
                   (case aB => exact (wB HB))
                   (case aF => exact (fun k_ hk => Kd.fresh' (Kd.R_lt (wR HO_7)) k_ hk))
                   (case aO => exact (by (with_reducible repeat (first | apply Kd.R_alloc | apply Kd.R_drewN | apply Kd.R_drew)); exact Kd.R_mono HO296.out (fun _ hk => hk.2)))
                   (case aS => exact (below_size (wB HB)))
                   (case aL => have := LMc51.out; omega)
                   intro v298 w61 ho hb hg hat
                   rw [← Ny297.out] at ho
                   have n0_ := Aside0.mk (Kd.R_after (ok := (fun _ => True)) (wR HO_7) hg hat)
                   have n1_ := Aside0.mk (blk_grown (g := gb269) (o := .cells #[.string t262, .string t263, .string t264, .string t265, .bool t266, .int .i64 t267] 26 (0, 0)) (wK BK269) hg (Kd.R_ne HO296.out BK269.out (by decide)))
                   have n2_ := Aside0.mk (hb)
                   have n3_ := Aside0.mk (ho)
                   clear HO_7 BK269 HB HO296; have HO_7 := n0_; have BK269 := n1_; have HB := n2_; have HO299 := n3_; clear n0_ n1_ n2_ n3_ ho hb hg hat
                   refine hK.out _ _ ⟨((HB.out.cell (World.block_lt_of_cell? w _ hw300_0)).trans hw300_0), ((HB.out.cell (World.block_lt_of_cell? w _ hw300_1)).trans hw300_1), ((HB.out.cell (World.block_lt_of_cell? w _ hw300_2)).trans hw300_2)⟩ (fun hHeld => ?_)
                   clear hK K
                   refine norm_ (a' := ?_) ?_ ?_
                   rotate_left
                   ·show Act.put _ (some 79) _ = _
                    simp only [Act.put, List.setIfInBounds_toArray, List.set_cons_zero, List.set_cons_succ, i64_w, i32_w]
                    rfl
                   refine one_ (i := 7) (N := some 84) #[true, true, true, true, true, true, true, true, false, false] rfl rfl (one_of HT_.out (by kernel_rfl)) (by decide) (fun K hK => ?_)
                   refine Kd.R_lit_step k32 _ 32 ?hg (N := 84) ?hd (xs := ([(⟨(rd_T32 l0 a1).f0, (rd_T32 l0 a1).f1, (rd_T32 l0 a1).f2⟩ : S32)] : List (S32))) (inner := [.string ((rd_T32 l0 a1).f0), .string ((rd_T32 l0 a1).f1), .bool ((rd_T32 l0 a1).f2)]) (ok := fun _ => True) (okp := fun _ => True) ?hr ?hp (fun _ hk => hk) trivial (Below.refl _ _) (Nat.le_refl _) (by simp) ?_; (case hd => rfl); (case hg => rfl); (case hr => first | (go_simp; done) | (go_simp; rfl)); (case hp => exact (Reps.c3 (show Kd.M k32 _ _ _ (⟨(rd_T32 l0 a1).f0, (rd_T32 l0 a1).f1, (rd_T32 l0 a1).f2⟩ : S32) [.string ((rd_T32 l0 a1).f0), .string ((rd_T32 l0 a1).f1), .bool ((rd_T32 l0 a1).f2)] from (k32_mkM _ _ _ (⟨(rd_T32 l0 a1).f0, (rd_T32 l0 a1).f1, (rd_T32 l0 a1).f2⟩ : S32) )) (Reps.none _ _)))
                   intro v302 w62 ho63 hb hg_ hnew_
                   clear hg_ hnew_
                   (first | rw [← Ny301.out] at ho63 | (simp only [Int.reduceToNat] at ho63; rw [← Ny301.out] at ho63))
                   have n0_ := Aside0.mk (Kd.R_elder' (wR HO_7) (Kd.R_base ho63) hb)
                   have n1_ := Aside0.mk (Kd.R_elder' (wR HO299) (Kd.R_base ho63) hb)
                   have n2_ := Aside0.mk (Kd.R_lower (Kd.R_new' (Kd.R_new' ho63 (Kd.R_lt (wR HO_7))) (Kd.R_lt (wR HO299))) (below_size (wB HB)))
                   have n3_ := Aside0.mk (blk_below (g := gb269) (o := .cells #[.string t262, .string t263, .string t264, .string t265, .bool t266, .int .i64 t267] 26 (0, 0)) (wK BK269) hb)
                   have n4_ := Aside0.mk (below_step (wB HB) hb)
                   clear HO_7 HO299 BK269 HB; have HO_7 := n0_; have HO299 := n1_; have HO303 := n2_; have BK269 := n3_; have HB := n4_; clear n0_ n1_ n2_ n3_ n4_ hb ho63
                   refine hK.out _ _ ⟨((HB.out.cell (World.block_lt_of_cell? w _ hw300_0)).trans hw300_0), ((HB.out.cell (World.block_lt_of_cell? w _ hw300_1)).trans hw300_1), ((HB.out.cell (World.block_lt_of_cell? w _ hw300_2)).trans hw300_2)⟩ (fun hHeld => ?_)
                   clear hK K
                   refine norm_ (a' := ?_) ?_ ?_
                   rotate_left
                   ·show Act.put _ (some 84) _ = _
                    simp only [Act.put, List.setIfInBounds_toArray, List.set_cons_zero, List.set_cons_succ, i64_w, i32_w]
                    rfl
                   exact norm_ (by simp only [putAll, Act.put, List.setIfInBounds_toArray, List.set_cons_zero, List.set_cons_succ]) (hCont (v295, v298, v302) _ ⟨hHeld, (by (with_reducible repeat (first | apply Kd.R_alloc | apply Kd.R_drewN | apply Kd.R_drew)); exact Kd.R_mono HO299.out (fun _ hk => ⟨hk.2, hk.1⟩)), (by (with_reducible repeat (first | apply Kd.R_alloc | apply Kd.R_drewN | apply Kd.R_drew)); exact Kd.R_mono HO303.out (fun _ hk => ⟨hk.2, hk.1.2⟩)), (by (with_reducible repeat (first | apply Kd.R_alloc | apply Kd.R_drewN | apply Kd.R_drew)); exact Kd.R_mono HO_7.out (fun _ hk => ⟨hk.1.2, hk.2⟩)), (wK BK269), (wB HB)⟩)
                  ·skip
                   refine Kd.R_lit_step k32 _ 32 ?hg (N := 84) ?hd (xs := ([(⟨(rd_T32 l0 a1).f0, (rd_T32 l0 a1).f1, (rd_T32 l0 a1).f2⟩ : S32)] : List (S32))) (inner := [.string ((rd_T32 l0 a1).f0), .string ((rd_T32 l0 a1).f1), .bool ((rd_T32 l0 a1).f2)]) (ok := fun _ => True) (okp := fun _ => True) ?hr ?hp (fun _ hk => hk) trivial (Below.refl _ _) (Nat.le_refl _) (by simp) ?_; (case hd => rfl); (case hg => rfl); (case hr => first | (go_simp; done) | (go_simp; rfl)); (case hp => exact (Reps.c3 (show Kd.M k32 _ _ _ (⟨(rd_T32 l0 a1).f0, (rd_T32 l0 a1).f1, (rd_T32 l0 a1).f2⟩ : S32) [.string ((rd_T32 l0 a1).f0), .string ((rd_T32 l0 a1).f1), .bool ((rd_T32 l0 a1).f2)] from (k32_mkM _ _ _ (⟨(rd_T32 l0 a1).f0, (rd_T32 l0 a1).f1, (rd_T32 l0 a1).f2⟩ : S32) )) (Reps.none _ _)))
                   intro v302 w61 ho62 hb hg_ hnew_
                   clear hg_ hnew_
                   (first | rw [← Ny301.out] at ho62 | (simp only [Int.reduceToNat] at ho62; rw [← Ny301.out] at ho62))
                   have n0_ := Aside0.mk (Kd.R_elder' (wR HO_7) (Kd.R_base ho62) hb)
                   have n1_ := Aside0.mk (Kd.R_elder' (wR HO296) (Kd.R_base ho62) hb)
                   have n2_ := Aside0.mk (Kd.R_lower (Kd.R_new' (Kd.R_new' ho62 (Kd.R_lt (wR HO_7))) (Kd.R_lt (wR HO296))) (below_size (wB HB)))
                   have n3_ := Aside0.mk (blk_below (g := gb269) (o := .cells #[.string t262, .string t263, .string t264, .string t265, .bool t266, .int .i64 t267] 26 (0, 0)) (wK BK269) hb)
                   have n4_ := Aside0.mk (below_step (wB HB) hb)
                   clear HO_7 HO296 BK269 HB; have HO_7 := n0_; have HO296 := n1_; have HO303 := n2_; have BK269 := n3_; have HB := n4_; clear n0_ n1_ n2_ n3_ n4_ hb ho62
                   refine hK.out _ _ ⟨((HB.out.cell (World.block_lt_of_cell? w _ hw300_0)).trans hw300_0), ((HB.out.cell (World.block_lt_of_cell? w _ hw300_1)).trans hw300_1), ((HB.out.cell (World.block_lt_of_cell? w _ hw300_2)).trans hw300_2)⟩ (fun hHeld => ?_)
                   clear hK K
                   refine norm_ (a' := ?_) ?_ ?_
                   rotate_left
                   ·show Act.put _ (some 84) _ = _
                    simp only [Act.put, List.setIfInBounds_toArray, List.set_cons_zero, List.set_cons_succ, i64_w, i32_w]
                    rfl
                   refine one_ (i := 2) (N := some 79) #[true, true, true, true, true, true, true, true, false, false] rfl rfl (one_of HT_.out (by kernel_rfl)) (by decide) (fun K hK => ?_)
                   refine Kd.R_append_rows_step k32 (w0 := w) w.heap.size (by rfl) (.tmp 77) (.tmp 78) 22 32 (.agg #[(.string ⟨#[]⟩), (.string ⟨#[]⟩), (.bool false)]) 40 rfl Tryd.underlying22 info32 rfl (by decide) (by omega) v295 y294 l0 _ _ _ (fun k_ => some k_ ≠ (.slice Ao57 y270.length co57 : Value).ownBlock ∧ some k_ ≠ (v302 : Value).ownBlock) (fun _ => False) rfl rfl ?aO ?aR (fun _ _ h => h) (fun _ h => h.elim) ?aF ?aB ?aS ?aL ?_
                   (case aR => repeat (first | exact (Kd.C_below HR0.out HB.out) | (with_reducible refine Kd.C_alloc ?_ _) | (with_reducible refine Kd.C_drewN ?_ _) | (with_reducible refine Kd.C_drew ?_)))
                   (case aB => exact (wB HB))
                   (case aF => exact (fun k_ hk => ⟨Kd.fresh' (Kd.R_lt (wR HO_7)) k_ hk, Kd.fresh' (Kd.R_lt (wR HO303)) k_ hk⟩))
                   (case aO => exact (by (with_reducible repeat (first | apply Kd.R_alloc | apply Kd.R_drewN | apply Kd.R_drew)); exact Kd.R_mono HO296.out (fun _ hk => ⟨hk.1.2, hk.2⟩)))
                   (case aS => exact (below_size (wB HB)))
                   (case aL => have := LMc51.out; omega)
                   intro v298 w63 ho hb hg hat
                   rw [← Ny297.out] at ho
                   have n0_ := Aside0.mk (Kd.R_after (ok := (fun k_ => some k_ ≠ (v302 : Value).ownBlock)) (by (with_reducible repeat (first | apply Kd.R_alloc | apply Kd.R_drewN | apply Kd.R_drew)); exact Kd.R_mono HO_7.out (fun _ hk => ⟨hk.2, hk.1.2⟩)) hg hat)
                   have n1_ := Aside0.mk (blk_grown (g := gb269) (o := .cells #[.string t262, .string t263, .string t264, .string t265, .bool t266, .int .i64 t267] 26 (0, 0)) (wK BK269) hg (Kd.R_ne HO296.out BK269.out (by decide)))
                   have n2_ := Aside0.mk (Kd.R_after (ok := (fun k_ => some k_ ≠ (.slice Ao57 y270.length co57 : Value).ownBlock)) (by (with_reducible repeat (first | apply Kd.R_alloc | apply Kd.R_drewN | apply Kd.R_drew)); exact Kd.R_mono HO303.out (fun _ hk => ⟨hk.1.2, hk.2⟩)) hg hat)
                   have n3_ := Aside0.mk (hb)
                   have n4_ := Aside0.mk (ho)
                   clear HO_7 BK269 HO303 HB HO296; have HO_7 := n0_; have BK269 := n1_; have HO303 := n2_; have HB := n3_; have HO299 := n4_; clear n0_ n1_ n2_ n3_ n4_ ho hb hg hat
                   refine hK.out _ _ ⟨((HB.out.cell (World.block_lt_of_cell? w _ hw300_0)).trans hw300_0), ((HB.out.cell (World.block_lt_of_cell? w _ hw300_1)).trans hw300_1), ((HB.out.cell (World.block_lt_of_cell? w _ hw300_2)).trans hw300_2)⟩ (fun hHeld => ?_)
                   clear hK K
                   refine norm_ (a' := ?_) ?_ ?_
                   rotate_left
                   ·show Act.put _ (some 79) _ = _
                    simp only [Act.put, List.setIfInBounds_toArray, List.set_cons_zero, List.set_cons_succ, i64_w, i32_w]
                    rfl
                   exact norm_ (by simp only [putAll, Act.put, List.setIfInBounds_toArray, List.set_cons_zero, List.set_cons_succ]) (hCont (v295, v298, v302) _ ⟨hHeld, (by (with_reducible repeat (first | apply Kd.R_alloc | apply Kd.R_drewN | apply Kd.R_drew)); exact Kd.R_mono HO299.out (fun _ hk => ⟨hk.2, hk.1⟩)), (by (with_reducible repeat (first | apply Kd.R_alloc | apply Kd.R_drewN | apply Kd.R_drew)); exact Kd.R_mono HO303.out (fun _ hk => ⟨hk.2, hk.1⟩)), (by (with_reducible repeat (first | apply Kd.R_alloc | apply Kd.R_drewN | apply Kd.R_drew)); exact Kd.R_mono HO_7.out (fun _ hk => ⟨hk.2, hk.1⟩)), (wK BK269), (wB HB)⟩)
                 ·skip
                  refine Kd.R_lit_step k32 _ 32 ?hg (N := 84) ?hd (xs := ([(⟨(rd_T32 l0 a1).f0, (rd_T32 l0 a1).f1, (rd_T32 l0 a1).f2⟩ : S32)] : List (S32))) (inner := [.string ((rd_T32 l0 a1).f0), .string ((rd_T32 l0 a1).f1), .bool ((rd_T32 l0 a1).f2)]) (ok := fun _ => True) (okp := fun _ => True) ?hr ?hp (fun _ hk => hk) trivial (Below.refl _ _) (Nat.le_refl _) (by simp) ?_; (case hd => rfl); (case hg => rfl); (case hr => first | (go_simp; done) | (go_simp; rfl)); (case hp => exact (Reps.c3 (show Kd.M k32 _ _ _ (⟨(rd_T32 l0 a1).f0, (rd_T32 l0 a1).f1, (rd_T32 l0 a1).f2⟩ : S32) [.string ((rd_T32 l0 a1).f0), .string ((rd_T32 l0 a1).f1), .bool ((rd_T32 l0 a1).f2)] from (k32_mkM _ _ _ (⟨(rd_T32 l0 a1).f0, (rd_T32 l0 a1).f1, (rd_T32 l0 a1).f2⟩ : S32) )) (Reps.none _ _)))
                  intro v302 w59 ho60 hb hg_ hnew_
                  clear hg_ hnew_
                  (first | rw [← Ny301.out] at ho60 | (simp only [Int.reduceToNat] at ho60; rw [← Ny301.out] at ho60))
                  have n0_ := Aside0.mk (Kd.R_elder' (wR HO_7) (Kd.R_base ho60) hb)
                  have n1_ := Aside0.mk (Kd.R_lower (Kd.R_new' ho60 (Kd.R_lt (wR HO_7))) (below_size (wB HB)))
                  have n2_ := Aside0.mk (blk_below (g := gb269) (o := .cells #[.string t262, .string t263, .string t264, .string t265, .bool t266, .int .i64 t267] 26 (0, 0)) (wK BK269) hb)
                  have n3_ := Aside0.mk (below_step (wB HB) hb)
                  clear HO_7 BK269 HB; have HO_7 := n0_; have HO303 := n1_; have BK269 := n2_; have HB := n3_; clear n0_ n1_ n2_ n3_ hb ho60
                  refine hK.out _ _ ⟨((HB.out.cell (World.block_lt_of_cell? w _ hw300_0)).trans hw300_0), ((HB.out.cell (World.block_lt_of_cell? w _ hw300_1)).trans hw300_1), ((HB.out.cell (World.block_lt_of_cell? w _ hw300_2)).trans hw300_2)⟩ (fun hHeld => ?_)
                  clear hK K
                  refine norm_ (a' := ?_) ?_ ?_
                  rotate_left
                  ·show Act.put _ (some 84) _ = _
                   simp only [Act.put, List.setIfInBounds_toArray, List.set_cons_zero, List.set_cons_succ, i64_w, i32_w]
                   rfl
                  refine one_ (i := 0) (N := some 77) #[true, true, false, true, true, true, true, true, false, false] rfl rfl (one_of HT_.out (by kernel_rfl)) (by decide) (fun K hK => ?_)
                  refine Kd.R_lit_step k32 _ 32 ?hg (N := 77) ?hd (xs := ([] : List (S32))) (inner := []) (ok := fun _ => True) (okp := fun _ => True) ?hr ?hp (fun _ hk => hk) trivial (Below.refl _ _) (Nat.le_refl _) (by simp) ?_; (case hd => rfl); (case hg => rfl); (case hr => first | (go_simp; done) | (go_simp; rfl)); (case hp => exact (Reps.none _ _))
                  intro v295 w61 ho62 hb hg_ hnew_
                  clear hg_ hnew_
                  (first | rw [← Ny294.out] at ho62 | (simp only [Int.reduceToNat] at ho62; rw [← Ny294.out] at ho62))
                  have n0_ := Aside0.mk (Kd.R_elder' (wR HO_7) (Kd.R_base ho62) hb)
                  have n1_ := Aside0.mk (Kd.R_elder' (wR HO303) (Kd.R_base ho62) hb)
                  have n2_ := Aside0.mk (Kd.R_lower (Kd.R_new' (Kd.R_new' ho62 (Kd.R_lt (wR HO_7))) (Kd.R_lt (wR HO303))) (below_size (wB HB)))
                  have n3_ := Aside0.mk (blk_below (g := gb269) (o := .cells #[.string t262, .string t263, .string t264, .string t265, .bool t266, .int .i64 t267] 26 (0, 0)) (wK BK269) hb)
                  have n4_ := Aside0.mk (below_step (wB HB) hb)
                  clear HO_7 HO303 BK269 HB; have HO_7 := n0_; have HO303 := n1_; have HO296 := n2_; have BK269 := n3_; have HB := n4_; clear n0_ n1_ n2_ n3_ n4_ hb ho62
                  refine hK.out _ _ ⟨((HB.out.cell (World.block_lt_of_cell? w _ hw300_0)).trans hw300_0), ((HB.out.cell (World.block_lt_of_cell? w _ hw300_1)).trans hw300_1), ((HB.out.cell (World.block_lt_of_cell? w _ hw300_2)).trans hw300_2)⟩ (fun hHeld => ?_)
                  clear hK K
                  refine norm_ (a' := ?_) ?_ ?_
                  rotate_left
                  ·show Act.put _ (some 77) _ = _
                   simp only [Act.put, List.setIfInBounds_toArray, List.set_cons_zero, List.set_cons_succ, i64_w, i32_w]
                   rfl
                  refine one_ (i := 2) (N := some 79) #[true, true, true, true, true, true, true, true, false, false] rfl rfl (one_of HT_.out (by kernel_rfl)) (by decide) (fun K hK => ?_)
                  refine Kd.R_append_rows_step k32 (w0 := w) w.heap.size (by rfl) (.tmp 77) (.tmp 78) 22 32 (.agg #[(.string ⟨#[]⟩), (.string ⟨#[]⟩), (.bool false)]) 40 rfl Tryd.underlying22 info32 rfl (by decide) (by omega) v295 y294 l0 _ _ _ (fun k_ => some k_ ≠ (.slice Ao57 y270.length co57 : Value).ownBlock ∧ some k_ ≠ (v302 : Value).ownBlock) (fun _ => False) rfl rfl ?aO ?aR (fun _ _ h => h) (fun _ h => h.elim) ?aF ?aB ?aS ?aL ?_
                  (case aR => repeat (first | exact (Kd.C_below HR0.out HB.out) | (with_reducible refine Kd.C_alloc ?_ _) | (with_reducible refine Kd.C_drewN ?_ _) | (with_reducible refine Kd.C_drew ?_)))
                  (case aB => exact (wB HB))
                  (case aF => exact (fun k_ hk => ⟨Kd.fresh' (Kd.R_lt (wR HO_7)) k_ hk, Kd.fresh' (Kd.R_lt (wR HO303)) k_ hk⟩))
                  (case aO => exact (by (with_reducible repeat (first | apply Kd.R_alloc | apply Kd.R_drewN | apply Kd.R_drew)); exact Kd.R_mono HO296.out (fun _ hk => ⟨hk.1.2, hk.2⟩)))
                  (case aS => exact (below_size (wB HB)))
                  (case aL => have := LMc51.out; omega)
                  intro v298 w63 ho hb hg hat
                  rw [← Ny297.out] at ho
                  have n0_ := Aside0.mk (Kd.R_after (ok := (fun k_ => some k_ ≠ (v302 : Value).ownBlock)) (by (with_reducible repeat (first | apply Kd.R_alloc | apply Kd.R_drewN | apply Kd.R_drew)); exact Kd.R_mono HO_7.out (fun _ hk => ⟨hk.1.2, hk.2⟩)) hg hat)
                  have n1_ := Aside0.mk (blk_grown (g := gb269) (o := .cells #[.string t262, .string t263, .string t264, .string t265, .bool t266, .int .i64 t267] 26 (0, 0)) (wK BK269) hg (Kd.R_ne HO296.out BK269.out (by decide)))
                  have n2_ := Aside0.mk (Kd.R_after (ok := (fun k_ => some k_ ≠ (.slice Ao57 y270.length co57 : Value).ownBlock)) (by (with_reducible repeat (first | apply Kd.R_alloc | apply Kd.R_drewN | apply Kd.R_drew)); exact Kd.R_mono HO303.out (fun _ hk => ⟨hk.1.2, hk.2⟩)) hg hat)
                  have n3_ := Aside0.mk (hb)
                  have n4_ := Aside0.mk (ho)
                  clear HO_7 BK269 HO303 HB HO296; have HO_7 := n0_; have BK269 := n1_; have HO303 := n2_; have HB := n3_; have HO299 := n4_; clear n0_ n1_ n2_ n3_ n4_ ho hb hg hat
                  refine hK.out _ _ ⟨((HB.out.cell (World.block_lt_of_cell? w _ hw300_0)).trans hw300_0), ((HB.out.cell (World.block_lt_of_cell? w _ hw300_1)).trans hw300_1), ((HB.out.cell (World.block_lt_of_cell? w _ hw300_2)).trans hw300_2)⟩ (fun hHeld => ?_)
                  clear hK K
                  refine norm_ (a' := ?_) ?_ ?_
                  rotate_left
                  ·show Act.put _ (some 79) _ = _
                   simp only [Act.put, List.setIfInBounds_toArray, List.set_cons_zero, List.set_cons_succ, i64_w, i32_w]
                   rfl
                  exact norm_ (by simp only [putAll, Act.put, List.setIfInBounds_toArray, List.set_cons_zero, List.set_cons_succ]) (hCont (v295, v298, v302) _ ⟨hHeld, (by (with_reducible repeat (first | apply Kd.R_alloc | apply Kd.R_drewN | apply Kd.R_drew)); exact Kd.R_mono HO299.out (fun _ hk => ⟨hk.2, hk.1⟩)), (by (with_reducible repeat (first | apply Kd.R_alloc | apply Kd.R_drewN | apply Kd.R_drew)); exact Kd.R_mono HO303.out (fun _ hk => ⟨hk.2, hk.1⟩)), (by (with_reducible repeat (first | apply Kd.R_alloc | apply Kd.R_drewN | apply Kd.R_drew)); exact Kd.R_mono HO_7.out (fun _ hk => ⟨hk.2, hk.1⟩)), (wK BK269), (wB HB)⟩)
                rintro ⟨v295, v298, v302⟩ w64 ⟨hS_, h0_, h1_, h2_, h3_, h4_⟩
                have n0_ : Aside0 (Kd.R k32 32 w64 w.heap.size (fun k_ => some k_ ≠ (v302 : Value).ownBlock ∧ some k_ ≠ (.slice Ao57 y270.length co57 : Value).ownBlock) v298 y297) := ⟨h0_⟩
                have n1_ : Aside0 (Kd.R k32 32 w64 w.heap.size (fun k_ => some k_ ≠ (v298 : Value).ownBlock ∧ some k_ ≠ (.slice Ao57 y270.length co57 : Value).ownBlock) v302 y301) := ⟨h1_⟩
                have n2_ : Aside0 (Kd.R k32 32 w64 w.heap.size (fun k_ => some k_ ≠ (v298 : Value).ownBlock ∧ some k_ ≠ (v302 : Value).ownBlock) (.slice Ao57 y270.length co57) y270) := ⟨h2_⟩
                have n3_ : Aside0 (w64.heap[gb269]? = some (.cells #[.string t262, .string t263, .string t264, .string t265, .bool t266, .int .i64 t267] 26 (0, 0))) := ⟨h3_⟩
                have n4_ : Aside0 (Below w.heap.size w w64) := ⟨h4_⟩
                clear HO_7 BK269 HB h0_ h1_ h2_ h3_ h4_; have HO299 := n0_; have HO303 := n1_; have HO_7 := n2_; have BK269 := n3_; have HB := n4_; clear n0_ n1_ n2_ n3_ n4_
                have hHeld : w64.cell? (ad300.add ((a1).toNat * 3)) = some (.string ((rd_T32 l0 a1).f0)) ∧ w64.cell? ⟨(ad300.add ((a1).toNat * 3)).block, (ad300.add ((a1).toNat * 3)).off + 1, none⟩ = some (.string ((rd_T32 l0 a1).f1)) ∧ w64.cell? ⟨(ad300.add ((a1).toNat * 3)).block, (ad300.add ((a1).toNat * 3)).off + 2, none⟩ = some (.bool ((rd_T32 l0 a1).f2)) := hS_
                obtain ⟨Ao66, co66, eo66⟩ := Kd.R_slice HO303.out
                (first | subst eo66 | (injection eo66 with f1_ f2_ f3_; have f4_ := f1_.symm; have f5_ := f3_.symm; clear f1_ f2_ f3_; subst f4_; subst f5_))
                refine norm_ (a' := ?_) ?_ ?_
                rotate_left
                ·simp only [putAll, Act.put, List.setIfInBounds_toArray, List.set_cons_zero, List.set_cons_succ]
                 rfl
                refine one_ (i := 8) (N := some 85) #[true, true, true, true, true, true, true, true, true, false] rfl rfl (one_of HT_.out (by kernel_rfl)) (by decide) (fun K hK => ?_)
                refine Kd.R_append_rows_step k32 (w0 := w) w.heap.size (by rfl) (.tmp 79) (.tmp 84) 22 32 (.agg #[(.string ⟨#[]⟩), (.string ⟨#[]⟩), (.bool false)]) 40 rfl Tryd.underlying22 info32 rfl (by decide) (by omega) v298 y297 y301 _ _ _ (fun k_ => some k_ ≠ (.slice Ao57 y270.length co57 : Value).ownBlock ∧ some k_ ≠ (.slice Ao66 y301.length co66 : Value).ownBlock) (fun _ => False) rfl rfl ?aO ?aR (fun _ _ h => h) (fun _ h => h.elim) ?aF ?aB ?aS ?aL ?_
                (case aR => repeat (first | exact (Kd.R_reads' HO303.out).2.2 | (with_reducible refine Kd.C_alloc ?_ _) | (with_reducible refine Kd.C_drewN ?_ _) | (with_reducible refine Kd.C_drew ?_)))
                (case aB => exact (wB HB))
                (case aF => exact (fun k_ hk => ⟨Kd.fresh' (Kd.R_lt (wR HO_7)) k_ hk, Kd.fresh' (Kd.R_lt (wR HO303)) k_ hk⟩))
                (case aO => exact (by (with_reducible repeat (first | apply Kd.R_alloc | apply Kd.R_drewN | apply Kd.R_drew)); exact Kd.R_mono HO299.out (fun _ hk => ⟨hk.2, hk.1⟩)))
                (case aS => exact (below_size (wB HB)))
                (case aL => have := LMc54.out; omega)
                intro v305 w65 ho hb hg hat
                rw [← Ny304.out] at ho
                have n0_ := Aside0.mk (Kd.R_after (ok := (fun k_ => some k_ ≠ (.slice Ao66 y301.length co66 : Value).ownBlock)) (by (with_reducible repeat (first | apply Kd.R_alloc | apply Kd.R_drewN | apply Kd.R_drew)); exact Kd.R_mono HO_7.out (fun _ hk => ⟨hk.2, hk.1⟩)) hg hat)
                have n1_ := Aside0.mk (blk_grown (g := gb269) (o := .cells #[.string t262, .string t263, .string t264, .string t265, .bool t266, .int .i64 t267] 26 (0, 0)) (wK BK269) hg (Kd.R_ne HO299.out BK269.out (by decide)))
                have n2_ := Aside0.mk (Kd.R_after (ok := (fun k_ => some k_ ≠ (.slice Ao57 y270.length co57 : Value).ownBlock)) (by (with_reducible repeat (first | apply Kd.R_alloc | apply Kd.R_drewN | apply Kd.R_drew)); exact Kd.R_mono HO303.out (fun _ hk => ⟨hk.2, hk.1⟩)) hg hat)
                have n3_ := Aside0.mk (hb)
                have n4_ := Aside0.mk (ho)
                clear HO_7 BK269 HO303 HB HO299; have HO_7 := n0_; have BK269 := n1_; have HO303 := n2_; have HB := n3_; have HO306 := n4_; clear n0_ n1_ n2_ n3_ n4_ ho hb hg hat
                refine hK.out _ _ ⟨((HB.out.cell (World.block_lt_of_cell? w _ hw300_0)).trans hw300_0), ((HB.out.cell (World.block_lt_of_cell? w _ hw300_1)).trans hw300_1), ((HB.out.cell (World.block_lt_of_cell? w _ hw300_2)).trans hw300_2)⟩ (fun hHeld => ?_)
                clear hK K
                refine norm_ (a' := ?_) ?_ ?_
                rotate_left
                ·show Act.put _ (some 85) _ = _
                 simp only [Act.put, List.setIfInBounds_toArray, List.set_cons_zero, List.set_cons_succ, i64_w, i32_w]
                 rfl
                refine pure_ (i := 9) (N := some 11) (v := ?_) (a' := ?_) #[true, true, true, true, true, true, true, true, true, true] rfl rfl (any_of HT_.out (by kernel_rfl)) (fun _ _ _ h => h) (Or.inl ⟨by rfl, ?_⟩) ?_ ?_
                rotate_left
                ·intro w'
                 go_simp
                 with_reducible rfl
                rotate_left
                ·simp only [Act.put, List.setIfInBounds_toArray, List.set_cons_zero, List.set_cons_succ, i64_w, i32_w]
                 rfl
                refine done_ (done_of HT_.out (by kernel_rfl)) ?_
                obtain ⟨Ao67, co67, eo67⟩ := Kd.R_slice HO306.out
                subst eo67
                try go_wp2_with (first | ((with_reducible refine gate_callee (f := 8) rfl ?_); refine goesL_ (some 88) rfl rfl Tryd.func8 (by kernel_rfl) rfl #[.slice Ao67 y304.length co67] rfl (by (try simp only [List.map_toArray, List.map_cons, List.map_nil]); first | done | rfl | (simp only [List.length_drop, List.length_take]; rfl)) ?_; (with_reducible refine (head_Request.calls _ _ y304 t307 t308 t309 t310 t311 t312 t313 _ ?side1 ?side2 A55.out).mono ?_); (case side1 => repeat (first | exact (Kd.R_reads' HO306.out).2.2 | (with_reducible refine Kd.C_alloc ?_ _) | (with_reducible refine Kd.C_drewN ?_ _) | (with_reducible refine Kd.C_drew ?_))); (case side2 => exact (Kd.R_reads' HO306.out).2.1); rintro e w68 ⟨rfl, hb⟩; refine ⟨_, rfl, ?_⟩; have n0_ := Aside0.mk (Kd.R_below (wR HO_7) hb); have n1_ := Aside0.mk (Kd.R_below (wR HO303) hb); have n2_ := Aside0.mk (Kd.R_below (wR HO306) hb); have n3_ := Aside0.mk (blk_below (g := gb269) (o := .cells #[.string t262, .string t263, .string t264, .string t265, .bool t266, .int .i64 t267] 26 (0, 0)) (wK BK269) hb); have n4_ := Aside0.mk (below_step (wB HB) hb); clear HO_7; clear HO303; clear HO306; clear BK269; clear HB; have HO_7 := n0_; have HO303 := n1_; have HO306 := n2_; have BK269 := n3_; have HB := n4_; clear n0_ n1_ n2_ n3_ n4_; (try clear hb); (try clear hb2); (try clear hk); (try clear hi)) | ((with_reducible refine gate_dst (N := 12) rfl ?_); (try (refine gate_guard (by rfl) ?_; dsimp only)); refine box_event ?hg (N := 12) ?hd (cs := #[.string (⟨#[]⟩ : ByteArray), .string (⟨#[]⟩ : ByteArray), .string (⟨#[]⟩ : ByteArray), .string (⟨#[]⟩ : ByteArray), .bool false, .int .i64 0]) (t := 26) ?hr ?_; (case hd => rfl); (case hg => rfl); (case hr => first | (go_simp; done) | (go_simp; rfl)); intro gb314 hg w69 hbox hb; have n0_ := Aside0.mk (Kd.R_below (wR HO_7) hb); have n1_ := Aside0.mk (Kd.R_below (wR HO303) hb); have n2_ := Aside0.mk (Kd.R_below (wR HO306) hb); have n3_ := Aside0.mk (blk_below (g := gb269) (o := .cells #[.string t262, .string t263, .string t264, .string t265, .bool t266, .int .i64 t267] 26 (0, 0)) (wK BK269) hb); have n4_ := Aside0.mk (below_step (wB HB) hb); have n5_ := Aside0.mk (hbox); have n6_ := Aside0.mk ((by rw [hg]; exact (below_size (wB HB)) : w.heap.size ≤ gb314)); have n7_ := Aside0.mk ((by rw [hg]; exact (below_size (wB HB)) : w.heap.size ≤ gb314)); have n8_ := Aside0.mk ((by rw [hg]; exact Nat.ne_of_lt (blk_lt (g := gb269) (o := .cells #[.string t262, .string t263, .string t264, .string t265, .bool t266, .int .i64 t267] 26 (0, 0)) (wK BK269)) : gb269 ≠ gb314)); have n9_ := Aside0.mk ((by rw [hg]; exact Nat.ne_of_gt (blk_lt (g := gb269) (o := .cells #[.string t262, .string t263, .string t264, .string t265, .bool t266, .int .i64 t267] 26 (0, 0)) (wK BK269)) : gb314 ≠ gb269)); clear HO_7; clear HO303; clear HO306; clear BK269; clear HB; have HO_7 := n0_; have HO303 := n1_; have HO306 := n2_; have BK269 := n3_; have HB := n4_; have BK314 := n5_; have GW314 := n6_; have GE314 := n7_; have NB269_314 := n8_; have NB314_269 := n9_; clear n0_ n1_ n2_ n3_ n4_ n5_ n6_ n7_ n8_ n9_; clear hb hbox hg; have hnb70 := NB314_269.out; have hnc70 := NB269_314.out; have hcz71_0 : w69.cell? ⟨gb314, 0, none⟩ = some (.string (⟨#[]⟩ : ByteArray)) := (blk_cell BK314.out 0).trans rfl; have hcz71_1 : w69.cell? ⟨gb314, 1, none⟩ = some (.string (⟨#[]⟩ : ByteArray)) := (blk_cell BK314.out 1).trans rfl; have hcz71_2 : w69.cell? ⟨gb314, 2, none⟩ = some (.string (⟨#[]⟩ : ByteArray)) := (blk_cell BK314.out 2).trans rfl; have hcz71_3 : w69.cell? ⟨gb314, 3, none⟩ = some (.string (⟨#[]⟩ : ByteArray)) := (blk_cell BK314.out 3).trans rfl; have hcz71_4 : w69.cell? ⟨gb314, 4, none⟩ = some (.bool false) := (blk_cell BK314.out 4).trans rfl; have hcz71_5 : w69.cell? ⟨gb314, 5, none⟩ = some (.int .i64 0) := (blk_cell BK314.out 5).trans rfl; have hfz71_0 := blk_frozen BK314.out 0; have hfz71_1 := blk_frozen BK314.out 1; have hfz71_2 := blk_frozen BK314.out 2; have hfz71_3 := blk_frozen BK314.out 3; have hfz71_4 := blk_frozen BK314.out 4; have hfz71_5 := blk_frozen BK314.out 5; have p315 : 0 ≤ (a1 : Int) := of_decide_eq_true (by first | (with_reducible assumption) | assumption); have q315 : a1 < (l0.length : Int) := of_decide_eq_true (by first | (with_reducible assumption) | assumption); obtain ⟨ad315, e315, hx315_0, hx315_1, hx315_2⟩ := at_T32 HR0.out a1 p315 q315; obtain rfl : ad300 = ad315 := (by injection e315); have hn315_0 : ad300.block ≠ gb314 := Nat.ne_of_lt (Nat.lt_of_lt_of_le (by have := World.block_lt_of_cell? _ _ hx315_0; first | rwa [add_block] at this | exact this) GW314.out); have hn315_1 : ad300.block ≠ gb314 := Nat.ne_of_lt (Nat.lt_of_lt_of_le (by have := World.block_lt_of_cell? _ _ hx315_0; first | rwa [add_block] at this | exact this) GW314.out); have hn315_2 : ad300.block ≠ gb314 := Nat.ne_of_lt (Nat.lt_of_lt_of_le (by have := World.block_lt_of_cell? _ _ hx315_0; first | rwa [add_block] at this | exact this) GW314.out); have hn315_3 : ad300.block ≠ gb314 := Nat.ne_of_lt (Nat.lt_of_lt_of_le (by have := World.block_lt_of_cell? _ _ hx315_0; first | rwa [add_block] at this | exact this) GW314.out); have hn315_4 : ad300.block ≠ gb314 := Nat.ne_of_lt (Nat.lt_of_lt_of_le (by have := World.block_lt_of_cell? _ _ hx315_0; first | rwa [add_block] at this | exact this) GW314.out); have hn315_5 : ad300.block ≠ gb314 := Nat.ne_of_lt (Nat.lt_of_lt_of_le (by have := World.block_lt_of_cell? _ _ hx315_0; first | rwa [add_block] at this | exact this) GW314.out); replace hx315_0 := (HB.out.cell (World.block_lt_of_cell? w _ hx315_0)).trans hx315_0; replace hx315_1 := (HB.out.cell (World.block_lt_of_cell? w _ hx315_1)).trans hx315_1; replace hx315_2 := (HB.out.cell (World.block_lt_of_cell? w _ hx315_2)).trans hx315_2; replace hx315_0 := (cell_far (p := ⟨gb314, 0, none⟩) (by first | (rw [add_block]; exact hn315_0) | (show (Addr.add _ _).block ≠ _; rw [add_block]; exact hn315_0) | exact hn315_0) (.string t307)).trans hx315_0; replace hx315_1 := (cell_far (p := ⟨gb314, 0, none⟩) (by first | (rw [add_block]; exact hn315_0) | (show (Addr.add _ _).block ≠ _; rw [add_block]; exact hn315_0) | exact hn315_0) (.string t307)).trans hx315_1; replace hx315_2 := (cell_far (p := ⟨gb314, 0, none⟩) (by first | (rw [add_block]; exact hn315_0) | (show (Addr.add _ _).block ≠ _; rw [add_block]; exact hn315_0) | exact hn315_0) (.string t307)).trans hx315_2; replace hx315_0 := (cell_far (p := ⟨gb314, 1, none⟩) (by first | (rw [add_block]; exact hn315_1) | (show (Addr.add _ _).block ≠ _; rw [add_block]; exact hn315_1) | exact hn315_1) (.string t308)).trans hx315_0; replace hx315_1 := (cell_far (p := ⟨gb314, 1, none⟩) (by first | (rw [add_block]; exact hn315_1) | (show (Addr.add _ _).block ≠ _; rw [add_block]; exact hn315_1) | exact hn315_1) (.string t308)).trans hx315_1; replace hx315_2 := (cell_far (p := ⟨gb314, 1, none⟩) (by first | (rw [add_block]; exact hn315_1) | (show (Addr.add _ _).block ≠ _; rw [add_block]; exact hn315_1) | exact hn315_1) (.string t308)).trans hx315_2; replace hx315_0 := (cell_far (p := ⟨gb314, 2, none⟩) (by first | (rw [add_block]; exact hn315_2) | (show (Addr.add _ _).block ≠ _; rw [add_block]; exact hn315_2) | exact hn315_2) (.string t309)).trans hx315_0; replace hx315_1 := (cell_far (p := ⟨gb314, 2, none⟩) (by first | (rw [add_block]; exact hn315_2) | (show (Addr.add _ _).block ≠ _; rw [add_block]; exact hn315_2) | exact hn315_2) (.string t309)).trans hx315_1; replace hx315_2 := (cell_far (p := ⟨gb314, 2, none⟩) (by first | (rw [add_block]; exact hn315_2) | (show (Addr.add _ _).block ≠ _; rw [add_block]; exact hn315_2) | exact hn315_2) (.string t309)).trans hx315_2; replace hx315_0 := (cell_far (p := ⟨gb314, 3, none⟩) (by first | (rw [add_block]; exact hn315_3) | (show (Addr.add _ _).block ≠ _; rw [add_block]; exact hn315_3) | exact hn315_3) (.string t310)).trans hx315_0; replace hx315_1 := (cell_far (p := ⟨gb314, 3, none⟩) (by first | (rw [add_block]; exact hn315_3) | (show (Addr.add _ _).block ≠ _; rw [add_block]; exact hn315_3) | exact hn315_3) (.string t310)).trans hx315_1; replace hx315_2 := (cell_far (p := ⟨gb314, 3, none⟩) (by first | (rw [add_block]; exact hn315_3) | (show (Addr.add _ _).block ≠ _; rw [add_block]; exact hn315_3) | exact hn315_3) (.string t310)).trans hx315_2; replace hx315_0 := (cell_far (p := ⟨gb314, 4, none⟩) (by first | (rw [add_block]; exact hn315_4) | (show (Addr.add _ _).block ≠ _; rw [add_block]; exact hn315_4) | exact hn315_4) (.bool t311)).trans hx315_0; replace hx315_1 := (cell_far (p := ⟨gb314, 4, none⟩) (by first | (rw [add_block]; exact hn315_4) | (show (Addr.add _ _).block ≠ _; rw [add_block]; exact hn315_4) | exact hn315_4) (.bool t311)).trans hx315_1; replace hx315_2 := (cell_far (p := ⟨gb314, 4, none⟩) (by first | (rw [add_block]; exact hn315_4) | (show (Addr.add _ _).block ≠ _; rw [add_block]; exact hn315_4) | exact hn315_4) (.bool t311)).trans hx315_2; replace hx315_0 := (cell_far (p := ⟨gb314, 5, none⟩) (by first | (rw [add_block]; exact hn315_5) | (show (Addr.add _ _).block ≠ _; rw [add_block]; exact hn315_5) | exact hn315_5) (.int .i64 t312)).trans hx315_0; replace hx315_1 := (cell_far (p := ⟨gb314, 5, none⟩) (by first | (rw [add_block]; exact hn315_5) | (show (Addr.add _ _).block ≠ _; rw [add_block]; exact hn315_5) | exact hn315_5) (.int .i64 t312)).trans hx315_1; replace hx315_2 := (cell_far (p := ⟨gb314, 5, none⟩) (by first | (rw [add_block]; exact hn315_5) | (show (Addr.add _ _).block ≠ _; rw [add_block]; exact hn315_5) | exact hn315_5) (.int .i64 t312)).trans hx315_2; clear hn315_0; clear hn315_1; clear hn315_2; clear hn315_3; clear hn315_4; clear hn315_5; replace p315 := eq_true p315; replace q315 := eq_true q315))
                go_ret
                exact ⟨by first | rfl | (simp [errW_none, errW_some] <;> rfl) | (simp [*, errW_none, errW_some] <;> rfl), by repeat (first | (with_reducible first | exact HB.out | apply below_alloc | apply pw_below_drewN | apply below_drew1 | refine below_set ?_ GE269.out | refine below_set ?_ GE314.out) | exact HB.out)⟩
               ·rw [if_neg c56] at H
                have c56b0 : (t313 == 100) = false := beq_eq_false_iff_ne.mpr c56
                have c56b1 : (t313 != 100) = true := bne_iff_ne.mpr c56
                by_cases c72 : 0 < (((rd_T32 l0 a1).f0).size : Int)
                ·rw [if_pos c72] at H
                 have c72b0 : decide (0 < (((rd_T32 l0 a1).f0).size : Int)) = true := decide_eq_true c72
                 have c72b1 : decide (0 < ((rd_T32 l0 a1).f0).size) = true := decide_eq_true (by omega)
                 clear c72
                 by_cases c74 : (bt ((rd_T32 l0 a1).f0) 0) = 58
                 ·rw [if_pos c74] at H
                  exact absurd H (by simp)
                 ·rw [if_neg c74] at H
                  have c74b0 : ((bt ((rd_T32 l0 a1).f0) 0) == 58) = false := beq_eq_false_iff_ne.mpr c74
                  have c74b1 : ((bt ((rd_T32 l0 a1).f0) 0) != 58) = true := bne_iff_ne.mpr c74
                  by_cases c75 : ((rd_T32 l0 a1).f0).toList = ([99, 111, 110, 116, 101, 110, 116, 45, 108, 101, 110, 103, 116, 104] : List UInt8)
                  ·rw [if_pos c75] at H
                   exact absurd H (by simp)
                  ·rw [if_neg c75] at H
                   have c75b0 : (((rd_T32 l0 a1).f0).toList == ([99, 111, 110, 116, 101, 110, 116, 45, 108, 101, 110, 103, 116, 104] : List UInt8)) = false := beq_eq_false_iff_ne.mpr c75
                   have c75b1 : (((rd_T32 l0 a1).f0).toList != ([99, 111, 110, 116, 101, 110, 116, 45, 108, 101, 110, 103, 116, 104] : List UInt8)) = true := bne_iff_ne.mpr c75
                   obtain rfl := Option.some.inj H
                   obtain ⟨Ao76, co76, eo76⟩ := Kd.R_slice HO_7.out
                   subst eo76
                   try go_wp2
                   have n0_ := Aside0.mk (Kd.R_drew HO_7.out)
                   have n1_ := Aside0.mk (blk_drew BK269.out)
                   have n2_ := Aside0.mk (below_drew1 HB.out)
                   clear HO_7 BK269 HB; have HO_7 := n0_; have BK269 := n1_; have HB := n2_; clear n0_ n1_ n2_
                   have p300 : 0 ≤ (a1 : Int) := of_decide_eq_true (by first | (with_reducible assumption) | assumption)
                   have q300 : a1 < (l0.length : Int) := of_decide_eq_true (by first | (with_reducible assumption) | assumption)
                   obtain ⟨ad300, e300, hx300_0, hx300_1, hx300_2⟩ := at_T32 HR0.out a1 p300 q300
                   have hw300_2 := hx300_2; have hw300_1 := hx300_1; have hw300_0 := hx300_0
                   cases e300
                   replace hx300_0 := (HB.out.cell (World.block_lt_of_cell? w _ hx300_0)).trans hx300_0
                   replace hx300_1 := (HB.out.cell (World.block_lt_of_cell? w _ hx300_1)).trans hx300_1
                   replace hx300_2 := (HB.out.cell (World.block_lt_of_cell? w _ hx300_2)).trans hx300_2
                   replace p300 := eq_true p300
                   replace q300 := eq_true q300
                   refine start_ (n := 10) (S := fun w' => w'.cell? (ad300.add ((a1).toNat * 3)) = some (.string ((rd_T32 l0 a1).f0)) ∧ w'.cell? ⟨(ad300.add ((a1).toNat * 3)).block, (ad300.add ((a1).toNat * 3)).off + 1, none⟩ = some (.string ((rd_T32 l0 a1).f1)) ∧ w'.cell? ⟨(ad300.add ((a1).toNat * 3)).block, (ad300.add ((a1).toNat * 3)).off + 2, none⟩ = some (.bool ((rd_T32 l0 a1).f2))) (ds := []) #[false, false, false, false, false, false, false, false, false, false] (by kernel_rfl) rfl rfl ⟨((HB.out.cell (World.block_lt_of_cell? w _ hw300_0)).trans hw300_0), ((HB.out.cell (World.block_lt_of_cell? w _ hw300_1)).trans hw300_1), ((HB.out.cell (World.block_lt_of_cell? w _ hw300_2)).trans hw300_2)⟩ (fun hHeld => ?_); refine with_tabW HW.tab17 HW.bits17 (fun HT_ HW_ => ?_)
                   generalize wr.drew = w77 at HO_7 BK269 HB hx300_0 hx300_1 hx300_2 hHeld ⊢
                   refine pure_ (i := 1) (N := some 78) (v := ?_) (a' := ?_) #[false, true, false, false, false, false, false, false, false, false] rfl rfl (any_of HT_.out (by kernel_rfl)) (fun _ _ _ h => h) (Or.inl ⟨by rfl, ?_⟩) ?_ ?_
                   rotate_left
                   ·intro w'
                    go_simp
                    with_reducible rfl
                   rotate_left
                   ·simp only [Act.put, List.setIfInBounds_toArray, List.set_cons_zero, List.set_cons_succ, i64_w, i32_w]
                    rfl
                   refine pure_ (i := 3) (N := some 80) (v := ?_) (a' := ?_) #[false, true, false, true, false, false, false, false, false, false] rfl rfl (any_of HT_.out (by kernel_rfl)) (fun _ _ _ h => h) (Or.inl ⟨by rfl, ?_⟩) ?_ ?_
                   rotate_left
                   ·intro w'
                    go_simp
                    with_reducible rfl
                   rotate_left
                   ·simp only [Act.put, List.setIfInBounds_toArray, List.set_cons_zero, List.set_cons_succ, i64_w, i32_w]
                    rfl
                   refine pure_ (i := 4) (N := some 81) (v := ?_) (a' := ?_) #[false, true, false, true, true, false, false, false, false, false] rfl rfl (any_of HT_.out (by kernel_rfl)) (fun _ _ _ h => h) (Or.inl ⟨by rfl, ?_⟩) ?_ ?_
                   rotate_left
                   ·intro w'
                    go_simp
                    with_reducible rfl
                   rotate_left
                   ·simp only [Act.put, List.setIfInBounds_toArray, List.set_cons_zero, List.set_cons_succ, i64_w, i32_w]
                    rfl
                   refine pure_ (i := 5) (N := some 82) (v := ?_) (a' := ?_) #[false, true, false, true, true, true, false, false, false, false] rfl rfl (any_of HT_.out (by kernel_rfl)) (fun _ _ _ h => h) (Or.inl ⟨by rfl, ?_⟩) ?_ ?_
                   rotate_left
                   ·intro w'
                    go_simp
                    with_reducible rfl
                   rotate_left
                   ·simp only [Act.put, List.setIfInBounds_toArray, List.set_cons_zero, List.set_cons_succ, i64_w, i32_w]
                    rfl
                   refine take_ (i := 6) (N := some 83) (v := ?_) (a' := ?_) #[false, true, false, true, true, true, true, false, false, false] rfl rfl (take_ofW HT_.out HW_.out (by kernel_rfl)) (fun _ _ _ h => h) (Or.inl ⟨by rfl, ?_⟩) hHeld ?_ ?_
                   rotate_left
                   ·rintro w' ⟨s0, s1, s2⟩
                    go_simp
                    with_reducible rfl
                   rotate_left
                   ·simp only [Act.put, List.setIfInBounds_toArray, List.set_cons_zero, List.set_cons_succ, i64_w, i32_w]
                    rfl
                   refine join_ (σ := Value × Value × Value) 2 #[true, true, true, true, true, true, true, true, false, false] (fun s_ => [(77, s_.1), (79, s_.2.1), (84, s_.2.2)]) (fun s_ w' => (w'.cell? (ad300.add ((a1).toNat * 3)) = some (.string ((rd_T32 l0 a1).f0)) ∧ w'.cell? ⟨(ad300.add ((a1).toNat * 3)).block, (ad300.add ((a1).toNat * 3)).off + 1, none⟩ = some (.string ((rd_T32 l0 a1).f1)) ∧ w'.cell? ⟨(ad300.add ((a1).toNat * 3)).block, (ad300.add ((a1).toNat * 3)).off + 2, none⟩ = some (.bool ((rd_T32 l0 a1).f2))) ∧ (Kd.R k32 32 w' w.heap.size (fun k_ => some k_ ≠ (s_.2.2 : Value).ownBlock ∧ some k_ ≠ (.slice Ao76 y270.length co76 : Value).ownBlock) s_.2.1 y297) ∧ (Kd.R k32 32 w' w.heap.size (fun k_ => some k_ ≠ (s_.2.1 : Value).ownBlock ∧ some k_ ≠ (.slice Ao76 y270.length co76 : Value).ownBlock) s_.2.2 y301) ∧ (Kd.R k32 32 w' w.heap.size (fun k_ => some k_ ≠ (s_.2.1 : Value).ownBlock ∧ some k_ ≠ (s_.2.2 : Value).ownBlock) (.slice Ao76 y270.length co76) y270) ∧ (w'.heap[gb269]? = some (.cells #[.string t262, .string t263, .string t264, .string t265, .bool t266, .int .i64 t267] 26 (0, 0))) ∧ (Below w.heap.size w w')) ?_ ?_
                   rotate_left
                   ·intro hCont
                    refine two_ (i := 0) (j := 7) (Ni := some 77) (Nj := some 84) #[true, true, false, true, true, true, true, false, false, false] #[false, true, false, true, true, true, true, true, false, false] rfl rfl rfl rfl (two_of HT_.out (by kernel_rfl)) (by decide) (by decide) (fun K hK => ?_) (fun K hK => ?_)
                    ·skip
                     refine Kd.R_lit_step k32 _ 32 ?hg (N := 77) ?hd (xs := ([] : List (S32))) (inner := []) (ok := fun _ => True) (okp := fun _ => True) ?hr ?hp (fun _ hk => hk) trivial (Below.refl _ _) (Nat.le_refl _) (by simp) ?_; (case hd => rfl); (case hg => rfl); (case hr => first | (go_simp; done) | (go_simp; rfl)); (case hp => exact (Reps.none _ _))
                     intro v295 w78 ho79 hb hg_ hnew_
                     clear hg_ hnew_
                     (first | rw [← Ny294.out] at ho79 | (simp only [Int.reduceToNat] at ho79; rw [← Ny294.out] at ho79))
                     have n0_ := Aside0.mk (Kd.R_elder' (wR HO_7) (Kd.R_base ho79) hb)
                     have n1_ := Aside0.mk (Kd.R_lower (Kd.R_new' ho79 (Kd.R_lt (wR HO_7))) (below_size (wB HB)))
                     have n2_ := Aside0.mk (blk_below (g := gb269) (o := .cells #[.string t262, .string t263, .string t264, .string t265, .bool t266, .int .i64 t267] 26 (0, 0)) (wK BK269) hb)
                     have n3_ := Aside0.mk (below_step (wB HB) hb)
                     clear HO_7 BK269 HB; have HO_7 := n0_; have HO296 := n1_; have BK269 := n2_; have HB := n3_; clear n0_ n1_ n2_ n3_ hb ho79
                     refine hK.out _ _ ⟨((HB.out.cell (World.block_lt_of_cell? w _ hw300_0)).trans hw300_0), ((HB.out.cell (World.block_lt_of_cell? w _ hw300_1)).trans hw300_1), ((HB.out.cell (World.block_lt_of_cell? w _ hw300_2)).trans hw300_2)⟩ (fun hHeld => ?_)
                     clear hK K
                     refine norm_ (a' := ?_) ?_ ?_
                     rotate_left
                     ·show Act.put _ (some 77) _ = _
                      simp only [Act.put, List.setIfInBounds_toArray, List.set_cons_zero, List.set_cons_succ, i64_w, i32_w]
                      rfl
                     refine two_ (i := 2) (j := 7) (Ni := some 79) (Nj := some 84) #[true, true, true, true, true, true, true, false, false, false] #[true, true, false, true, true, true, true, true, false, false] rfl rfl rfl rfl (two_of HT_.out (by kernel_rfl)) (by decide) (by decide) (fun K hK => ?_) (fun K hK => ?_)
                     ·skip
                      refine Kd.R_append_rows_step k32 (w0 := w) w.heap.size (by rfl) (.tmp 77) (.tmp 78) 22 32 (.agg #[(.string ⟨#[]⟩), (.string ⟨#[]⟩), (.bool false)]) 40 rfl Tryd.underlying22 info32 rfl (by decide) (by omega) v295 y294 l0 _ _ _ (fun k_ => some k_ ≠ (.slice Ao76 y270.length co76 : Value).ownBlock) (fun _ => False) rfl rfl ?aO ?aR (fun _ _ h => h) (fun _ h => h.elim) ?aF ?aB ?aS ?aL ?_
                      (case aR => repeat (first | exact (Kd.C_below HR0.out HB.out) | (with_reducible refine Kd.C_alloc ?_ _) | (with_reducible refine Kd.C_drewN ?_ _) | (with_reducible refine Kd.C_drew ?_)))
                      (case aB => exact (wB HB))
                      (case aF => exact (fun k_ hk => Kd.fresh' (Kd.R_lt (wR HO_7)) k_ hk))
                      (case aO => exact (by (with_reducible repeat (first | apply Kd.R_alloc | apply Kd.R_drewN | apply Kd.R_drew)); exact Kd.R_mono HO296.out (fun _ hk => hk.2)))
                      (case aS => exact (below_size (wB HB)))
                      (case aL => have := LMc51.out; omega)
                      intro v298 w80 ho hb hg hat
                      rw [← Ny297.out] at ho
                      have n0_ := Aside0.mk (Kd.R_after (ok := (fun _ => True)) (wR HO_7) hg hat)
                      have n1_ := Aside0.mk (blk_grown (g := gb269) (o := .cells #[.string t262, .string t263, .string t264, .string t265, .bool t266, .int .i64 t267] 26 (0, 0)) (wK BK269) hg (Kd.R_ne HO296.out BK269.out (by decide)))
                      have n2_ := Aside0.mk (hb)
                      have n3_ := Aside0.mk (ho)
                      clear HO_7 BK269 HB HO296; have HO_7 := n0_; have BK269 := n1_; have HB := n2_; have HO299 := n3_; clear n0_ n1_ n2_ n3_ ho hb hg hat
                      refine hK.out _ _ ⟨((HB.out.cell (World.block_lt_of_cell? w _ hw300_0)).trans hw300_0), ((HB.out.cell (World.block_lt_of_cell? w _ hw300_1)).trans hw300_1), ((HB.out.cell (World.block_lt_of_cell? w _ hw300_2)).trans hw300_2)⟩ (fun hHeld => ?_)
                      clear hK K
                      refine norm_ (a' := ?_) ?_ ?_
                      rotate_left
                      ·show Act.put _ (some 79) _ = _
                       simp only [Act.put, List.setIfInBounds_toArray, List.set_cons_zero, List.set_cons_succ, i64_w, i32_w]
                       rfl
                      refine one_ (i := 7) (N := some 84) #[true, true, true, true, true, true, true, true, false, false] rfl rfl (one_of HT_.out (by kernel_rfl)) (by decide) (fun K hK => ?_)
                      refine Kd.R_lit_step k32 _ 32 ?hg (N := 84) ?hd (xs := ([(⟨(rd_T32 l0 a1).f0, (rd_T32 l0 a1).f1, (rd_T32 l0 a1).f2⟩ : S32)] : List (S32))) (inner := [.string ((rd_T32 l0 a1).f0), .string ((rd_T32 l0 a1).f1), .bool ((rd_T32 l0 a1).f2)]) (ok := fun _ => True) (okp := fun _ => True) ?hr ?hp (fun _ hk => hk) trivial (Below.refl _ _) (Nat.le_refl _) (by simp) ?_; (case hd => rfl); (case hg => rfl); (case hr => first | (go_simp; done) | (go_simp; rfl)); (case hp => exact (Reps.c3 (show Kd.M k32 _ _ _ (⟨(rd_T32 l0 a1).f0, (rd_T32 l0 a1).f1, (rd_T32 l0 a1).f2⟩ : S32) [.string ((rd_T32 l0 a1).f0), .string ((rd_T32 l0 a1).f1), .bool ((rd_T32 l0 a1).f2)] from (k32_mkM _ _ _ (⟨(rd_T32 l0 a1).f0, (rd_T32 l0 a1).f1, (rd_T32 l0 a1).f2⟩ : S32) )) (Reps.none _ _)))
                      intro v302 w81 ho82 hb hg_ hnew_
                      clear hg_ hnew_
                      (first | rw [← Ny301.out] at ho82 | (simp only [Int.reduceToNat] at ho82; rw [← Ny301.out] at ho82))
                      have n0_ := Aside0.mk (Kd.R_elder' (wR HO_7) (Kd.R_base ho82) hb)
                      have n1_ := Aside0.mk (Kd.R_elder' (wR HO299) (Kd.R_base ho82) hb)
                      have n2_ := Aside0.mk (Kd.R_lower (Kd.R_new' (Kd.R_new' ho82 (Kd.R_lt (wR HO_7))) (Kd.R_lt (wR HO299))) (below_size (wB HB)))
                      have n3_ := Aside0.mk (blk_below (g := gb269) (o := .cells #[.string t262, .string t263, .string t264, .string t265, .bool t266, .int .i64 t267] 26 (0, 0)) (wK BK269) hb)
                      have n4_ := Aside0.mk (below_step (wB HB) hb)
                      clear HO_7 HO299 BK269 HB; have HO_7 := n0_; have HO299 := n1_; have HO303 := n2_; have BK269 := n3_; have HB := n4_; clear n0_ n1_ n2_ n3_ n4_ hb ho82
                      refine hK.out _ _ ⟨((HB.out.cell (World.block_lt_of_cell? w _ hw300_0)).trans hw300_0), ((HB.out.cell (World.block_lt_of_cell? w _ hw300_1)).trans hw300_1), ((HB.out.cell (World.block_lt_of_cell? w _ hw300_2)).trans hw300_2)⟩ (fun hHeld => ?_)
                      clear hK K
                      refine norm_ (a' := ?_) ?_ ?_
                      rotate_left
                      ·show Act.put _ (some 84) _ = _
                       simp only [Act.put, List.setIfInBounds_toArray, List.set_cons_zero, List.set_cons_succ, i64_w, i32_w]
                       rfl
                      exact norm_ (by simp only [putAll, Act.put, List.setIfInBounds_toArray, List.set_cons_zero, List.set_cons_succ]) (hCont (v295, v298, v302) _ ⟨hHeld, (by (with_reducible repeat (first | apply Kd.R_alloc | apply Kd.R_drewN | apply Kd.R_drew)); exact Kd.R_mono HO299.out (fun _ hk => ⟨hk.2, hk.1⟩)), (by (with_reducible repeat (first | apply Kd.R_alloc | apply Kd.R_drewN | apply Kd.R_drew)); exact Kd.R_mono HO303.out (fun _ hk => ⟨hk.2, hk.1.2⟩)), (by (with_reducible repeat (first | apply Kd.R_alloc | apply Kd.R_drewN | apply Kd.R_drew)); exact Kd.R_mono HO_7.out (fun _ hk => ⟨hk.1.2, hk.2⟩)), (wK BK269), (wB HB)⟩)
                     ·skip
                      refine Kd.R_lit_step k32 _ 32 ?hg (N := 84) ?hd (xs := ([(⟨(rd_T32 l0 a1).f0, (rd_T32 l0 a1).f1, (rd_T32 l0 a1).f2⟩ : S32)] : List (S32))) (inner := [.string ((rd_T32 l0 a1).f0), .string ((rd_T32 l0 a1).f1), .bool ((rd_T32 l0 a1).f2)]) (ok := fun _ => True) (okp := fun _ => True) ?hr ?hp (fun _ hk => hk) trivial (Below.refl _ _) (Nat.le_refl _) (by simp) ?_; (case hd => rfl); (case hg => rfl); (case hr => first | (go_simp; done) | (go_simp; rfl)); (case hp => exact (Reps.c3 (show Kd.M k32 _ _ _ (⟨(rd_T32 l0 a1).f0, (rd_T32 l0 a1).f1, (rd_T32 l0 a1).f2⟩ : S32) [.string ((rd_T32 l0 a1).f0), .string ((rd_T32 l0 a1).f1), .bool ((rd_T32 l0 a1).f2)] from (k32_mkM _ _ _ (⟨(rd_T32 l0 a1).f0, (rd_T32 l0 a1).f1, (rd_T32 l0 a1).f2⟩ : S32) )) (Reps.none _ _)))
                      intro v302 w80 ho81 hb hg_ hnew_
                      clear hg_ hnew_
                      (first | rw [← Ny301.out] at ho81 | (simp only [Int.reduceToNat] at ho81; rw [← Ny301.out] at ho81))
                      have n0_ := Aside0.mk (Kd.R_elder' (wR HO_7) (Kd.R_base ho81) hb)
                      have n1_ := Aside0.mk (Kd.R_elder' (wR HO296) (Kd.R_base ho81) hb)
                      have n2_ := Aside0.mk (Kd.R_lower (Kd.R_new' (Kd.R_new' ho81 (Kd.R_lt (wR HO_7))) (Kd.R_lt (wR HO296))) (below_size (wB HB)))
                      have n3_ := Aside0.mk (blk_below (g := gb269) (o := .cells #[.string t262, .string t263, .string t264, .string t265, .bool t266, .int .i64 t267] 26 (0, 0)) (wK BK269) hb)
                      have n4_ := Aside0.mk (below_step (wB HB) hb)
                      clear HO_7 HO296 BK269 HB; have HO_7 := n0_; have HO296 := n1_; have HO303 := n2_; have BK269 := n3_; have HB := n4_; clear n0_ n1_ n2_ n3_ n4_ hb ho81
                      refine hK.out _ _ ⟨((HB.out.cell (World.block_lt_of_cell? w _ hw300_0)).trans hw300_0), ((HB.out.cell (World.block_lt_of_cell? w _ hw300_1)).trans hw300_1), ((HB.out.cell (World.block_lt_of_cell? w _ hw300_2)).trans hw300_2)⟩ (fun hHeld => ?_)
                      clear hK K
                      refine norm_ (a' := ?_) ?_ ?_
                      rotate_left
                      ·show Act.put _ (some 84) _ = _
                       simp only [Act.put, List.setIfInBounds_toArray, List.set_cons_zero, List.set_cons_succ, i64_w, i32_w]
                       rfl
                      refine one_ (i := 2) (N := some 79) #[true, true, true, true, true, true, true, true, false, false] rfl rfl (one_of HT_.out (by kernel_rfl)) (by decide) (fun K hK => ?_)
                      refine Kd.R_append_rows_step k32 (w0 := w) w.heap.size (by rfl) (.tmp 77) (.tmp 78) 22 32 (.agg #[(.string ⟨#[]⟩), (.string ⟨#[]⟩), (.bool false)]) 40 rfl Tryd.underlying22 info32 rfl (by decide) (by omega) v295 y294 l0 _ _ _ (fun k_ => some k_ ≠ (.slice Ao76 y270.length co76 : Value).ownBlock ∧ some k_ ≠ (v302 : Value).ownBlock) (fun _ => False) rfl rfl ?aO ?aR (fun _ _ h => h) (fun _ h => h.elim) ?aF ?aB ?aS ?aL ?_
                      (case aR => repeat (first | exact (Kd.C_below HR0.out HB.out) | (with_reducible refine Kd.C_alloc ?_ _) | (with_reducible refine Kd.C_drewN ?_ _) | (with_reducible refine Kd.C_drew ?_)))
                      (case aB => exact (wB HB))
                      (case aF => exact (fun k_ hk => ⟨Kd.fresh' (Kd.R_lt (wR HO_7)) k_ hk, Kd.fresh' (Kd.R_lt (wR HO303)) k_ hk⟩))
                      (case aO => exact (by (with_reducible repeat (first | apply Kd.R_alloc | apply Kd.R_drewN | apply Kd.R_drew)); exact Kd.R_mono HO296.out (fun _ hk => ⟨hk.1.2, hk.2⟩)))
                      (case aS => exact (below_size (wB HB)))
                      (case aL => have := LMc51.out; omega)
                      intro v298 w82 ho hb hg hat
                      rw [← Ny297.out] at ho
                      have n0_ := Aside0.mk (Kd.R_after (ok := (fun k_ => some k_ ≠ (v302 : Value).ownBlock)) (by (with_reducible repeat (first | apply Kd.R_alloc | apply Kd.R_drewN | apply Kd.R_drew)); exact Kd.R_mono HO_7.out (fun _ hk => ⟨hk.2, hk.1.2⟩)) hg hat)
                      have n1_ := Aside0.mk (blk_grown (g := gb269) (o := .cells #[.string t262, .string t263, .string t264, .string t265, .bool t266, .int .i64 t267] 26 (0, 0)) (wK BK269) hg (Kd.R_ne HO296.out BK269.out (by decide)))
                      have n2_ := Aside0.mk (Kd.R_after (ok := (fun k_ => some k_ ≠ (.slice Ao76 y270.length co76 : Value).ownBlock)) (by (with_reducible repeat (first | apply Kd.R_alloc | apply Kd.R_drewN | apply Kd.R_drew)); exact Kd.R_mono HO303.out (fun _ hk => ⟨hk.1.2, hk.2⟩)) hg hat)
                      have n3_ := Aside0.mk (hb)
                      have n4_ := Aside0.mk (ho)
                      clear HO_7 BK269 HO303 HB HO296; have HO_7 := n0_; have BK269 := n1_; have HO303 := n2_; have HB := n3_; have HO299 := n4_; clear n0_ n1_ n2_ n3_ n4_ ho hb hg hat
                      refine hK.out _ _ ⟨((HB.out.cell (World.block_lt_of_cell? w _ hw300_0)).trans hw300_0), ((HB.out.cell (World.block_lt_of_cell? w _ hw300_1)).trans hw300_1), ((HB.out.cell (World.block_lt_of_cell? w _ hw300_2)).trans hw300_2)⟩ (fun hHeld => ?_)
                      clear hK K
                      refine norm_ (a' := ?_) ?_ ?_
                      rotate_left
                      ·show Act.put _ (some 79) _ = _
                       simp only [Act.put, List.setIfInBounds_toArray, List.set_cons_zero, List.set_cons_succ, i64_w, i32_w]
                       rfl
                      exact norm_ (by simp only [putAll, Act.put, List.setIfInBounds_toArray, List.set_cons_zero, List.set_cons_succ]) (hCont (v295, v298, v302) _ ⟨hHeld, (by (with_reducible repeat (first | apply Kd.R_alloc | apply Kd.R_drewN | apply Kd.R_drew)); exact Kd.R_mono HO299.out (fun _ hk => ⟨hk.2, hk.1⟩)), (by (with_reducible repeat (first | apply Kd.R_alloc | apply Kd.R_drewN | apply Kd.R_drew)); exact Kd.R_mono HO303.out (fun _ hk => ⟨hk.2, hk.1⟩)), (by (with_reducible repeat (first | apply Kd.R_alloc | apply Kd.R_drewN | apply Kd.R_drew)); exact Kd.R_mono HO_7.out (fun _ hk => ⟨hk.2, hk.1⟩)), (wK BK269), (wB HB)⟩)
                    ·skip
                     refine Kd.R_lit_step k32 _ 32 ?hg (N := 84) ?hd (xs := ([(⟨(rd_T32 l0 a1).f0, (rd_T32 l0 a1).f1, (rd_T32 l0 a1).f2⟩ : S32)] : List (S32))) (inner := [.string ((rd_T32 l0 a1).f0), .string ((rd_T32 l0 a1).f1), .bool ((rd_T32 l0 a1).f2)]) (ok := fun _ => True) (okp := fun _ => True) ?hr ?hp (fun _ hk => hk) trivial (Below.refl _ _) (Nat.le_refl _) (by simp) ?_; (case hd => rfl); (case hg => rfl); (case hr => first | (go_simp; done) | (go_simp; rfl)); (case hp => exact (Reps.c3 (show Kd.M k32 _ _ _ (⟨(rd_T32 l0 a1).f0, (rd_T32 l0 a1).f1, (rd_T32 l0 a1).f2⟩ : S32) [.string ((rd_T32 l0 a1).f0), .string ((rd_T32 l0 a1).f1), .bool ((rd_T32 l0 a1).f2)] from (k32_mkM _ _ _ (⟨(rd_T32 l0 a1).f0, (rd_T32 l0 a1).f1, (rd_T32 l0 a1).f2⟩ : S32) )) (Reps.none _ _)))
                     intro v302 w78 ho79 hb hg_ hnew_
                     clear hg_ hnew_
                     (first | rw [← Ny301.out] at ho79 | (simp only [Int.reduceToNat] at ho79; rw [← Ny301.out] at ho79))
                     have n0_ := Aside0.mk (Kd.R_elder' (wR HO_7) (Kd.R_base ho79) hb)
                     have n1_ := Aside0.mk (Kd.R_lower (Kd.R_new' ho79 (Kd.R_lt (wR HO_7))) (below_size (wB HB)))
                     have n2_ := Aside0.mk (blk_below (g := gb269) (o := .cells #[.string t262, .string t263, .string t264, .string t265, .bool t266, .int .i64 t267] 26 (0, 0)) (wK BK269) hb)
                     have n3_ := Aside0.mk (below_step (wB HB) hb)
                     clear HO_7 BK269 HB; have HO_7 := n0_; have HO303 := n1_; have BK269 := n2_; have HB := n3_; clear n0_ n1_ n2_ n3_ hb ho79
                     refine hK.out _ _ ⟨((HB.out.cell (World.block_lt_of_cell? w _ hw300_0)).trans hw300_0), ((HB.out.cell (World.block_lt_of_cell? w _ hw300_1)).trans hw300_1), ((HB.out.cell (World.block_lt_of_cell? w _ hw300_2)).trans hw300_2)⟩ (fun hHeld => ?_)
                     clear hK K
                     refine norm_ (a' := ?_) ?_ ?_
                     rotate_left
                     ·show Act.put _ (some 84) _ = _
                      simp only [Act.put, List.setIfInBounds_toArray, List.set_cons_zero, List.set_cons_succ, i64_w, i32_w]
                      rfl
                     refine one_ (i := 0) (N := some 77) #[true, true, false, true, true, true, true, true, false, false] rfl rfl (one_of HT_.out (by kernel_rfl)) (by decide) (fun K hK => ?_)
                     refine Kd.R_lit_step k32 _ 32 ?hg (N := 77) ?hd (xs := ([] : List (S32))) (inner := []) (ok := fun _ => True) (okp := fun _ => True) ?hr ?hp (fun _ hk => hk) trivial (Below.refl _ _) (Nat.le_refl _) (by simp) ?_; (case hd => rfl); (case hg => rfl); (case hr => first | (go_simp; done) | (go_simp; rfl)); (case hp => exact (Reps.none _ _))
                     intro v295 w80 ho81 hb hg_ hnew_
                     clear hg_ hnew_
                     (first | rw [← Ny294.out] at ho81 | (simp only [Int.reduceToNat] at ho81; rw [← Ny294.out] at ho81))
                     have n0_ := Aside0.mk (Kd.R_elder' (wR HO_7) (Kd.R_base ho81) hb)
                     have n1_ := Aside0.mk (Kd.R_elder' (wR HO303) (Kd.R_base ho81) hb)
                     have n2_ := Aside0.mk (Kd.R_lower (Kd.R_new' (Kd.R_new' ho81 (Kd.R_lt (wR HO_7))) (Kd.R_lt (wR HO303))) (below_size (wB HB)))
                     have n3_ := Aside0.mk (blk_below (g := gb269) (o := .cells #[.string t262, .string t263, .string t264, .string t265, .bool t266, .int .i64 t267] 26 (0, 0)) (wK BK269) hb)
                     have n4_ := Aside0.mk (below_step (wB HB) hb)
                     clear HO_7 HO303 BK269 HB; have HO_7 := n0_; have HO303 := n1_; have HO296 := n2_; have BK269 := n3_; have HB := n4_; clear n0_ n1_ n2_ n3_ n4_ hb ho81
                     refine hK.out _ _ ⟨((HB.out.cell (World.block_lt_of_cell? w _ hw300_0)).trans hw300_0), ((HB.out.cell (World.block_lt_of_cell? w _ hw300_1)).trans hw300_1), ((HB.out.cell (World.block_lt_of_cell? w _ hw300_2)).trans hw300_2)⟩ (fun hHeld => ?_)
                     clear hK K
                     refine norm_ (a' := ?_) ?_ ?_
                     rotate_left
                     ·show Act.put _ (some 77) _ = _
                      simp only [Act.put, List.setIfInBounds_toArray, List.set_cons_zero, List.set_cons_succ, i64_w, i32_w]
                      rfl
                     refine one_ (i := 2) (N := some 79) #[true, true, true, true, true, true, true, true, false, false] rfl rfl (one_of HT_.out (by kernel_rfl)) (by decide) (fun K hK => ?_)
                     refine Kd.R_append_rows_step k32 (w0 := w) w.heap.size (by rfl) (.tmp 77) (.tmp 78) 22 32 (.agg #[(.string ⟨#[]⟩), (.string ⟨#[]⟩), (.bool false)]) 40 rfl Tryd.underlying22 info32 rfl (by decide) (by omega) v295 y294 l0 _ _ _ (fun k_ => some k_ ≠ (.slice Ao76 y270.length co76 : Value).ownBlock ∧ some k_ ≠ (v302 : Value).ownBlock) (fun _ => False) rfl rfl ?aO ?aR (fun _ _ h => h) (fun _ h => h.elim) ?aF ?aB ?aS ?aL ?_
                     (case aR => repeat (first | exact (Kd.C_below HR0.out HB.out) | (with_reducible refine Kd.C_alloc ?_ _) | (with_reducible refine Kd.C_drewN ?_ _) | (with_reducible refine Kd.C_drew ?_)))
                     (case aB => exact (wB HB))
                     (case aF => exact (fun k_ hk => ⟨Kd.fresh' (Kd.R_lt (wR HO_7)) k_ hk, Kd.fresh' (Kd.R_lt (wR HO303)) k_ hk⟩))
                     (case aO => exact (by (with_reducible repeat (first | apply Kd.R_alloc | apply Kd.R_drewN | apply Kd.R_drew)); exact Kd.R_mono HO296.out (fun _ hk => ⟨hk.1.2, hk.2⟩)))
                     (case aS => exact (below_size (wB HB)))
                     (case aL => have := LMc51.out; omega)
                     intro v298 w82 ho hb hg hat
                     rw [← Ny297.out] at ho
                     have n0_ := Aside0.mk (Kd.R_after (ok := (fun k_ => some k_ ≠ (v302 : Value).ownBlock)) (by (with_reducible repeat (first | apply Kd.R_alloc | apply Kd.R_drewN | apply Kd.R_drew)); exact Kd.R_mono HO_7.out (fun _ hk => ⟨hk.1.2, hk.2⟩)) hg hat)
                     have n1_ := Aside0.mk (blk_grown (g := gb269) (o := .cells #[.string t262, .string t263, .string t264, .string t265, .bool t266, .int .i64 t267] 26 (0, 0)) (wK BK269) hg (Kd.R_ne HO296.out BK269.out (by decide)))
                     have n2_ := Aside0.mk (Kd.R_after (ok := (fun k_ => some k_ ≠ (.slice Ao76 y270.length co76 : Value).ownBlock)) (by (with_reducible repeat (first | apply Kd.R_alloc | apply Kd.R_drewN | apply Kd.R_drew)); exact Kd.R_mono HO303.out (fun _ hk => ⟨hk.1.2, hk.2⟩)) hg hat)
                     have n3_ := Aside0.mk (hb)
                     have n4_ := Aside0.mk (ho)
                     clear HO_7 BK269 HO303 HB HO296; have HO_7 := n0_; have BK269 := n1_; have HO303 := n2_; have HB := n3_; have HO299 := n4_; clear n0_ n1_ n2_ n3_ n4_ ho hb hg hat
                     refine hK.out _ _ ⟨((HB.out.cell (World.block_lt_of_cell? w _ hw300_0)).trans hw300_0), ((HB.out.cell (World.block_lt_of_cell? w _ hw300_1)).trans hw300_1), ((HB.out.cell (World.block_lt_of_cell? w _ hw300_2)).trans hw300_2)⟩ (fun hHeld => ?_)
                     clear hK K
                     refine norm_ (a' := ?_) ?_ ?_
                     rotate_left
                     ·show Act.put _ (some 79) _ = _
                      simp only [Act.put, List.setIfInBounds_toArray, List.set_cons_zero, List.set_cons_succ, i64_w, i32_w]
                      rfl
                     exact norm_ (by simp only [putAll, Act.put, List.setIfInBounds_toArray, List.set_cons_zero, List.set_cons_succ]) (hCont (v295, v298, v302) _ ⟨hHeld, (by (with_reducible repeat (first | apply Kd.R_alloc | apply Kd.R_drewN | apply Kd.R_drew)); exact Kd.R_mono HO299.out (fun _ hk => ⟨hk.2, hk.1⟩)), (by (with_reducible repeat (first | apply Kd.R_alloc | apply Kd.R_drewN | apply Kd.R_drew)); exact Kd.R_mono HO303.out (fun _ hk => ⟨hk.2, hk.1⟩)), (by (with_reducible repeat (first | apply Kd.R_alloc | apply Kd.R_drewN | apply Kd.R_drew)); exact Kd.R_mono HO_7.out (fun _ hk => ⟨hk.2, hk.1⟩)), (wK BK269), (wB HB)⟩)
                   rintro ⟨v295, v298, v302⟩ w83 ⟨hS_, h0_, h1_, h2_, h3_, h4_⟩
                   have n0_ : Aside0 (Kd.R k32 32 w83 w.heap.size (fun k_ => some k_ ≠ (v302 : Value).ownBlock ∧ some k_ ≠ (.slice Ao76 y270.length co76 : Value).ownBlock) v298 y297) := ⟨h0_⟩
                   have n1_ : Aside0 (Kd.R k32 32 w83 w.heap.size (fun k_ => some k_ ≠ (v298 : Value).ownBlock ∧ some k_ ≠ (.slice Ao76 y270.length co76 : Value).ownBlock) v302 y301) := ⟨h1_⟩
                   have n2_ : Aside0 (Kd.R k32 32 w83 w.heap.size (fun k_ => some k_ ≠ (v298 : Value).ownBlock ∧ some k_ ≠ (v302 : Value).ownBlock) (.slice Ao76 y270.length co76) y270) := ⟨h2_⟩
                   have n3_ : Aside0 (w83.heap[gb269]? = some (.cells #[.string t262, .string t263, .string t264, .string t265, .bool t266, .int .i64 t267] 26 (0, 0))) := ⟨h3_⟩
                   have n4_ : Aside0 (Below w.heap.size w w83) := ⟨h4_⟩
                   clear HO_7 BK269 HB h0_ h1_ h2_ h3_ h4_; have HO299 := n0_; have HO303 := n1_; have HO_7 := n2_; have BK269 := n3_; have HB := n4_; clear n0_ n1_ n2_ n3_ n4_
                   have hHeld : w83.cell? (ad300.add ((a1).toNat * 3)) = some (.string ((rd_T32 l0 a1).f0)) ∧ w83.cell? ⟨(ad300.add ((a1).toNat * 3)).block, (ad300.add ((a1).toNat * 3)).off + 1, none⟩ = some (.string ((rd_T32 l0 a1).f1)) ∧ w83.cell? ⟨(ad300.add ((a1).toNat * 3)).block, (ad300.add ((a1).toNat * 3)).off + 2, none⟩ = some (.bool ((rd_T32 l0 a1).f2)) := hS_
                   obtain ⟨Ao85, co85, eo85⟩ := Kd.R_slice HO303.out
                   (first | subst eo85 | (injection eo85 with f1_ f2_ f3_; have f4_ := f1_.symm; have f5_ := f3_.symm; clear f1_ f2_ f3_; subst f4_; subst f5_))
                   refine norm_ (a' := ?_) ?_ ?_
                   rotate_left
                   ·simp only [putAll, Act.put, List.setIfInBounds_toArray, List.set_cons_zero, List.set_cons_succ]
                    rfl
                   refine one_ (i := 8) (N := some 85) #[true, true, true, true, true, true, true, true, true, false] rfl rfl (one_of HT_.out (by kernel_rfl)) (by decide) (fun K hK => ?_)
                   refine Kd.R_append_rows_step k32 (w0 := w) w.heap.size (by rfl) (.tmp 79) (.tmp 84) 22 32 (.agg #[(.string ⟨#[]⟩), (.string ⟨#[]⟩), (.bool false)]) 40 rfl Tryd.underlying22 info32 rfl (by decide) (by omega) v298 y297 y301 _ _ _ (fun k_ => some k_ ≠ (.slice Ao76 y270.length co76 : Value).ownBlock ∧ some k_ ≠ (.slice Ao85 y301.length co85 : Value).ownBlock) (fun _ => False) rfl rfl ?aO ?aR (fun _ _ h => h) (fun _ h => h.elim) ?aF ?aB ?aS ?aL ?_
                   (case aR => repeat (first | exact (Kd.R_reads' HO303.out).2.2 | (with_reducible refine Kd.C_alloc ?_ _) | (with_reducible refine Kd.C_drewN ?_ _) | (with_reducible refine Kd.C_drew ?_)))
                   (case aB => exact (wB HB))
                   (case aF => exact (fun k_ hk => ⟨Kd.fresh' (Kd.R_lt (wR HO_7)) k_ hk, Kd.fresh' (Kd.R_lt (wR HO303)) k_ hk⟩))
                   (case aO => exact (by (with_reducible repeat (first | apply Kd.R_alloc | apply Kd.R_drewN | apply Kd.R_drew)); exact Kd.R_mono HO299.out (fun _ hk => ⟨hk.2, hk.1⟩)))
                   (case aS => exact (below_size (wB HB)))
                   (case aL => have := LMc54.out; omega)
                   intro v305 w84 ho hb hg hat
                   rw [← Ny304.out] at ho
                   have n0_ := Aside0.mk (Kd.R_after (ok := (fun k_ => some k_ ≠ (.slice Ao85 y301.length co85 : Value).ownBlock)) (by (with_reducible repeat (first | apply Kd.R_alloc | apply Kd.R_drewN | apply Kd.R_drew)); exact Kd.R_mono HO_7.out (fun _ hk => ⟨hk.2, hk.1⟩)) hg hat)
                   have n1_ := Aside0.mk (blk_grown (g := gb269) (o := .cells #[.string t262, .string t263, .string t264, .string t265, .bool t266, .int .i64 t267] 26 (0, 0)) (wK BK269) hg (Kd.R_ne HO299.out BK269.out (by decide)))
                   have n2_ := Aside0.mk (Kd.R_after (ok := (fun k_ => some k_ ≠ (.slice Ao76 y270.length co76 : Value).ownBlock)) (by (with_reducible repeat (first | apply Kd.R_alloc | apply Kd.R_drewN | apply Kd.R_drew)); exact Kd.R_mono HO303.out (fun _ hk => ⟨hk.2, hk.1⟩)) hg hat)
                   have n3_ := Aside0.mk (hb)
                   have n4_ := Aside0.mk (ho)
                   clear HO_7 BK269 HO303 HB HO299; have HO_7 := n0_; have BK269 := n1_; have HO303 := n2_; have HB := n3_; have HO306 := n4_; clear n0_ n1_ n2_ n3_ n4_ ho hb hg hat
                   refine hK.out _ _ ⟨((HB.out.cell (World.block_lt_of_cell? w _ hw300_0)).trans hw300_0), ((HB.out.cell (World.block_lt_of_cell? w _ hw300_1)).trans hw300_1), ((HB.out.cell (World.block_lt_of_cell? w _ hw300_2)).trans hw300_2)⟩ (fun hHeld => ?_)
                   clear hK K
                   refine norm_ (a' := ?_) ?_ ?_
                   rotate_left
                   ·show Act.put _ (some 85) _ = _
                    simp only [Act.put, List.setIfInBounds_toArray, List.set_cons_zero, List.set_cons_succ, i64_w, i32_w]
                    rfl
                   refine pure_ (i := 9) (N := some 11) (v := ?_) (a' := ?_) #[true, true, true, true, true, true, true, true, true, true] rfl rfl (any_of HT_.out (by kernel_rfl)) (fun _ _ _ h => h) (Or.inl ⟨by rfl, ?_⟩) ?_ ?_
                   rotate_left
                   ·intro w'
                    go_simp
                    with_reducible rfl
                   rotate_left
                   ·simp only [Act.put, List.setIfInBounds_toArray, List.set_cons_zero, List.set_cons_succ, i64_w, i32_w]
                    rfl
                   refine done_ (done_of HT_.out (by kernel_rfl)) ?_
                   obtain ⟨Ao86, co86, eo86⟩ := Kd.R_slice HO306.out
                   subst eo86
                   try go_wp2_with (first | ((with_reducible refine gate_callee (f := 8) rfl ?_); refine goesL_ (some 88) rfl rfl Tryd.func8 (by kernel_rfl) rfl #[.slice Ao86 y304.length co86] rfl (by (try simp only [List.map_toArray, List.map_cons, List.map_nil]); first | done | rfl | (simp only [List.length_drop, List.length_take]; rfl)) ?_; (with_reducible refine (head_Request.calls _ _ y304 t307 t308 t309 t310 t311 t312 t313 _ ?side1 ?side2 A55.out).mono ?_); (case side1 => repeat (first | exact (Kd.R_reads' HO306.out).2.2 | (with_reducible refine Kd.C_alloc ?_ _) | (with_reducible refine Kd.C_drewN ?_ _) | (with_reducible refine Kd.C_drew ?_))); (case side2 => exact (Kd.R_reads' HO306.out).2.1); rintro e w87 ⟨rfl, hb⟩; refine ⟨_, rfl, ?_⟩; have n0_ := Aside0.mk (Kd.R_below (wR HO_7) hb); have n1_ := Aside0.mk (Kd.R_below (wR HO303) hb); have n2_ := Aside0.mk (Kd.R_below (wR HO306) hb); have n3_ := Aside0.mk (blk_below (g := gb269) (o := .cells #[.string t262, .string t263, .string t264, .string t265, .bool t266, .int .i64 t267] 26 (0, 0)) (wK BK269) hb); have n4_ := Aside0.mk (below_step (wB HB) hb); clear HO_7; clear HO303; clear HO306; clear BK269; clear HB; have HO_7 := n0_; have HO303 := n1_; have HO306 := n2_; have BK269 := n3_; have HB := n4_; clear n0_ n1_ n2_ n3_ n4_; (try clear hb); (try clear hb2); (try clear hk); (try clear hi)) | ((with_reducible refine gate_dst (N := 12) rfl ?_); (try (refine gate_guard (by rfl) ?_; dsimp only)); refine box_event ?hg (N := 12) ?hd (cs := #[.string (⟨#[]⟩ : ByteArray), .string (⟨#[]⟩ : ByteArray), .string (⟨#[]⟩ : ByteArray), .string (⟨#[]⟩ : ByteArray), .bool false, .int .i64 0]) (t := 26) ?hr ?_; (case hd => rfl); (case hg => rfl); (case hr => first | (go_simp; done) | (go_simp; rfl)); intro gb314 hg w88 hbox hb; have n0_ := Aside0.mk (Kd.R_below (wR HO_7) hb); have n1_ := Aside0.mk (Kd.R_below (wR HO303) hb); have n2_ := Aside0.mk (Kd.R_below (wR HO306) hb); have n3_ := Aside0.mk (blk_below (g := gb269) (o := .cells #[.string t262, .string t263, .string t264, .string t265, .bool t266, .int .i64 t267] 26 (0, 0)) (wK BK269) hb); have n4_ := Aside0.mk (below_step (wB HB) hb); have n5_ := Aside0.mk (hbox); have n6_ := Aside0.mk ((by rw [hg]; exact (below_size (wB HB)) : w.heap.size ≤ gb314)); have n7_ := Aside0.mk ((by rw [hg]; exact (below_size (wB HB)) : w.heap.size ≤ gb314)); have n8_ := Aside0.mk ((by rw [hg]; exact Nat.ne_of_lt (blk_lt (g := gb269) (o := .cells #[.string t262, .string t263, .string t264, .string t265, .bool t266, .int .i64 t267] 26 (0, 0)) (wK BK269)) : gb269 ≠ gb314)); have n9_ := Aside0.mk ((by rw [hg]; exact Nat.ne_of_gt (blk_lt (g := gb269) (o := .cells #[.string t262, .string t263, .string t264, .string t265, .bool t266, .int .i64 t267] 26 (0, 0)) (wK BK269)) : gb314 ≠ gb269)); clear HO_7; clear HO303; clear HO306; clear BK269; clear HB; have HO_7 := n0_; have HO303 := n1_; have HO306 := n2_; have BK269 := n3_; have HB := n4_; have BK314 := n5_; have GW314 := n6_; have GE314 := n7_; have NB269_314 := n8_; have NB314_269 := n9_; clear n0_ n1_ n2_ n3_ n4_ n5_ n6_ n7_ n8_ n9_; clear hb hbox hg; have hnb89 := NB314_269.out; have hnc89 := NB269_314.out; have hcz90_0 : w88.cell? ⟨gb314, 0, none⟩ = some (.string (⟨#[]⟩ : ByteArray)) := (blk_cell BK314.out 0).trans rfl; have hcz90_1 : w88.cell? ⟨gb314, 1, none⟩ = some (.string (⟨#[]⟩ : ByteArray)) := (blk_cell BK314.out 1).trans rfl; have hcz90_2 : w88.cell? ⟨gb314, 2, none⟩ = some (.string (⟨#[]⟩ : ByteArray)) := (blk_cell BK314.out 2).trans rfl; have hcz90_3 : w88.cell? ⟨gb314, 3, none⟩ = some (.string (⟨#[]⟩ : ByteArray)) := (blk_cell BK314.out 3).trans rfl; have hcz90_4 : w88.cell? ⟨gb314, 4, none⟩ = some (.bool false) := (blk_cell BK314.out 4).trans rfl; have hcz90_5 : w88.cell? ⟨gb314, 5, none⟩ = some (.int .i64 0) := (blk_cell BK314.out 5).trans rfl; have hfz90_0 := blk_frozen BK314.out 0; have hfz90_1 := blk_frozen BK314.out 1; have hfz90_2 := blk_frozen BK314.out 2; have hfz90_3 := blk_frozen BK314.out 3; have hfz90_4 := blk_frozen BK314.out 4; have hfz90_5 := blk_frozen BK314.out 5; have p315 : 0 ≤ (a1 : Int) := of_decide_eq_true (by first | (with_reducible assumption) | assumption); have q315 : a1 < (l0.length : Int) := of_decide_eq_true (by first | (with_reducible assumption) | assumption); obtain ⟨ad315, e315, hx315_0, hx315_1, hx315_2⟩ := at_T32 HR0.out a1 p315 q315; obtain rfl : ad300 = ad315 := (by injection e315); have hn315_0 : ad300.block ≠ gb314 := Nat.ne_of_lt (Nat.lt_of_lt_of_le (by have := World.block_lt_of_cell? _ _ hx315_0; first | rwa [add_block] at this | exact this) GW314.out); have hn315_1 : ad300.block ≠ gb314 := Nat.ne_of_lt (Nat.lt_of_lt_of_le (by have := World.block_lt_of_cell? _ _ hx315_0; first | rwa [add_block] at this | exact this) GW314.out); have hn315_2 : ad300.block ≠ gb314 := Nat.ne_of_lt (Nat.lt_of_lt_of_le (by have := World.block_lt_of_cell? _ _ hx315_0; first | rwa [add_block] at this | exact this) GW314.out); have hn315_3 : ad300.block ≠ gb314 := Nat.ne_of_lt (Nat.lt_of_lt_of_le (by have := World.block_lt_of_cell? _ _ hx315_0; first | rwa [add_block] at this | exact this) GW314.out); have hn315_4 : ad300.block ≠ gb314 := Nat.ne_of_lt (Nat.lt_of_lt_of_le (by have := World.block_lt_of_cell? _ _ hx315_0; first | rwa [add_block] at this | exact this) GW314.out); have hn315_5 : ad300.block ≠ gb314 := Nat.ne_of_lt (Nat.lt_of_lt_of_le (by have := World.block_lt_of_cell? _ _ hx315_0; first | rwa [add_block] at this | exact this) GW314.out); replace hx315_0 := (HB.out.cell (World.block_lt_of_cell? w _ hx315_0)).trans hx315_0; replace hx315_1 := (HB.out.cell (World.block_lt_of_cell? w _ hx315_1)).trans hx315_1; replace hx315_2 := (HB.out.cell (World.block_lt_of_cell? w _ hx315_2)).trans hx315_2; replace hx315_0 := (cell_far (p := ⟨gb314, 0, none⟩) (by first | (rw [add_block]; exact hn315_0) | (show (Addr.add _ _).block ≠ _; rw [add_block]; exact hn315_0) | exact hn315_0) (.string t307)).trans hx315_0; replace hx315_1 := (cell_far (p := ⟨gb314, 0, none⟩) (by first | (rw [add_block]; exact hn315_0) | (show (Addr.add _ _).block ≠ _; rw [add_block]; exact hn315_0) | exact hn315_0) (.string t307)).trans hx315_1; replace hx315_2 := (cell_far (p := ⟨gb314, 0, none⟩) (by first | (rw [add_block]; exact hn315_0) | (show (Addr.add _ _).block ≠ _; rw [add_block]; exact hn315_0) | exact hn315_0) (.string t307)).trans hx315_2; replace hx315_0 := (cell_far (p := ⟨gb314, 1, none⟩) (by first | (rw [add_block]; exact hn315_1) | (show (Addr.add _ _).block ≠ _; rw [add_block]; exact hn315_1) | exact hn315_1) (.string t308)).trans hx315_0; replace hx315_1 := (cell_far (p := ⟨gb314, 1, none⟩) (by first | (rw [add_block]; exact hn315_1) | (show (Addr.add _ _).block ≠ _; rw [add_block]; exact hn315_1) | exact hn315_1) (.string t308)).trans hx315_1; replace hx315_2 := (cell_far (p := ⟨gb314, 1, none⟩) (by first | (rw [add_block]; exact hn315_1) | (show (Addr.add _ _).block ≠ _; rw [add_block]; exact hn315_1) | exact hn315_1) (.string t308)).trans hx315_2; replace hx315_0 := (cell_far (p := ⟨gb314, 2, none⟩) (by first | (rw [add_block]; exact hn315_2) | (show (Addr.add _ _).block ≠ _; rw [add_block]; exact hn315_2) | exact hn315_2) (.string t309)).trans hx315_0; replace hx315_1 := (cell_far (p := ⟨gb314, 2, none⟩) (by first | (rw [add_block]; exact hn315_2) | (show (Addr.add _ _).block ≠ _; rw [add_block]; exact hn315_2) | exact hn315_2) (.string t309)).trans hx315_1; replace hx315_2 := (cell_far (p := ⟨gb314, 2, none⟩) (by first | (rw [add_block]; exact hn315_2) | (show (Addr.add _ _).block ≠ _; rw [add_block]; exact hn315_2) | exact hn315_2) (.string t309)).trans hx315_2; replace hx315_0 := (cell_far (p := ⟨gb314, 3, none⟩) (by first | (rw [add_block]; exact hn315_3) | (show (Addr.add _ _).block ≠ _; rw [add_block]; exact hn315_3) | exact hn315_3) (.string t310)).trans hx315_0; replace hx315_1 := (cell_far (p := ⟨gb314, 3, none⟩) (by first | (rw [add_block]; exact hn315_3) | (show (Addr.add _ _).block ≠ _; rw [add_block]; exact hn315_3) | exact hn315_3) (.string t310)).trans hx315_1; replace hx315_2 := (cell_far (p := ⟨gb314, 3, none⟩) (by first | (rw [add_block]; exact hn315_3) | (show (Addr.add _ _).block ≠ _; rw [add_block]; exact hn315_3) | exact hn315_3) (.string t310)).trans hx315_2; replace hx315_0 := (cell_far (p := ⟨gb314, 4, none⟩) (by first | (rw [add_block]; exact hn315_4) | (show (Addr.add _ _).block ≠ _; rw [add_block]; exact hn315_4) | exact hn315_4) (.bool t311)).trans hx315_0; replace hx315_1 := (cell_far (p := ⟨gb314, 4, none⟩) (by first | (rw [add_block]; exact hn315_4) | (show (Addr.add _ _).block ≠ _; rw [add_block]; exact hn315_4) | exact hn315_4) (.bool t311)).trans hx315_1; replace hx315_2 := (cell_far (p := ⟨gb314, 4, none⟩) (by first | (rw [add_block]; exact hn315_4) | (show (Addr.add _ _).block ≠ _; rw [add_block]; exact hn315_4) | exact hn315_4) (.bool t311)).trans hx315_2; replace hx315_0 := (cell_far (p := ⟨gb314, 5, none⟩) (by first | (rw [add_block]; exact hn315_5) | (show (Addr.add _ _).block ≠ _; rw [add_block]; exact hn315_5) | exact hn315_5) (.int .i64 t312)).trans hx315_0; replace hx315_1 := (cell_far (p := ⟨gb314, 5, none⟩) (by first | (rw [add_block]; exact hn315_5) | (show (Addr.add _ _).block ≠ _; rw [add_block]; exact hn315_5) | exact hn315_5) (.int .i64 t312)).trans hx315_1; replace hx315_2 := (cell_far (p := ⟨gb314, 5, none⟩) (by first | (rw [add_block]; exact hn315_5) | (show (Addr.add _ _).block ≠ _; rw [add_block]; exact hn315_5) | exact hn315_5) (.int .i64 t312)).trans hx315_2; clear hn315_0; clear hn315_1; clear hn315_2; clear hn315_3; clear hn315_4; clear hn315_5; replace p315 := eq_true p315; replace q315 := eq_true q315; have p73 : 0 ≤ (0 : Int) := (by omega); have q73 : 0 < ((rd_T32 l0 a1).f0).size := (by have : (0 : Int) < (((rd_T32 l0 a1).f0).size : Int) := of_decide_eq_true (by first | (with_reducible assumption) | assumption); omega); have hx73 : ∀ h : 0 < ((rd_T32 l0 a1).f0).size, ((((rd_T32 l0 a1).f0)[0]'h).toNat : Int) = bt ((rd_T32 l0 a1).f0) 0 := bt_at ((rd_T32 l0 a1).f0) 0; clear p73; have qi73 : (0 < (((rd_T32 l0 a1).f0).size : Int)) = True := eq_true (of_decide_eq_true (by first | (with_reducible assumption) | assumption)); replace q73 := eq_true q73))
                   go_ret
                   exact ⟨by first | rfl | (simp [errW_none, errW_some] <;> rfl) | (simp [*, errW_none, errW_some] <;> rfl), by repeat (first | (with_reducible first | exact HB.out | apply below_alloc | apply pw_below_drewN | apply below_drew1 | refine below_set ?_ GE269.out | refine below_set ?_ GE314.out) | exact HB.out)⟩
                ·rw [if_neg c72] at H
                 exact absurd H (by simp)
              ·rw [if_neg c54] at H
               exact absurd H (by simp)
             ·rw [if_neg c53] at H
              exact absurd H (by simp)
            ·rw [if_neg c52] at H
             exact absurd H (by simp)
           ·rw [if_neg c51] at H
            exact absurd H (by simp)
     ·rw [if_neg c13] at H
      have c13b0 : (t268 == 0) = false := beq_eq_false_iff_ne.mpr c13
      have c13b1 : (t268 != 0) = true := bne_iff_ne.mpr c13
      obtain rfl := Option.some.inj H
      go_wp2_with (first | ((with_reducible refine gate_callee (f := 8) rfl ?_); refine goesL_ (some 27) rfl rfl Tryd.func8 (by kernel_rfl) rfl #[.slice A0 l0.length c0] rfl (by (try simp only [List.map_toArray, List.map_cons, List.map_nil]); first | done | rfl | (simp only [List.length_drop, List.length_take]; rfl)) ?_; (with_reducible refine (head_Request.calls _ _ l0 t262 t263 t264 t265 t266 t267 t268 _ ?side1 ?side2 A12.out).mono ?_); (case side1 => repeat (first | exact (Kd.C_below HR0.out HB.out) | (with_reducible refine Kd.C_alloc ?_ _) | (with_reducible refine Kd.C_drewN ?_ _) | (with_reducible refine Kd.C_drew ?_))); (case side2 => exact HC0.out); rintro e w91 ⟨rfl, hb⟩; refine ⟨_, rfl, ?_⟩; have n0_ := Aside0.mk (below_step (wB HB) hb); clear HB; have HB := n0_; clear n0_; (try clear hb); (try clear hb2); (try clear hk); (try clear hi)) | ((with_reducible refine gate_dst (N := 5) rfl ?_); (try (refine gate_guard (by rfl) ?_; dsimp only)); refine box_event ?hg (N := 5) ?hd (cs := #[.string (⟨#[]⟩ : ByteArray), .string (⟨#[]⟩ : ByteArray), .string (⟨#[]⟩ : ByteArray), .string (⟨#[]⟩ : ByteArray), .bool false, .int .i64 0]) (t := 26) ?hr ?_; (case hd => rfl); (case hg => rfl); (case hr => first | (go_simp; done) | (go_simp; rfl)); intro gb269 hg w92 hbox hb; have n0_ := Aside0.mk (below_step (wB HB) hb); have n1_ := Aside0.mk (hbox); have n2_ := Aside0.mk ((by rw [hg]; exact (below_size (wB HB)) : w.heap.size ≤ gb269)); have n3_ := Aside0.mk ((by rw [hg]; exact (below_size (wB HB)) : w.heap.size ≤ gb269)); clear HB; have HB := n0_; have BK269 := n1_; have GW269 := n2_; have GE269 := n3_; clear n0_ n1_ n2_ n3_; clear hb hbox hg; have hcz93_0 : w92.cell? ⟨gb269, 0, none⟩ = some (.string (⟨#[]⟩ : ByteArray)) := (blk_cell BK269.out 0).trans rfl; have hcz93_1 : w92.cell? ⟨gb269, 1, none⟩ = some (.string (⟨#[]⟩ : ByteArray)) := (blk_cell BK269.out 1).trans rfl; have hcz93_2 : w92.cell? ⟨gb269, 2, none⟩ = some (.string (⟨#[]⟩ : ByteArray)) := (blk_cell BK269.out 2).trans rfl; have hcz93_3 : w92.cell? ⟨gb269, 3, none⟩ = some (.string (⟨#[]⟩ : ByteArray)) := (blk_cell BK269.out 3).trans rfl; have hcz93_4 : w92.cell? ⟨gb269, 4, none⟩ = some (.bool false) := (blk_cell BK269.out 4).trans rfl; have hcz93_5 : w92.cell? ⟨gb269, 5, none⟩ = some (.int .i64 0) := (blk_cell BK269.out 5).trans rfl; have hfz93_0 := blk_frozen BK269.out 0; have hfz93_1 := blk_frozen BK269.out 1; have hfz93_2 := blk_frozen BK269.out 2; have hfz93_3 := blk_frozen BK269.out 3; have hfz93_4 := blk_frozen BK269.out 4; have hfz93_5 := blk_frozen BK269.out 5))
      go_ret
      exact ⟨by first | rfl | (simp [errW_none, errW_some] <;> rfl) | (simp [*, errW_none, errW_some] <;> rfl), by repeat (first | (with_reducible first | exact HB.out | apply below_alloc | apply pw_below_drewN | apply below_drew1 | refine below_set ?_ GE269.out) | exact HB.out)⟩
 ·replace c4 := Bool.eq_false_iff.mpr c4
  subst c4
  have H1 : (none) = some r := by rw [if_neg (show ¬ (false = true) by decide)] at H; exact H
  clear H; have H := H1; clear H1
  exact absurd H (by simp)

end Go.Proofs.YtgfdmaohnngpjaaDoor.P
