/- The law HeadLengths, walked and told: it returns true. Conditions: two numbers that came in; strconv's table as its initialiser lays it. -/
import Derived.Test.YtgfdmaohnngpjaaDoorHeadLen
import Derived.Outline
namespace Go.Proofs.YtgfdmaohnngpjaaDoor.P
open Go.RowKit Go.Proofs.YtgfdmaohnngpjaaDoorW.PrintWords Go.Proofs.YtgfdmaohnngpjaaDoorW.PrintLast Go.Proofs.YtgfdmaohnngpjaaDoorW.PrintMore
set_option linter.unusedVariables false
theorem C_four {W : World} {g : Nat} {t : TypeId} {a0 b0 a1 b1 a2 b2 a3 b3 : ByteArray} {n0 n1 n2 n3 : Bool}
    (h : W.heap[g]? = some (.cells #[.string a0, .string b0, .bool n0, .string a1, .string b1, .bool n1, .string a2, .string b2, .bool n2, .string a3, .string b3, .bool n3] t (0, 0))) :
    Kd.C k32 W (some ⟨g, 0, none⟩) 4 [⟨a0, b0, n0⟩, ⟨a1, b1, n1⟩, ⟨a2, b2, n2⟩, ⟨a3, b3, n3⟩] := by
  refine ⟨rfl, by decide, fun _ => ⟨_, rfl, fun j p hj => ?_⟩⟩
  match j, hj with
  | 0, hj => cases Option.some.inj hj; exact ⟨_, rfl, k32_mk _ _, fun i u hu => by match i, hu with
    | 0, hu => cases Option.some.inj hu; exact blk_cell h 0
    | 1, hu => cases Option.some.inj hu; exact blk_cell h 1
    | 2, hu => cases Option.some.inj hu; exact blk_cell h 2⟩
  | 1, hj => cases Option.some.inj hj; exact ⟨_, rfl, k32_mk _ _, fun i u hu => by match i, hu with
    | 0, hu => cases Option.some.inj hu; exact blk_cell h 3
    | 1, hu => cases Option.some.inj hu; exact blk_cell h 4
    | 2, hu => cases Option.some.inj hu; exact blk_cell h 5⟩
  | 2, hj => cases Option.some.inj hj; exact ⟨_, rfl, k32_mk _ _, fun i u hu => by match i, hu with
    | 0, hu => cases Option.some.inj hu; exact blk_cell h 6
    | 1, hu => cases Option.some.inj hu; exact blk_cell h 7
    | 2, hu => cases Option.some.inj hu; exact blk_cell h 8⟩
  | 3, hj => cases Option.some.inj hj; exact ⟨_, rfl, k32_mk _ _, fun i u hu => by match i, hu with
    | 0, hu => cases Option.some.inj hu; exact blk_cell h 9
    | 1, hu => cases Option.some.inj hu; exact blk_cell h 10
    | 2, hu => cases Option.some.inj hu; exact blk_cell h 11⟩
theorem C_two {W : World} {g : Nat} {t : TypeId} {a0 b0 a1 b1 : ByteArray} {n0 n1 : Bool}
    (h : W.heap[g]? = some (.cells #[.string a0, .string b0, .bool n0, .string a1, .string b1, .bool n1] t (0, 0))) :
    Kd.C k32 W (some ⟨g, 0, none⟩) 2 [⟨a0, b0, n0⟩, ⟨a1, b1, n1⟩] := by
  refine ⟨rfl, by decide, fun _ => ⟨_, rfl, fun j p hj => ?_⟩⟩
  match j, hj with
  | 0, hj => cases Option.some.inj hj; exact ⟨_, rfl, k32_mk _ _, fun i u hu => by match i, hu with
    | 0, hu => cases Option.some.inj hu; exact blk_cell h 0
    | 1, hu => cases Option.some.inj hu; exact blk_cell h 1
    | 2, hu => cases Option.some.inj hu; exact blk_cell h 2⟩
  | 1, hj => cases Option.some.inj hj; exact ⟨_, rfl, k32_mk _ _, fun i u hu => by match i, hu with
    | 0, hu => cases Option.some.inj hu; exact blk_cell h 3
    | 1, hu => cases Option.some.inj hu; exact blk_cell h 4
    | 2, hu => cases Option.some.inj hu; exact blk_cell h 5⟩
theorem blk_new2 (w : World) (o1 o2 : Obj) : ((w.alloc o1).alloc o2).heap[w.heap.size + 1]? = some o2 := by
  have := blk_new (w.alloc o1) o2
  simpa using this
theorem blk_new1 (w : World) (o1 o2 : Obj) : ((w.alloc o1).alloc o2).heap[w.heap.size]? = some o1 := blk_alloc (blk_new w o1) o2
theorem len_short (w : World) (n s : Int) (h : n < 0 ∨ n > 999999999) :
    Calls Tryd.prog 5 #[.int .i64 n, .int .u8 s] w fun e w' => e = .returned (.bool true) ∧ Below w.heap.size w w' := by
  have AW := fun w => nunciolaw20_awake.calls true w awake_len
  by_cases h0 : n < 0
  · have h1 : decide (n < 0) = true := decide_eq_true h0
    clear h
    go_enter Tryd.func5, Tryd.ntmps5
    go_wp2_with (go_at_call 6; refine (AW _).mono ?_; rintro e w1 ⟨rfl, hb⟩)
    go_ret
    exact ⟨rfl, hb⟩
  · have h1 : decide (n < 0) = false := decide_eq_false h0
    have h2 : decide (999999999 < n) = true := decide_eq_true (by omega)
    clear h h0
    go_enter Tryd.func5, Tryd.ntmps5
    go_wp2_with (go_at_call 6; refine (AW _).mono ?_; rintro e w1 ⟨rfl, hb⟩)
    go_ret
    exact ⟨rfl, hb⟩
set_option maxRecDepth 100000 in
set_option maxHeartbeats 4000000 in
theorem len_long (w : World) (n : Nat) (s : Nat) (hn : n ≤ 999999999) (hs : s < 256) (hG : Aside0 (Glob w)) :
    Calls Tryd.prog 5 #[.int .i64 n, .int .u8 s] w fun e w' => e = .returned (.bool true) ∧ Below w.heap.size w w' := by
  have AW := fun w => nunciolaw20_awake.calls true w awake_len
  have hN := text_number (n : Int) (by omega) (by omega)
  obtain ⟨r1, r2, r3, r4, hR⟩ := req_good n hn
  obtain ⟨q2, hQ⟩ := resp_good n hn
  have hz := numB_size n hn
  have hP : ∀ i, head_Request.f (lenR (spoiled (numB (n : Int)) i)) = some (⟨#[]⟩, ⟨#[]⟩, ⟨#[]⟩, ⟨#[]⟩, false, 0, 100) := fun i => req_bad _ (dec_spoiled n hn i) (spoiled_size n hn i)
  have hS : ∀ i, head_Response.f (lenA (spoiled (numB (n : Int)) i)) = some (0, ⟨#[]⟩, 0, 100) := fun i => resp_bad _ (dec_spoiled n hn i) (spoiled_size n hn i)
  unfold lenR lenP lenF at hR
  unfold lenA lenS lenF at hQ
  generalize numB (n : Int) = v at hN hR hQ hz hP hS
  have HP := Lib.hid hP
  have HS := Lib.hid hS
  clear hP hS
  have HR := Lib.hid hR
  have HQ := Lib.hid hQ
  have HN := Lib.hid hN
  have c1 : decide ((n : Int) < 0) = false := decide_eq_false (by omega)
  have c2 : decide (999999999 < (n : Int)) = false := decide_eq_false (by omega)
  clear hR hQ hN
  go_enter Tryd.func5, Tryd.ntmps5
  go_wp2_with (first | (go_at_call 6; refine (AW _).mono ?_; rintro e w1 ⟨rfl, hb⟩; have HB := Lib.hid hb; clear hb) | (go_at_call 10; refine (text_Number.calls _ v _ HN.out (Glob.below hG rfl HB.out)).mono ?_; rintro e w2 ⟨rfl, hb⟩; have HB2 := Lib.hid (below_step HB.out hb); clear hb))
  refine (head_Request.calls _ 4 _ r1 r2 r3 r4 false n 0 _ (C_four (blk_new w2 _)) (Nat.le_refl 4) HR.out).mono ?_
  rintro e w3 ⟨rfl, hb⟩
  have KB := Lib.hid (blk_below (blk_new w2 _) hb)
  have HB3 := Lib.hid (below_step (HB2.out.alloc HB2.out.size _) hb)
  have hg : w.heap.size ≤ w2.heap.size := HB2.out.size
  clear hb
  generalize w2.heap.size = g at *
  have hlt := blk_lt KB.out
  have hne : (g = w3.heap.size) = False := eq_false (Nat.ne_of_lt hlt)
  have d9 := blk_cell KB.out 9
  have d10 := blk_cell KB.out 10
  have d11 := blk_cell KB.out 11
  simp at d9 d10 d11
  go_wp2_with fail
  refine (head_Response.calls _ 2 _ 200 q2 n 0 _ (C_two (blk_new2 w3 _ _)) (Nat.le_refl 2) HQ.out).mono ?_
  rintro e w4 ⟨rfl, hb⟩
  have KB4 := Lib.hid (blk_below (blk_alloc (blk_alloc KB.out _) _) hb)
  have K7 := Lib.hid (blk_below (blk_new1 w3 _ _) hb)
  have HB4 := Lib.hid (below_step ((HB3.out.alloc HB3.out.size _).alloc (by have := HB3.out.size; simp; omega) _) hb)
  have hg7 : w.heap.size ≤ w3.heap.size := HB3.out.size
  have hne7 : ¬ g = w3.heap.size := Nat.ne_of_lt hlt
  clear hb d9 d10 d11 hne hlt
  generalize w3.heap.size = g7 at *
  have hlt := blk_lt KB4.out
  have hlt7 := blk_lt K7.out
  have hne : (g = w4.heap.size) = False := eq_false (Nat.ne_of_lt hlt)
  have hne4 : (g7 = w4.heap.size) = False := eq_false (Nat.ne_of_lt hlt7)
  have d9 := blk_cell KB4.out 9
  have d10 := blk_cell KB4.out 10
  have d11 := blk_cell KB4.out 11
  have fr10 := blk_frozen KB4.out 10
  have e5 := blk_cell K7.out 5
  simp at d9 d10 d11 e5
  have hn0 : ((n : Int) != (n : Int)) = false := by simp
  have hmod : (s : Int) % 6 = 0 ∨ (s : Int) % 6 = 1 ∨ (s : Int) % 6 = 2 ∨ (s : Int) % 6 = 3 ∨ (s : Int) % 6 = 4 ∨ (s : Int) % 6 = 5 := by omega
  rcases hmod with hm | hm | hm | hm | hm | hm
  · go_wp2_with fail
    refine (head_Request.calls _ 4 _ ⟨#[]⟩ ⟨#[]⟩ ⟨#[]⟩ ⟨#[]⟩ false 0 100 _ (C_four (blk_alloc (blk_alloc (blk_put KB4.out 10 (.string ((⟨#[43]⟩ : ByteArray) ++ v)) rfl) _) _)) (Nat.le_refl 4) (HP.out 0)).mono ?_
    rintro e w5 ⟨rfl, hb⟩
    have KB5 := Lib.hid (blk_below (blk_alloc (blk_alloc (blk_put KB4.out 10 (.string ((⟨#[43]⟩ : ByteArray) ++ v)) rfl) _) _) hb)
    have HB5 := Lib.hid (below_step (below_alloc (below_alloc (HB4.out.setCell (p := ⟨g, 10, none⟩) hg _) _) _) hb)
    clear hb d9 d10 d11 hne hlt
    have hlt := blk_lt KB5.out
    have hne : (g = w5.heap.size) = False := eq_false (Nat.ne_of_lt hlt)
    have d9 := blk_cell KB5.out 9
    have d10 := blk_cell KB5.out 10
    have d11 := blk_cell KB5.out 11
    simp at d9 d10 d11
    go_wp2_with fail
    refine (head_Response.calls _ 2 _ 0 ⟨#[]⟩ 0 100 _ (C_two (blk_new w5 _)) (Nat.le_refl 2) (HS.out 0)).mono ?_
    rintro e w6 ⟨rfl, hb⟩
    have HB6 := Lib.hid (below_step (below_alloc HB5.out _) hb)
    clear hb
    go_wp2
    go_ret
    exact ⟨rfl, HB6.out⟩
  · go_wp2_with fail
    refine (head_Request.calls _ 4 _ ⟨#[]⟩ ⟨#[]⟩ ⟨#[]⟩ ⟨#[]⟩ false 0 100 _ (C_four (blk_alloc (blk_alloc (blk_put KB4.out 10 (.string ((⟨#[48]⟩ : ByteArray) ++ v)) rfl) _) _)) (Nat.le_refl 4) (HP.out 1)).mono ?_
    rintro e w5 ⟨rfl, hb⟩
    have KB5 := Lib.hid (blk_below (blk_alloc (blk_alloc (blk_put KB4.out 10 (.string ((⟨#[48]⟩ : ByteArray) ++ v)) rfl) _) _) hb)
    have HB5 := Lib.hid (below_step (below_alloc (below_alloc (HB4.out.setCell (p := ⟨g, 10, none⟩) hg _) _) _) hb)
    clear hb d9 d10 d11 hne hlt
    have hlt := blk_lt KB5.out
    have hne : (g = w5.heap.size) = False := eq_false (Nat.ne_of_lt hlt)
    have d9 := blk_cell KB5.out 9
    have d10 := blk_cell KB5.out 10
    have d11 := blk_cell KB5.out 11
    simp at d9 d10 d11
    go_wp2_with fail
    refine (head_Response.calls _ 2 _ 0 ⟨#[]⟩ 0 100 _ (C_two (blk_new w5 _)) (Nat.le_refl 2) (HS.out 1)).mono ?_
    rintro e w6 ⟨rfl, hb⟩
    have HB6 := Lib.hid (below_step (below_alloc HB5.out _) hb)
    clear hb
    go_wp2
    go_ret
    exact ⟨rfl, HB6.out⟩
  · go_wp2_with fail
    refine (head_Request.calls _ 4 _ ⟨#[]⟩ ⟨#[]⟩ ⟨#[]⟩ ⟨#[]⟩ false 0 100 _ (C_four (blk_alloc (blk_alloc (blk_put KB4.out 10 (.string (v ++ (⟨#[120]⟩ : ByteArray))) rfl) _) _)) (Nat.le_refl 4) (HP.out 2)).mono ?_
    rintro e w5 ⟨rfl, hb⟩
    have KB5 := Lib.hid (blk_below (blk_alloc (blk_alloc (blk_put KB4.out 10 (.string (v ++ (⟨#[120]⟩ : ByteArray))) rfl) _) _) hb)
    have HB5 := Lib.hid (below_step (below_alloc (below_alloc (HB4.out.setCell (p := ⟨g, 10, none⟩) hg _) _) _) hb)
    clear hb d9 d10 d11 hne hlt
    have hlt := blk_lt KB5.out
    have hne : (g = w5.heap.size) = False := eq_false (Nat.ne_of_lt hlt)
    have d9 := blk_cell KB5.out 9
    have d10 := blk_cell KB5.out 10
    have d11 := blk_cell KB5.out 11
    simp at d9 d10 d11
    go_wp2_with fail
    refine (head_Response.calls _ 2 _ 0 ⟨#[]⟩ 0 100 _ (C_two (blk_new w5 _)) (Nat.le_refl 2) (HS.out 2)).mono ?_
    rintro e w6 ⟨rfl, hb⟩
    have HB6 := Lib.hid (below_step (below_alloc HB5.out _) hb)
    clear hb
    go_wp2
    go_ret
    exact ⟨rfl, HB6.out⟩
  · go_wp2_with fail
    refine (head_Request.calls _ 4 _ ⟨#[]⟩ ⟨#[]⟩ ⟨#[]⟩ ⟨#[]⟩ false 0 100 _ (C_four (blk_alloc (blk_alloc (blk_put KB4.out 10 (.string ((⟨#[45]⟩ : ByteArray) ++ v)) rfl) _) _)) (Nat.le_refl 4) (HP.out 3)).mono ?_
    rintro e w5 ⟨rfl, hb⟩
    have KB5 := Lib.hid (blk_below (blk_alloc (blk_alloc (blk_put KB4.out 10 (.string ((⟨#[45]⟩ : ByteArray) ++ v)) rfl) _) _) hb)
    have HB5 := Lib.hid (below_step (below_alloc (below_alloc (HB4.out.setCell (p := ⟨g, 10, none⟩) hg _) _) _) hb)
    clear hb d9 d10 d11 hne hlt
    have hlt := blk_lt KB5.out
    have hne : (g = w5.heap.size) = False := eq_false (Nat.ne_of_lt hlt)
    have d9 := blk_cell KB5.out 9
    have d10 := blk_cell KB5.out 10
    have d11 := blk_cell KB5.out 11
    simp at d9 d10 d11
    go_wp2_with fail
    refine (head_Response.calls _ 2 _ 0 ⟨#[]⟩ 0 100 _ (C_two (blk_new w5 _)) (Nat.le_refl 2) (HS.out 3)).mono ?_
    rintro e w6 ⟨rfl, hb⟩
    have HB6 := Lib.hid (below_step (below_alloc HB5.out _) hb)
    clear hb
    go_wp2
    go_ret
    exact ⟨rfl, HB6.out⟩
  · go_wp2_with fail
    refine (head_Request.calls _ 4 _ ⟨#[]⟩ ⟨#[]⟩ ⟨#[]⟩ ⟨#[]⟩ false 0 100 _ (C_four (blk_alloc (blk_alloc (blk_put KB4.out 10 (.string (v ++ (⟨#[32]⟩ : ByteArray) ++ v)) rfl) _) _)) (Nat.le_refl 4) (HP.out 4)).mono ?_
    rintro e w5 ⟨rfl, hb⟩
    have KB5 := Lib.hid (blk_below (blk_alloc (blk_alloc (blk_put KB4.out 10 (.string (v ++ (⟨#[32]⟩ : ByteArray) ++ v)) rfl) _) _) hb)
    have HB5 := Lib.hid (below_step (below_alloc (below_alloc (HB4.out.setCell (p := ⟨g, 10, none⟩) hg _) _) _) hb)
    clear hb d9 d10 d11 hne hlt
    have hlt := blk_lt KB5.out
    have hne : (g = w5.heap.size) = False := eq_false (Nat.ne_of_lt hlt)
    have d9 := blk_cell KB5.out 9
    have d10 := blk_cell KB5.out 10
    have d11 := blk_cell KB5.out 11
    simp at d9 d10 d11
    go_wp2_with fail
    refine (head_Response.calls _ 2 _ 0 ⟨#[]⟩ 0 100 _ (C_two (blk_new w5 _)) (Nat.le_refl 2) (HS.out 4)).mono ?_
    rintro e w6 ⟨rfl, hb⟩
    have HB6 := Lib.hid (below_step (below_alloc HB5.out _) hb)
    clear hb
    go_wp2
    go_ret
    exact ⟨rfl, HB6.out⟩
  · go_wp2_with fail
    refine (head_Request.calls _ 4 _ ⟨#[]⟩ ⟨#[]⟩ ⟨#[]⟩ ⟨#[]⟩ false 0 100 _ (C_four (blk_alloc (blk_alloc (blk_put KB4.out 10 (.string (⟨#[]⟩)) rfl) _) _)) (Nat.le_refl 4) (HP.out 5)).mono ?_
    rintro e w5 ⟨rfl, hb⟩
    have KB5 := Lib.hid (blk_below (blk_alloc (blk_alloc (blk_put KB4.out 10 (.string (⟨#[]⟩)) rfl) _) _) hb)
    have HB5 := Lib.hid (below_step (below_alloc (below_alloc (HB4.out.setCell (p := ⟨g, 10, none⟩) hg _) _) _) hb)
    clear hb d9 d10 d11 hne hlt
    have hlt := blk_lt KB5.out
    have hne : (g = w5.heap.size) = False := eq_false (Nat.ne_of_lt hlt)
    have d9 := blk_cell KB5.out 9
    have d10 := blk_cell KB5.out 10
    have d11 := blk_cell KB5.out 11
    simp at d9 d10 d11
    go_wp2_with fail
    refine (head_Response.calls _ 2 _ 0 ⟨#[]⟩ 0 100 _ (C_two (blk_new w5 _)) (Nat.le_refl 2) (HS.out 5)).mono ?_
    rintro e w6 ⟨rfl, hb⟩
    have HB6 := Lib.hid (below_step (below_alloc HB5.out _) hb)
    clear hb
    go_wp2
    go_ret
    exact ⟨rfl, HB6.out⟩
theorem run_HeadLengths (w : World) (n : Int) (_ : (Lit.int .i64 n).wf = true) (s : Int) (hs : (Lit.int .u8 s).wf = true) (hG : Aside0 (Glob w)) :
    Calls Tryd.prog 5 #[.int .i64 n, .int .u8 s] w fun e w' => e = .returned (.bool true) ∧ Below w.heap.size w w' := by
  by_cases h : n < 0 ∨ n > 999999999
  · exact len_short w n s h
  · have hs' : 0 ≤ s ∧ s ≤ 255 := by simpa [Lit.wf, IntKind.min, IntKind.max, IntKind.signed, IntKind.bits] using hs
    obtain ⟨n, rfl⟩ : ∃ k : Nat, n = k := ⟨n.toNat, by omega⟩
    obtain ⟨s, rfl⟩ : ∃ k : Nat, s = k := ⟨s.toNat, by omega⟩
    exact len_long w n s (by omega) (by omega) hG
end Go.Proofs.YtgfdmaohnngpjaaDoor.P
