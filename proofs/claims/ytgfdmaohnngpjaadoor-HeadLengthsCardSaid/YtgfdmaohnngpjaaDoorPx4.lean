/- Functions of the program as plain functions, and the contract of each: written by a program of this session over the seat's translation. Conditions: those that each theorem names. -/
import Derived.Test.YtgfdmaohnngpjaaDoorPx0
import Derived.Test.YtgfdmaohnngpjaaDoorPx2
import Derived.Test.YtgfdmaohnngpjaaDoorPx3
import Derived.Lib.Hide
namespace Go.Proofs.YtgfdmaohnngpjaaDoor.P
open Go.RowKit Go.Proofs.YtgfdmaohnngpjaaDoorW.PrintWords Go.Proofs.YtgfdmaohnngpjaaDoorW.PrintLast Go.Proofs.YtgfdmaohnngpjaaDoorW.PrintMore
attribute [local go_sem] max2_int min2_int max_two min_two max_three min_three max_four min_four   -- for this text's walks alone
set_option linter.unusedVariables false
set_option linter.unusedSimpArgs false

/-! ### text_Token: function 25: given -/
/-- Below a conversion's world. -/
theorem bytesWorld_below (w : World) (e : TypeId) (s : ByteArray) : Below w.heap.size w (Lib.bytesWorld w e s) :=
  ⟨rfl, rfl, rfl, by rw [Lib.bytesWorld_size]; omega, fun k hk => Lib.bytesWorld_at_old w e s k hk⟩
theorem take_snoc (s : ByteArray) (k : Nat) (h : k < s.size) : s.data.toList.take (k + 1) = s.data.toList.take k ++ [s.data.toList.getD k 0] := by
  have h' : k < s.data.toList.length := by simpa using h
  rw [List.take_succ_eq_append_getElem h']
  simp [List.getD, h]
theorem all_false {p : UInt8 → Bool} {l : List UInt8} {x : UInt8} (h : x ∈ l) (hp : p x = false) : l.all p = false := by
  rw [List.all_eq_false]; exact ⟨x, h, by simp [hp]⟩
theorem all_true {p : UInt8 → Bool} {l : List UInt8} (h : ∀ c ∈ l, p c = true) : l.all p = true := by
  rw [List.all_eq_true]; exact h
/-- what 'sign' and 'shown' tell of a byte -/
def signB (c : UInt8) : Bool := (text_sign.f c.toNat).getD false
def shownB (c : UInt8) : Bool := (text_shown.f c.toNat).getD false
theorem signB_some (c : UInt8) (r : Bool) (h : signB c = r) : text_sign.f c.toNat = some r := by
  unfold signB at h
  have hs : ∃ x, text_sign.f c.toNat = some x := by
    unfold text_sign.f strings_IndexByte.f; simp only [Option.bind_some]; repeat' split
    all_goals exact ⟨_, rfl⟩
  obtain ⟨x, hx⟩ := hs
  rw [hx] at h ⊢
  simp at h
  rw [h]
theorem shownB_some (c : UInt8) (r : Bool) (h : shownB c = r) : text_shown.f c.toNat = some r := by
  unfold shownB at h
  have hs : ∃ x, text_shown.f c.toNat = some x := by
    unfold text_shown.f; repeat' split
    all_goals exact ⟨_, rfl⟩
  obtain ⟨x, hx⟩ := hs
  rw [hx] at h ⊢
  simp at h
  rw [h]

theorem all_signB (s : ByteArray) (w : World) (hs : s.size ≤ maxLen) :
    Calls Tryd.prog 40 #[.string s, .func (.func 41) #[] #[]] w fun e w' => e = .returned (.bool (s.data.toList.all signB)) ∧ Below w.heap.size w w' := by
  unfold maxLen at hs
  have kc := fun w : World => Lib.run_convert_string_bytes (P := Tryd.prog) w 9 53 5 s Tryd.underlying9 Tryd.underlying53 Tryd.underlying5
  have hcell := fun j hj => Lib.bytesWorld_cell w 5 s j hj
  have hb := bytesWorld_below w 5 s
  generalize hW : Lib.bytesWorld w 5 s = W at hcell hb
  go_enter Tryd.func40, Tryd.ntmps40
  go_wp2
  clear hW kc
  have HB : Hid (Below w.heap.size w W) := Lib.hid hb
  clear hb
  have HC := Lib.hid hcell
  clear hcell
  go_loopw [10] (fun i wr => ∃ k : Nat, k ≤ s.size ∧ i = .int .i64 k ∧ (∀ c ∈ s.data.toList.take k, signB c = true) ∧ ∃ n, wr = W.drewN n) (fun i _ => s.size - (intOf i).toNat)
  case atStart => exact ⟨0, Nat.zero_le _, rfl, by simp, 0, rfl⟩
  case round =>
    obtain ⟨k, hk, rfl, hall, n, rfl⟩ := hrel
    have HA := Lib.hid hall
    clear hall
    by_cases hlt : k < s.size
    · have hck := HC.out k hlt
      have hts := take_snoc s k hlt
      generalize hx : s.data.toList.getD k 0 = x at hck hts
      have HT := Lib.hid hts
      clear hts hx
      cases hpk : signB x with
      | true =>
        have HP := Lib.hid hpk
        clear hpk
        go_wp2_with (go_at_call 41; refine (text_sign.calls x.toNat true _ (signB_some x true HP.out)).mono ?_; rintro e w' ⟨rfl, ⟨nd, rfl⟩⟩)
        go_roundw
        case rel => exact ⟨k + 1, by omega, by go_num, by rw [HT.out]; intro c hc; rcases List.mem_append.1 hc with h | h; exact HA.out c h; simp at h; subst h; exact HP.out, _, rfl⟩
        case measure => simp [intOf]; omega
      | false =>
        have HP := Lib.hid hpk
        clear hpk
        go_wp2_with (go_at_call 41; refine (text_sign.calls x.toNat false _ (signB_some x false HP.out)).mono ?_; rintro e w' ⟨rfl, ⟨nd, rfl⟩⟩)
        go_ret
        refine ⟨?_, ?_⟩
        · show Ending.returned (Value.bool false) = _
          rw [all_false (x := x) (by have := HT.out; exact List.mem_of_mem_take (i := k + 1) (by rw [this]; simp)) HP.out]
        · repeat (first | exact HB.out | apply pw_below_drewN)
    · go_wp2
      go_ret
      refine ⟨?_, ?_⟩
      · show Ending.returned (Value.bool true) = _
        rw [all_true (fun c hc => HA.out c (by rw [List.take_of_length_le (by simpa using Nat.le_of_not_lt hlt)]; exact hc))]
      · repeat (first | exact HB.out | apply pw_below_drewN)

theorem all_shownB (s : ByteArray) (w : World) (hs : s.size ≤ maxLen) :
    Calls Tryd.prog 40 #[.string s, .func (.func 42) #[] #[]] w fun e w' => e = .returned (.bool (s.data.toList.all shownB)) ∧ Below w.heap.size w w' := by
  unfold maxLen at hs
  have kc := fun w : World => Lib.run_convert_string_bytes (P := Tryd.prog) w 9 53 5 s Tryd.underlying9 Tryd.underlying53 Tryd.underlying5
  have hcell := fun j hj => Lib.bytesWorld_cell w 5 s j hj
  have hb := bytesWorld_below w 5 s
  generalize hW : Lib.bytesWorld w 5 s = W at hcell hb
  go_enter Tryd.func40, Tryd.ntmps40
  go_wp2
  clear hW kc
  have HB : Hid (Below w.heap.size w W) := Lib.hid hb
  clear hb
  have HC := Lib.hid hcell
  clear hcell
  go_loopw [10] (fun i wr => ∃ k : Nat, k ≤ s.size ∧ i = .int .i64 k ∧ (∀ c ∈ s.data.toList.take k, shownB c = true) ∧ ∃ n, wr = W.drewN n) (fun i _ => s.size - (intOf i).toNat)
  case atStart => exact ⟨0, Nat.zero_le _, rfl, by simp, 0, rfl⟩
  case round =>
    obtain ⟨k, hk, rfl, hall, n, rfl⟩ := hrel
    have HA := Lib.hid hall
    clear hall
    by_cases hlt : k < s.size
    · have hck := HC.out k hlt
      have hts := take_snoc s k hlt
      generalize hx : s.data.toList.getD k 0 = x at hck hts
      have HT := Lib.hid hts
      clear hts hx
      cases hpk : shownB x with
      | true =>
        have HP := Lib.hid hpk
        clear hpk
        go_wp2_with (go_at_call 42; refine (text_shown.calls x.toNat true _ (shownB_some x true HP.out)).mono ?_; rintro e w' ⟨rfl, ⟨nd, rfl⟩⟩)
        go_roundw
        case rel => exact ⟨k + 1, by omega, by go_num, by rw [HT.out]; intro c hc; rcases List.mem_append.1 hc with h | h; exact HA.out c h; simp at h; subst h; exact HP.out, _, rfl⟩
        case measure => simp [intOf]; omega
      | false =>
        have HP := Lib.hid hpk
        clear hpk
        go_wp2_with (go_at_call 42; refine (text_shown.calls x.toNat false _ (shownB_some x false HP.out)).mono ?_; rintro e w' ⟨rfl, ⟨nd, rfl⟩⟩)
        go_ret
        refine ⟨?_, ?_⟩
        · show Ending.returned (Value.bool false) = _
          rw [all_false (x := x) (by have := HT.out; exact List.mem_of_mem_take (i := k + 1) (by rw [this]; simp)) HP.out]
        · repeat (first | exact HB.out | apply pw_below_drewN)
    · go_wp2
      go_ret
      refine ⟨?_, ?_⟩
      · show Ending.returned (Value.bool true) = _
        rw [all_true (fun c hc => HA.out c (by rw [List.take_of_length_le (by simpa using Nat.le_of_not_lt hlt)]; exact hc))]
      · repeat (first | exact HB.out | apply pw_below_drewN)

theorem isEmpty_data (s : ByteArray) : s.data.toList.isEmpty = s.toList.isEmpty := by rw [Lib.toList_data]
theorem nil_of_empty {s : ByteArray} {b : Bool} (h : s.toList.isEmpty = b) : (s.toList = []) = (b = true) := by
  rw [← h]; simp
def text_Token.f (a0 : ByteArray) : Option Bool := if a0.size ≤ maxLen then some (!a0.data.toList.isEmpty && a0.data.toList.all signB) else none
theorem text_Token.calls (a0 : ByteArray) (r : Bool) (w : World) (h : text_Token.f a0 = some r) :
    Calls Tryd.prog 25 #[.string a0] w fun e w' => e = .returned (.bool r) ∧ Below w.heap.size w w' := by
  unfold text_Token.f at h
  split at h
  · rename_i hs
    obtain rfl := Option.some.inj h
    have H := all_signB a0
    rw [isEmpty_data]
    clear h
    cases hT : a0.toList.isEmpty with
    | true =>
      have hN := nil_of_empty hT
      simp only [Bool.not_true, Bool.false_and] at *
      go_enter Tryd.func25, Tryd.ntmps25
      go_wp2
      go_ret
      exact ⟨rfl, Below.refl _ _⟩
    | false =>
      have hN := nil_of_empty hT
      generalize a0.data.toList.all signB = q at H
      have H2 := fun w => H w hs
      clear H hs
      go_enter Tryd.func25, Tryd.ntmps25
      go_wp2_with (go_at_call 40; refine (H2 _).mono ?_; rintro e w' ⟨rfl, hb⟩)
      go_ret
      exact ⟨by cases q <;> rfl, hb⟩
  · cases h

end Go.Proofs.YtgfdmaohnngpjaaDoor.P
