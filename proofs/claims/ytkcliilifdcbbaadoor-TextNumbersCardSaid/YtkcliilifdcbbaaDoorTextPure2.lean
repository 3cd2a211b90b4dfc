/- Plain facts about tokens, values and media types, and the laws TextTells, TextJoins. No condition but the lengths that each names. -/
import Derived.Test.YtkcliilifdcbbaaDoorTextPure
namespace Go.Proofs.YtkcliilifdcbbaaDoor.Pure
open Go.RowKit Go.Proofs.YtkcliilifdcbbaaDoor.P Go.Proofs.YtkcliilifdcbbaaDoorW.PrintWords Go.Proofs.YtkcliilifdcbbaaDoorW.PrintLast Go.Proofs.YtkcliilifdcbbaaDoorW.PrintMore
set_option linter.unusedVariables false
set_option linter.unusedSimpArgs false
/-! ### Trim -/
section
variable (p : UInt8 → Bool)
def tl (L : List UInt8) : List UInt8 := L.dropWhile p
def tr (L : List UInt8) : List UInt8 := (L.reverse.dropWhile p).reverse
theorem tr_snoc (m : List UInt8) (y : UInt8) : tr p (m ++ [y]) = if p y then tr p m else m ++ [y] := by
  unfold tr
  rw [List.reverse_append, List.reverse_singleton, List.singleton_append, List.dropWhile_cons]
  split
  · rfl
  · simp
theorem tr_nil : tr p [] = [] := rfl
theorem tr_cons (x : UInt8) (m : List UInt8) : tr p (x :: m) = if tr p m = [] then (if p x then [] else [x]) else x :: tr p m := by
  unfold tr
  rw [List.reverse_cons, List.dropWhile_append]
  by_cases h : m.reverse.dropWhile p = []
  · simp [h, List.dropWhile_cons]
    split <;> simp
  · have h' : (m.reverse.dropWhile p).reverse ≠ [] := by simpa using h
    rw [if_neg (by simpa using h), if_neg h']
    simp
theorem tl_tr (L : List UInt8) : tl p (tr p L) = tr p (tl p L) := by
  induction L with
  | nil => rfl
  | cons x m ih =>
    rw [tr_cons]
    unfold tl at ih ⊢
    rw [List.dropWhile_cons]
    by_cases hx : p x = true
    · rw [if_pos hx, if_pos hx]
      split
      · rename_i h; rw [h] at ih; exact ih
      · rw [List.dropWhile_cons, if_pos hx]; exact ih
    · rw [if_neg hx, if_neg hx, tr_cons]
      split
      · rename_i h; simp [if_neg hx, List.dropWhile_cons, hx]
      · rw [List.dropWhile_cons, if_neg hx]
theorem tr_len (L : List UInt8) : (tr p L).length ≤ L.length := by
  unfold tr
  rw [List.length_reverse]
  have := (List.dropWhile_suffix p (l := L.reverse)).length_le
  simpa using this
theorem tl_len (L : List UInt8) : (tl p L).length ≤ L.length := (List.dropWhile_suffix p (l := L)).length_le
theorem tr_pre (L : List UInt8) : tr p L <+: L := by
  unfold tr
  have := List.dropWhile_suffix p (l := L.reverse)
  simpa using List.reverse_prefix.2 this
/-- what is trimmed on neither side stays; and what stays is trimmed on neither. -/
theorem trim_id (L : List UInt8) : tl p (tr p L) = L ↔ (∀ x m, L = x :: m → p x = false) ∧ (∀ m y, L = m ++ [y] → p y = false) := by
  constructor
  · intro h
    have h1 := tl_len p (tr p L)
    have h2 := tr_len p L
    rw [h] at h1
    have h3 : tr p L = L := (tr_pre p L).eq_of_length (by omega)
    rw [h3] at h
    refine ⟨fun x m e => ?_, fun m y e => ?_⟩
    · subst e
      cases hx : p x with
      | false => rfl
      | true =>
        unfold tl at h
        rw [List.dropWhile_cons, if_pos hx] at h
        have := congrArg List.length h
        have h4 := (List.dropWhile_suffix p (l := m)).length_le
        rw [List.length_cons] at this
        omega
    · subst e
      cases hy : p y with
      | false => rfl
      | true =>
        rw [tr_snoc, if_pos hy] at h3
        have := congrArg List.length h3
        have h4 := tr_len p m
        simp at this
        omega
  · rintro ⟨h1, h2⟩
    have h3 : tr p L = L := by
      rcases List.eq_nil_or_concat L with e | ⟨m, y, e⟩
      · subst e; rfl
      · subst e
        rw [List.concat_eq_append] at h2 ⊢
        rw [tr_snoc, if_neg (by rw [h2 m y rfl]; decide)]
    rw [h3]
    cases L with
    | nil => rfl
    | cons x m =>
      unfold tl
      rw [List.dropWhile_cons, if_neg (by rw [h1 x m rfl]; decide)]
end
def blankB (c : UInt8) : Bool := c == 9 || c == 32
theorem contains_blank (c : UInt8) : ([9, 32] : List UInt8).contains c = blankB c := by
  simp [blankB, List.contains, List.elem, Bool.or_comm]
  cases h : c == 9 <;> simp [h]
  all_goals (cases c == 32 <;> rfl)
theorem trimS_eq (L : List UInt8) : Lib.trimS L [9, 32] = tl blankB (tr blankB L) := by
  unfold Lib.trimS Lib.trimLeftS Lib.trimRightS tl tr
  have : (fun c => ([9, 32] : List UInt8).contains c) = blankB := funext contains_blank
  rw [this]
theorem blank_f (c : UInt8) : nuncioref02_blank.f c.toNat = some (blankB c) := by
  unfold nuncioref02_blank.f blankB
  have e (k : UInt8) : (c == k) = decide ((c.toNat : Int) = k.toNat) := by
    rw [Bool.eq_iff_iff]; simp only [beq_iff_eq, decide_eq_true_eq]
    exact ⟨fun h => by rw [h], fun h => UInt8.toNat_inj.1 (by omega)⟩
  rw [e 9, e 32]
  have e9 : ((9 : UInt8).toNat : Int) = 9 := rfl
  have e32 : ((32 : UInt8).toNat : Int) = 32 := rfl
  rw [e9, e32]
  by_cases h : (c.toNat : Int) = 9
  · rw [if_pos h]; simp [h]
  · rw [if_neg h]
    simp only [decide_eq_false h, Bool.false_or]
    congr 1

/-! ### Token -/
theorem sign_all : ∀ n : Fin 256, nuncioref02_sign.f 17 n.val = some (signB (UInt8.ofNat n.val)) := by decide +kernel
theorem sign_ev (c : UInt8) : Ev (fun k => nuncioref02_sign.f k c.toNat) (signB c) := by
  refine Ev.of (nuncioref02_sign.mono _) (k := 17) ?_
  have := sign_all ⟨c.toNat, c.toNat_lt⟩
  simpa using this
theorem tokenLoop (s : ByteArray) (hs : s.size ≤ 140737488355327) : ∀ (d i : Nat), i + d = s.size →
    Ev (fun k => nuncioref02_Token.l0 k s i) ((s.data.toList.drop i).all signB && decide (0 < s.size))
  | 0, i, hi => by
    refine Ev.step (fun k => rfl) ?_
    simp only [nuncioref02_Token.l0, if_neg (show ¬ (i : Int) < (s.size : Int) by omega)]
    rw [List.drop_of_length_le (by simp; omega)]
    simp only [List.all_nil, Bool.true_and]
    have : decide ((s.size : Int) > 0) = decide (0 < s.size) := by rw [Bool.eq_iff_iff]; simp
    rw [this]
    exact Ev.now _
  | d + 1, i, hi => by
    have hlt : i < s.size := by omega
    have ih := tokenLoop s hs d (i + 1) (by omega)
    refine Ev.step (fun k => rfl) ?_
    simp only [nuncioref02_Token.l0, if_pos (show (i : Int) < (s.size : Int) by omega), if_pos (show (0 : Int) ≤ (i : Int) by omega), wrap_succ i (by omega), bt_nat s i hlt]
    rw [drop_cons s i hlt, List.all_cons]
    generalize s.data.toList.getD i 0 = c
    refine Ev.bind (sign_ev c) ?_
    cases hc : signB c with
    | true => simp only [if_true, Bool.true_and]; exact ih
    | false => simp only [Bool.false_and, Bool.false_eq_true, if_false]; exact Ev.now _
theorem token_ev (s : ByteArray) (hs : s.size ≤ 140737488355327) : Ev (fun k => nuncioref02_Token.f k s) (!s.data.toList.isEmpty && s.data.toList.all signB) := by
  have h := tokenLoop s hs s.size 0 (by omega)
  rw [List.drop_zero] at h
  have e : decide (0 < s.size) = !s.data.toList.isEmpty := by
    have hl : s.data.toList.length = s.size := by simp
    cases hL : s.data.toList with
    | nil =>
      rw [hL] at hl
      have h1 : ¬ 0 < s.size := by rw [← hl]; simp
      rw [decide_eq_false h1]
      rfl
    | cons a b =>
      rw [hL] at hl
      have h1 : 0 < s.size := by rw [← hl]; exact Nat.succ_pos _
      rw [decide_eq_true h1]
      rfl
  rw [e, Bool.and_comm] at h
  exact h
theorem text_token (s : ByteArray) (hs : s.size ≤ 140737488355327) : text_Token.f s = some (!s.data.toList.isEmpty && s.data.toList.all signB) := by
  unfold text_Token.f; rw [if_pos (Nat.le_trans hs (by decide))]

/-! ### Value -/
theorem shown_all : ∀ n : Fin 256, text_shown.f n.val = some (shownB (UInt8.ofNat n.val)) := by decide +kernel
theorem shown_nat : ∀ n : Fin 256, shownB (UInt8.ofNat n.val) = (decide (n.val = 9) || (decide (32 ≤ n.val) && decide (n.val ≤ 126)) || decide (128 ≤ n.val)) := by decide +kernel
theorem shownB_eq (c : UInt8) : shownB c = (decide ((c.toNat : Int) = 9) || (decide ((32 : Int) ≤ c.toNat) && decide ((c.toNat : Int) ≤ 126)) || decide ((128 : Int) ≤ c.toNat)) := by
  have := shown_nat ⟨c.toNat, c.toNat_lt⟩
  simp only [UInt8.ofNat_toNat] at this
  rw [this, Bool.eq_iff_iff]
  simp only [Bool.or_eq_true, Bool.and_eq_true, decide_eq_true_eq]
  omega
/-- neither the first nor the last is a blank -/
def endsB (L : List UInt8) : Bool := L.isEmpty || (!blankB (L.getD 0 0) && !blankB (L.getD (L.length - 1) 0))
theorem valueLoop (s : ByteArray) (hs : s.size ≤ 140737488355327) : ∀ (d i : Nat), i + d = s.size →
    Ev (fun k => nuncioref02_Value.l0 k s i) ((s.data.toList.drop i).all shownB && endsB s.data.toList)
  | 0, i, hi => by
    refine Ev.step (fun k => rfl) ?_
    simp only [nuncioref02_Value.l0, if_neg (show ¬ (i : Int) < (s.size : Int) by omega)]
    rw [List.drop_of_length_le (by simp; omega)]
    simp only [List.all_nil, Bool.true_and]
    have hl : s.data.toList.length = s.size := by simp
    by_cases h0 : s.size = 0
    · have : s.data.toList = [] := List.eq_nil_of_length_eq_zero (by omega)
      simp only [if_pos (show (s.size : Int) = 0 by omega), this]
      exact Ev.now _
    · have hne : s.data.toList.isEmpty = false := by cases hL : s.data.toList with | nil => rw [hL] at hl; simp at hl; omega | cons a b => rfl
      have hw : wrap64 ((s.size : Int) - 1) = ((s.size - 1 : Nat) : Int) := by unfold wrap64; omega
      have hb0 := bt_nat s 0 (by omega)
      simp only [if_neg (show ¬ (s.size : Int) = 0 by omega), if_pos (show (0 : Int) < (s.size : Int) by omega), hw, if_pos (show (0 : Int) ≤ ((s.size - 1 : Nat) : Int) by omega), if_pos (show ((s.size - 1 : Nat) : Int) < (s.size : Int) by omega), bt_nat s (s.size - 1) (by omega)]
      rw [show bt s 0 = _ from hb0]
      simp only [blank_f, Option.bind_some]
      unfold endsB
      rw [hne, hl, Bool.false_or]
      cases blankB (s.data.toList.getD 0 0) with
      | true => simp only [if_true, Bool.not_true, Bool.false_and]; exact Ev.now _
      | false => simp only [Bool.false_eq_true, if_false, Bool.not_false, Bool.true_and]; exact Ev.now _
  | d + 1, i, hi => by
    have hlt : i < s.size := by omega
    have ih := valueLoop s hs d (i + 1) (by omega)
    refine Ev.step (fun k => rfl) ?_
    simp only [nuncioref02_Value.l0, if_pos (show (i : Int) < (s.size : Int) by omega), if_pos (show (0 : Int) ≤ (i : Int) by omega), wrap_succ i (by omega), bt_nat s i hlt, in_f, Option.bind_some]
    rw [drop_cons s i hlt, List.all_cons]
    generalize s.data.toList.getD i 0 = c
    rw [shownB_eq]
    by_cases h9 : (c.toNat : Int) = 9
    · simp only [if_pos h9, decide_eq_true h9, Bool.true_or, Bool.true_and]; exact ih
    · simp only [if_neg h9, decide_eq_false h9, Bool.false_or]
      cases h : (decide ((32 : Int) ≤ c.toNat) && decide ((c.toNat : Int) ≤ 126)) with
      | true => simp only [if_true, Bool.true_or, Bool.true_and]; exact ih
      | false =>
        simp only [Bool.false_eq_true, if_false, Bool.false_or]
        by_cases h128 : (c.toNat : Int) < 128
        · simp only [if_pos h128, decide_eq_false (show ¬ (128 : Int) ≤ c.toNat by omega), Bool.false_and]; exact Ev.now _
        · simp only [if_neg h128, decide_eq_true (show (128 : Int) ≤ c.toNat by omega), Bool.true_and]; exact ih
theorem endsB_iff (L : List UInt8) : endsB L = decide (Lib.trimS L [9, 32] = L) := by
  rw [trimS_eq, Bool.eq_iff_iff, decide_eq_true_eq, trim_id]
  unfold endsB
  constructor
  · intro h
    refine ⟨fun x m e => ?_, fun m y e => ?_⟩
    · subst e
      simp at h
      exact h.1
    · subst e
      have hne : (m ++ [y]).isEmpty = false := by simp
      rw [hne] at h
      simp at h
      exact h.2
  · rintro ⟨h1, h2⟩
    cases L with
    | nil => rfl
    | cons x m =>
      have hx := h1 x m rfl
      have hy : blankB ((x :: m).getD ((x :: m).length - 1) 0) = false := by
        rcases List.eq_nil_or_concat (x :: m) with e | ⟨q, y, e⟩
        · cases e
        · rw [List.concat_eq_append] at e
          rw [e]
          have := h2 q y e
          simpa using this
      rw [hy]
      simp [hx]
theorem value_ev (s : ByteArray) (hs : s.size ≤ 140737488355327) : Ev (fun k => nuncioref02_Value.f k s) (s.data.toList.all shownB && endsB s.data.toList) := valueLoop s hs s.size 0 (by omega)
theorem text_value (s : ByteArray) (hs : s.size ≤ 140737488355327) : text_Value.f s = some (s.data.toList.all shownB && endsB s.data.toList) := by
  unfold text_Value.f; rw [if_pos (by omega), endsB_iff]
end Go.Proofs.YtkcliilifdcbbaaDoor.Pure
