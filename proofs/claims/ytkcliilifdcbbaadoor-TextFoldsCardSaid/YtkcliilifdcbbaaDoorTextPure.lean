/- Plain facts about the texts' functions: what the reference's loops answer, in lists of bytes. No condition but the lengths that each names. -/
import Derived.Test.YtkcliilifdcbbaaDoorPx14
import Derived.KernelRfl
namespace Go.Proofs.YtkcliilifdcbbaaDoor.Pure
open Go.RowKit Go.Proofs.YtkcliilifdcbbaaDoor.P Go.Proofs.YtkcliilifdcbbaaDoorW.PrintWords Go.Proofs.YtkcliilifdcbbaaDoorW.PrintLast Go.Proofs.YtkcliilifdcbbaaDoorW.PrintMore
set_option linter.unusedVariables false
set_option linter.unusedSimpArgs false
theorem awake_ok : P.nunciolaw02_awake.f = some true := by kernel_rfl

theorem bt_nat (s : ByteArray) (i : Nat) (h : i < s.size) : bt s i = ((s.data.toList.getD i 0).toNat : Int) := by
  unfold bt
  rw [dif_pos (by simpa using h)]
  have h' : i < s.data.toList.length := by simpa using h
  simp only [Int.toNat_natCast, List.getD_eq_getElem?_getD, List.getElem?_eq_getElem h', Option.getD_some, Array.getElem_toList]
  rfl
theorem drop_cons (s : ByteArray) (i : Nat) (h : i < s.size) : s.data.toList.drop i = s.data.toList.getD i 0 :: s.data.toList.drop (i + 1) := by
  have h' : i < s.data.toList.length := by simpa using h
  rw [List.drop_eq_getElem_cons h']
  simp [List.getD, h]
theorem wrap_succ (i : Nat) (h : i < 9223372036854775807) : wrap64 ((i : Int) + 1) = ((i + 1 : Nat) : Int) := by unfold wrap64; omega
theorem in_f (a b c : Int) : nuncioref02_in.f a b c = some (decide (b ≤ a) && decide (a ≤ c)) := by
  unfold nuncioref02_in.f
  by_cases h : a ≥ b
  · rw [if_pos h]; have : b ≤ a := h; simp [this]
  · rw [if_neg h]; have : ¬ b ≤ a := h; simp [this]
theorem fold8_nat (c : UInt8) : (fold8 c).toNat = if 65 ≤ c.toNat ∧ c.toNat ≤ 90 then c.toNat + 32 else c.toNat := by
  have hc := c.toNat_lt
  unfold fold8
  simp only [UInt8.le_iff_toNat_le, UInt8.toNat_ofNat]
  have e : (65 : UInt8).toNat = 65 ∧ (90 : UInt8).toNat = 90 := ⟨rfl, rfl⟩
  by_cases h : 65 ≤ c.toNat ∧ c.toNat ≤ 90
  · rw [if_pos h, if_pos (by simpa using h), UInt8.toNat_add]
    have : (32 : UInt8).toNat = 32 := rfl
    omega
  · rw [if_neg h, if_neg (by simpa using h)]
theorem fold8_idem (c : UInt8) : fold8 (fold8 c) = fold8 c := by
  apply UInt8.toNat_inj.1
  rw [fold8_nat (fold8 c), fold8_nat c]
  have hc := c.toNat_lt
  repeat' split
  all_goals omega
theorem strOfNums_nums (l : List UInt8) : strOfNums (l.map fun c => (c.toNat : Int)) = ⟨l.toArray⟩ := by
  unfold strOfNums
  congr 2
  rw [List.map_map]
  conv => rhs; rw [← List.map_id l]
  apply List.map_congr_left
  intro c _
  simp
theorem ofNum (c : UInt8) : UInt8.ofNat ((c.toNat : Int)).toNat = c := by simp

/-! ### Fold -/
theorem foldLoop (s : ByteArray) (hs : s.size ≤ 140737488355327) : ∀ (d i : Nat) (acc : List Int), i + d = s.size → acc.length = i →
    Ev (fun k => nuncioref02_Fold.l0 k s acc i) (strOfNums (acc ++ (s.data.toList.drop i).map fun c => ((fold8 c).toNat : Int)))
  | 0, i, acc, hi, ha => by
    refine Ev.step (fun k => rfl) ?_
    simp only [nuncioref02_Fold.l0, if_neg (show ¬ (i : Int) < (s.size : Int) by omega)]
    rw [List.drop_of_length_le (by simp; omega)]
    simp only [List.map_nil, List.append_nil]
    exact Ev.now _
  | d + 1, i, acc, hi, ha => by
    have hlt : i < s.size := by omega
    have ih := fun v => foldLoop s hs d (i + 1) (acc ++ [v]) (by omega) (by simp [ha])
    refine Ev.step (fun k => rfl) ?_
    simp only [nuncioref02_Fold.l0, if_pos (show (i : Int) < (s.size : Int) by omega), if_pos (show (0 : Int) ≤ (i : Int) by omega), in_f, Option.bind_some, if_pos (show acc.length < 140737488355328 by omega), wrap_succ i (by omega), bt_nat s i hlt]
    rw [drop_cons s i hlt, List.map_cons]
    generalize s.data.toList.getD i 0 = c
    have hn := fold8_nat c
    by_cases h : 65 ≤ c.toNat ∧ c.toNat ≤ 90
    · rw [if_pos h] at hn
      have h1 : (decide ((65 : Int) ≤ (c.toNat : Int)) && decide ((c.toNat : Int) ≤ 90)) = true := by simp; omega
      simp only [h1, if_true]
      have e : ((c.toNat : Int) + 32) % 256 = ((fold8 c).toNat : Int) := by omega
      rw [e]
      have := ih ((fold8 c).toNat : Int)
      rw [List.append_assoc] at this
      exact this
    · rw [if_neg h] at hn
      have h1 : (decide ((65 : Int) ≤ (c.toNat : Int)) && decide ((c.toNat : Int) ≤ 90)) = false := by simp; omega
      simp only [h1, if_false, Bool.false_eq_true]
      have e : (c.toNat : Int) = ((fold8 c).toNat : Int) := by omega
      rw [e]
      have := ih ((fold8 c).toNat : Int)
      rw [List.append_assoc] at this
      exact this
/-- the text in small letters -/
def FD (s : ByteArray) : ByteArray := ⟨s.data.map fold8⟩
theorem FD_list (s : ByteArray) : (FD s).data.toList = s.data.toList.map fold8 := by simp [FD]
theorem FD_size (s : ByteArray) : (FD s).size = s.size := by show (s.data.map fold8).size = s.data.size; exact Array.size_map
theorem fold_ev (s : ByteArray) (hs : s.size ≤ 140737488355327) : Ev (fun k => nuncioref02_Fold.f k s) (FD s) := by
  have h := foldLoop s hs s.size 0 [] (by omega) rfl
  have e : strOfNums ([] ++ (s.data.toList.drop 0).map fun c => ((fold8 c).toNat : Int)) = FD s := by
    rw [List.nil_append, List.drop_zero]
    have : (s.data.toList.map fun c => ((fold8 c).toNat : Int)) = (s.data.toList.map fold8).map fun c => (c.toNat : Int) := by rw [List.map_map]; rfl
    rw [this, strOfNums_nums]
    unfold FD
    congr 1
    apply Array.ext'
    simp
  rw [e] at h
  exact h
theorem text_fold (s : ByteArray) (hs : s.size ≤ 9223372036854775807) : text_Fold.f s = some (FD s) := by unfold text_Fold.f; rw [if_pos hs]; rfl
theorem FD_idem (s : ByteArray) : FD (FD s) = FD s := by
  unfold FD
  congr 1
  apply Array.ext'
  simp only [Array.toList_map, List.map_map]
  apply List.map_congr_left
  intro c _
  exact fold8_idem c
theorem FD_append (a b : ByteArray) : FD (a ++ b) = FD a ++ FD b := by
  apply ByteArray.ext
  simp [FD]
theorem toList_inj (a b : ByteArray) (h : a.toList = b.toList) : a = b := by
  rw [Lib.toList_data, Lib.toList_data] at h
  apply ByteArray.ext
  exact Array.ext' h
theorem toList_beq (a b : ByteArray) : (a.toList == b.toList) = decide (a = b) := by
  rw [Bool.eq_iff_iff]
  simp only [beq_iff_eq, decide_eq_true_eq]
  exact ⟨toList_inj a b, fun h => by rw [h]⟩
theorem text_same (a b : ByteArray) (ha : a.size ≤ 9223372036854775807) (hb : b.size ≤ 9223372036854775807) : text_Same.f a b = some (decide (FD a = FD b)) := by
  unfold text_Same.f
  by_cases h : (a.size : Int) = (b.size : Int)
  · rw [if_pos h, text_fold a ha, text_fold b hb]
    simp only [Option.bind_some, toList_beq]
  · rw [if_neg h]
    have : ¬ FD a = FD b := fun e => h (by have := congrArg ByteArray.size e; rw [FD_size, FD_size] at this; omega)
    simp [this]

theorem TextFolds : P.nunciolaw02_TextFolds.Pure := by
  intro a b ha hb
  have h : Ev (fun k => nunciolaw02_TextFolds.f k a b) true := by
    unfold nunciolaw02_TextFolds.f
    rw [awake_ok]
    simp only [Option.bind_some, if_true]
    have hj : Ev (fun k => nunciolaw02_TextFolds.j0 k a b true) true := Ev.step (fun k => rfl) (Ev.now _)
    by_cases h1 : (a.size : Int) > 20000
    · simp only [if_pos h1]; exact hj
    · simp only [if_neg h1]
      by_cases h2 : (b.size : Int) > 20000
      · simp only [decide_eq_true h2]; exact hj
      · simp only [decide_eq_false h2]
        refine Ev.step (fun k => rfl) ?_
        simp only [nunciolaw02_TextFolds.j0, Bool.false_eq_true, if_false, text_fold a (by omega), Option.bind_some]
        refine Ev.bind (fold_ev a (by omega)) ?_
        simp only [if_true, text_fold (FD a) (by rw [FD_size]; omega), Option.bind_some, FD_idem, text_same a b (by omega) (by omega)]
        refine Ev.bind (fold_ev a (by omega)) ?_
        refine Ev.bind (fold_ev b (by omega)) ?_
        have hz : (a ++ b).size = a.size + b.size := ByteArray.size_append
        simp only [toList_beq, beq_self_eq_true, if_true, text_same a (FD a) (by omega) (by rw [FD_size]; omega), FD_idem, decide_true, Option.bind_some, if_pos (show a.size + b.size ≤ 9223372036854775807 by omega), text_fold (a ++ b) (by rw [hz]; omega), text_fold b (by omega), FD_size, FD_append]
        exact Ev.now _
  exact h.rounds
end Go.Proofs.YtkcliilifdcbbaaDoor.Pure
