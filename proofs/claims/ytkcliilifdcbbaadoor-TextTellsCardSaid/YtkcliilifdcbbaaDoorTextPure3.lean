/- The laws TextTells and TextJoins: tokens, values and media types are told as the reference tells them; two texts, one behind the other. -/
import Derived.Test.YtkcliilifdcbbaaDoorTextPure2
import Derived.Lib.IndexBytes
namespace Go.Proofs.YtkcliilifdcbbaaDoor.Pure
open Go.RowKit Go.Proofs.YtkcliilifdcbbaaDoor.P Go.Proofs.YtkcliilifdcbbaaDoorW.PrintWords Go.Proofs.YtkcliilifdcbbaaDoorW.PrintLast Go.Proofs.YtkcliilifdcbbaaDoorW.PrintMore
set_option linter.unusedVariables false
set_option linter.unusedSimpArgs false
/-! ### Media -/
def upto (c : UInt8) (L : List UInt8) : List UInt8 := L.takeWhile (· != c)
theorem cut_one (L : List UInt8) (c : UInt8) : (Lib.cut L [c]).1 = upto c L := by
  have h : ∀ L : List UInt8, (if 0 ≤ Lib.indexByte L c then L.take (Lib.indexByte L c).toNat else L) = upto c L := by
    intro L
    induction L with
    | nil => rfl
    | cons b l ih =>
      unfold Lib.indexByte
      unfold upto at ih ⊢
      rw [List.takeWhile_cons]
      by_cases hb : (b == c) = true
      · have : (b != c) = false := by simp [bne, hb]
        rw [if_pos hb, this]
        rfl
      · have hn : (b != c) = true := by simp [bne, hb]
        rw [if_neg hb, hn]
        have hge := Lib.indexByte_ge l c
        by_cases h1 : (Lib.indexByte l c == -1) = true
        · rw [if_pos h1]
          have h2 : Lib.indexByte l c = -1 := by simpa using h1
          rw [h2] at ih
          rw [if_neg (by omega)] at ih ⊢
          simp only [if_true]
          rw [← ih]
        · rw [if_neg h1]
          have h2 : ¬ Lib.indexByte l c = -1 := by simpa using h1
          rw [if_pos (by omega)] at ih ⊢
          rw [show (Lib.indexByte l c + 1).toNat = (Lib.indexByte l c).toNat + 1 by omega, List.take_succ_cons]
          simp only [if_true]
          rw [← ih]
  unfold Lib.cut
  rw [Lib.index_one]
  rw [← h L]
  split <;> rfl
def mediaL (L : List UInt8) : List UInt8 := (tl blankB (tr blankB (upto 59 L))).map fold8
def mediaB (s : ByteArray) : ByteArray := ⟨(mediaL s.data.toList).toArray⟩
theorem upto_len (c : UInt8) (L : List UInt8) : (upto c L).length ≤ L.length := (List.takeWhile_prefix _).length_le
theorem mk_size (L : List UInt8) : (⟨L.toArray⟩ : ByteArray).size = L.length := by simp [ByteArray.size]
theorem text_trim (L : List UInt8) (h : L.length ≤ 140737488355327) : strings_Trim.f ⟨L.toArray⟩ ⟨#[9, 32]⟩ = some ⟨(tl blankB (tr blankB L)).toArray⟩ := by
  unfold strings_Trim.f
  rw [if_pos ⟨by rw [mk_size]; omega, by decide, by decide⟩]
  have e := trimS_eq L
  exact congrArg (fun l : List UInt8 => some (⟨l.toArray⟩ : ByteArray)) e
theorem text_media (s : ByteArray) (hs : s.size ≤ 140737488355327) : text_Media.f s = some (mediaB s) := by
  have hl : s.data.toList.length = s.size := by simp
  have h1 := upto_len 59 s.data.toList
  have h2 := tr_len blankB (upto 59 s.data.toList)
  have h3 := tl_len blankB (tr blankB (upto 59 s.data.toList))
  unfold text_Media.f strings_Cut.f
  rw [if_pos ⟨by omega, rfl⟩]
  simp only [Option.bind_some]
  rw [cut_one, text_trim _ (by omega)]
  simp only [Option.bind_some]
  rw [text_fold _ (by rw [mk_size]; omega)]
  simp only [Option.bind_some]
  unfold mediaB mediaL FD
  simp
theorem FD_nil : FD ⟨([] : List UInt8).toArray⟩ = ⟨([] : List UInt8).toArray⟩ := by unfold FD; simp
theorem extract_list (s : ByteArray) (i j : Nat) : (s.extract i j) = ⟨((s.data.toList.drop i).take (j - i)).toArray⟩ := Lib.extract_eq s i j
theorem take_at (s : ByteArray) (f e : Nat) (hf : f < e) (he : e ≤ s.size) : (s.data.toList.drop f).take (e - f) = (s.data.toList.drop f).take (e - 1 - f) ++ [s.data.toList.getD (e - 1) 0] := by
  have hl : s.data.toList.length = s.size := by simp
  rw [show e - f = (e - 1 - f) + 1 by omega, List.take_succ_eq_append_getElem (by rw [List.length_drop]; omega)]
  congr 1
  rw [List.getElem_drop]
  have : f + (e - 1 - f) = e - 1 := by omega
  simp only [this]
  rw [List.getD_eq_getElem?_getD, List.getElem?_eq_getElem (by omega)]
  rfl
theorem media2 (s : ByteArray) (hs : s.size ≤ 140737488355327) (f : Nat) : ∀ (d e : Nat), f + d = e → e ≤ s.size →
    Ev (fun k => nuncioref02_Media.l2 k s e f) ⟨((tr blankB ((s.data.toList.drop f).take (e - f))).map fold8).toArray⟩
  | 0, e, he, hes => by
    have hl : s.data.toList.length = s.size := by simp
    refine Ev.step (fun k => rfl) ?_
    simp only [nuncioref02_Media.l2, if_neg (show ¬ (e : Int) > (f : Int) by omega), if_pos (show (0 : Int) ≤ (f : Int) by omega), if_pos (show (f : Int) ≤ (e : Int) by omega), if_pos (show (e : Int) ≤ (s.size : Int) by omega), Int.toNat_natCast, extract_list, Option.bind_fun_some]
    rw [show e - f = 0 by omega, List.take_zero]
    have := fold_ev ⟨([] : List UInt8).toArray⟩ (by rw [mk_size]; simp)
    rw [FD_nil] at this
    exact this
  | d + 1, e, he, hes => by
    have hl : s.data.toList.length = s.size := by simp
    have ih := media2 s hs f d (e - 1) (by omega) (by omega)
    refine Ev.step (fun k => rfl) ?_
    have hw : wrap64 ((e : Int) - 1) = ((e - 1 : Nat) : Int) := by unfold wrap64; omega
    simp only [nuncioref02_Media.l2, if_pos (show (e : Int) > (f : Int) by omega), hw, if_pos (show (0 : Int) ≤ ((e - 1 : Nat) : Int) by omega), if_pos (show ((e - 1 : Nat) : Int) < (s.size : Int) by omega), bt_nat s (e - 1) (by omega), blank_f, Option.bind_some]
    rw [take_at s f e (by omega) (by omega), tr_snoc]
    cases hb : blankB (s.data.toList.getD (e - 1) 0) with
    | true => simp only [if_true]; exact ih
    | false =>
      simp only [Bool.false_eq_true, if_false, if_pos (show (0 : Int) ≤ (f : Int) by omega), if_pos (show (f : Int) ≤ (e : Int) by omega), if_pos (show (e : Int) ≤ (s.size : Int) by omega), Int.toNat_natCast, extract_list, Option.bind_fun_some]
      rw [← take_at s f e (by omega) (by omega)]
      have hz : (⟨((s.data.toList.drop f).take (e - f)).toArray⟩ : ByteArray).size ≤ 140737488355327 := by rw [mk_size, List.length_take, List.length_drop]; omega
      have := fold_ev _ hz
      unfold FD at this
      simpa using this
theorem media1 (s : ByteArray) (hs : s.size ≤ 140737488355327) (e : Nat) (hes : e ≤ s.size) : ∀ (d f : Nat), f + d = e →
    Ev (fun k => nuncioref02_Media.l1 k s e f) ⟨((tr blankB (tl blankB ((s.data.toList.drop f).take (e - f)))).map fold8).toArray⟩
  | 0, f, he => by
    refine Ev.step (fun k => rfl) ?_
    simp only [nuncioref02_Media.l1, if_neg (show ¬ (f : Int) < (e : Int) by omega)]
    refine Ev.step (fun k => rfl) ?_
    simp only [nuncioref02_Media.j3]
    have := media2 s hs f 0 e (by omega) (by omega)
    rw [show e - f = 0 by omega, List.take_zero] at this ⊢
    exact this
  | d + 1, f, he => by
    have hl : s.data.toList.length = s.size := by simp
    have ih := media1 s hs e hes d (f + 1) (by omega)
    refine Ev.step (fun k => rfl) ?_
    simp only [nuncioref02_Media.l1, if_pos (show (f : Int) < (e : Int) by omega), if_pos (show (0 : Int) ≤ (f : Int) by omega), if_pos (show (f : Int) < (s.size : Int) by omega), wrap_succ f (by omega), bt_nat s f (by omega), blank_f, Option.bind_some]
    have ed : (s.data.toList.drop f).take (e - f) = s.data.toList.getD f 0 :: (s.data.toList.drop (f + 1)).take (e - (f + 1)) := by
      rw [drop_cons s f (by omega), show e - f = (e - (f + 1)) + 1 by omega, List.take_succ_cons]
    rw [ed]
    cases hb : blankB (s.data.toList.getD f 0) with
    | true =>
      simp only [if_true]
      unfold tl at ih ⊢
      rw [List.dropWhile_cons, if_pos hb]
      exact ih
    | false =>
      simp only [Bool.false_eq_true, if_false]
      refine Ev.step (fun k => rfl) ?_
      simp only [nuncioref02_Media.j3]
      have := media2 s hs f (e - f) e (by omega) hes
      rw [ed] at this
      unfold tl
      rw [List.dropWhile_cons, if_neg (by rw [hb]; decide)]
      exact this
theorem media0 (s : ByteArray) (hs : s.size ≤ 140737488355327) : ∀ (d i : Nat), i + d = s.size → upto 59 s.data.toList = s.data.toList.take i ++ upto 59 (s.data.toList.drop i) →
    Ev (fun k => nuncioref02_Media.l0 k s i) (mediaB s)
  | 0, i, hi, hu => by
    have hl : s.data.toList.length = s.size := by simp
    refine Ev.step (fun k => rfl) ?_
    simp only [nuncioref02_Media.l0, if_neg (show ¬ (i : Int) < (s.size : Int) by omega)]
    refine Ev.step (fun k => rfl) ?_
    simp only [nuncioref02_Media.j1]
    have := media1 s hs i (by omega) i 0 (by omega)
    rw [List.drop_zero, Nat.sub_zero, ← tl_tr] at this
    unfold mediaB mediaL
    rw [List.drop_of_length_le (by omega), show upto 59 ([] : List UInt8) = [] from rfl, List.append_nil] at hu
    rw [hu]
    exact this
  | d + 1, i, hi, hu => by
    have hl : s.data.toList.length = s.size := by simp
    have ih := media0 s hs d (i + 1) (by omega)
    refine Ev.step (fun k => rfl) ?_
    simp only [nuncioref02_Media.l0, if_pos (show (i : Int) < (s.size : Int) by omega), if_pos (show (0 : Int) ≤ (i : Int) by omega), wrap_succ i (by omega), bt_nat s i (by omega)]
    have hts := take_snoc s i (by omega)
    rw [drop_cons s i (by omega)] at hu
    generalize s.data.toList.getD i 0 = c at hu hts ⊢
    unfold upto at hu ih
    rw [List.takeWhile_cons] at hu
    by_cases hc : (c.toNat : Int) = 59
    · have e : (c != 59) = false := by
        have : c = 59 := UInt8.toNat_inj.1 (by have : (59 : UInt8).toNat = 59 := rfl; omega)
        rw [this]; rfl
      rw [e] at hu
      simp only [Bool.false_eq_true, if_false, List.append_nil] at hu
      simp only [if_pos hc]
      refine Ev.step (fun k => rfl) ?_
      simp only [nuncioref02_Media.j1]
      have := media1 s hs i (by omega) i 0 (by omega)
      rw [List.drop_zero, Nat.sub_zero, ← tl_tr] at this
      unfold mediaB mediaL upto
      rw [hu]
      exact this
    · have e : (c != 59) = true := by
        rw [bne_iff_ne]
        intro h
        exact hc (by rw [h]; rfl)
      rw [e] at hu
      simp only [if_true] at hu
      simp only [if_neg hc]
      refine ih ?_
      rw [hu, hts]
      simp
theorem media_ev (s : ByteArray) (hs : s.size ≤ 140737488355327) : Ev (fun k => nuncioref02_Media.f k s) (mediaB s) := media0 s hs s.size 0 (by omega) (by simp)

theorem TextTells : P.nunciolaw02_TextTells.Pure := by
  intro a ha
  have h : Ev (fun k => nunciolaw02_TextTells.f k a) true := by
    unfold nunciolaw02_TextTells.f
    rw [awake_ok]
    simp only [Option.bind_some, if_true]
    by_cases h1 : (a.size : Int) > 20000
    · simp only [if_pos h1]; exact Ev.now _
    · simp only [if_neg h1, text_token a (by omega), Option.bind_some]
      refine Ev.bind (token_ev a (by omega)) ?_
      simp only [beq_self_eq_true, if_true, text_value a (by omega), Option.bind_some]
      refine Ev.bind (value_ev a (by omega)) ?_
      simp only [beq_self_eq_true, if_true, text_media a (by omega), Option.bind_some]
      refine Ev.bind (media_ev a (by omega)) ?_
      simp only [beq_self_eq_true]
      exact Ev.now _
  exact h.rounds

theorem app_list (a b : ByteArray) : (a ++ b).data.toList = a.data.toList ++ b.data.toList := by simp
theorem endsB_mid (x y : UInt8) (m : List UInt8) (hx : blankB x = false) (hy : blankB y = false) : endsB (x :: (m ++ [y])) = true := by
  unfold endsB
  have h1 : (x :: (m ++ [y])).getD 0 0 = x := rfl
  have h2 : (x :: (m ++ [y])).getD ((x :: (m ++ [y])).length - 1) 0 = y := by simp
  rw [h1, h2, hx, hy]
  rfl
theorem nil_iff (a : ByteArray) : (a.toList = []) = (a.data.toList.isEmpty = true) := by
  rw [Lib.toList_data]; simp
theorem TextJoins : P.nunciolaw02_TextJoins.Pure := by
  intro a b ha hb
  have h : Ev (fun k => nunciolaw02_TextJoins.f k a b) true := by
    unfold nunciolaw02_TextJoins.f
    rw [awake_ok]
    simp only [Option.bind_some, if_true]
    have hj : Ev (fun k => nunciolaw02_TextJoins.j0 k a b true) true := Ev.step (fun k => by simp only [nunciolaw02_TextJoins.j0]; rfl) (Ev.now _)
    by_cases h1 : (a.size : Int) > 20000
    · simp only [if_pos h1]; exact hj
    · simp only [if_neg h1]
      by_cases h2 : (b.size : Int) > 20000
      · simp only [decide_eq_true h2]; exact hj
      · simp only [decide_eq_false h2]
        have hz : (a ++ b).size = a.size + b.size := ByteArray.size_append
        have hv : Ev (fun k => nunciolaw02_TextJoins.j1 k a false) true := by
          refine Ev.step (fun k => rfl) ?_
          simp only [nunciolaw02_TextJoins.j1, Bool.false_eq_true, if_false, text_value a (by omega), Option.bind_some]
          cases hva : (a.data.toList.all shownB && endsB a.data.toList) with
          | false => simp only [Bool.false_eq_true, if_false]; exact Ev.now _
          | true =>
            have hall : a.data.toList.all shownB = true := by rw [Bool.and_eq_true] at hva; exact hva.1
            have z1 : ((⟨#[120]⟩ : ByteArray) ++ a ++ (⟨#[121]⟩ : ByteArray)).size = 1 + a.size + 1 := by rw [ByteArray.size_append, ByteArray.size_append]; rfl
            have z2 : ((⟨#[120, 32]⟩ : ByteArray) ++ a ++ (⟨#[32, 121]⟩ : ByteArray)).size = 2 + a.size + 2 := by rw [ByteArray.size_append, ByteArray.size_append]; rfl
            have v1 : text_Value.f ((⟨#[120]⟩ : ByteArray) ++ a ++ (⟨#[121]⟩ : ByteArray)) = some true := by
              rw [text_value _ (by rw [z1]; omega), app_list, app_list]
              have e : (⟨#[120]⟩ : ByteArray).data.toList ++ a.data.toList ++ (⟨#[121]⟩ : ByteArray).data.toList = 120 :: (a.data.toList ++ [121]) := by simp
              rw [e, endsB_mid _ _ _ (by decide) (by decide)]
              simp only [List.all_cons, List.all_append, hall, List.all_nil]
              rfl
            have v2 : text_Value.f ((⟨#[120, 32]⟩ : ByteArray) ++ a ++ (⟨#[32, 121]⟩ : ByteArray)) = some true := by
              rw [text_value _ (by rw [z2]; omega), app_list, app_list]
              have e : (⟨#[120, 32]⟩ : ByteArray).data.toList ++ a.data.toList ++ (⟨#[32, 121]⟩ : ByteArray).data.toList = 120 :: ((32 :: (a.data.toList ++ [32])) ++ [121]) := by simp
              rw [e, endsB_mid _ _ _ (by decide) (by decide)]
              simp only [List.all_cons, List.all_append, hall, List.all_nil]
              rfl
            simp only [if_true, if_pos (show 1 + a.size ≤ 9223372036854775807 by omega), if_pos (show 1 + a.size + 1 ≤ 9223372036854775807 by omega), if_pos (show 2 + a.size ≤ 9223372036854775807 by omega), if_pos (show 2 + a.size + 2 ≤ 9223372036854775807 by omega), v1, v2, Option.bind_some]
            exact Ev.now _
        refine Ev.step (fun k => rfl) ?_
        simp only [nunciolaw02_TextJoins.j0, Bool.false_eq_true, if_false, if_pos (show a.size + b.size ≤ 9223372036854775807 by omega), text_token (a ++ b) (by rw [hz]; omega), text_token a (by omega), text_token b (by omega), Option.bind_some, nil_iff, app_list, List.all_append]
        cases hA : a.data.toList with
        | nil =>
          cases hB : b.data.toList with
          | nil => simp; exact hv
          | cons y m => cases hq : (y :: m).all signB <;> simp [hq] <;> exact hv
        | cons x l =>
          cases hB : b.data.toList with
          | nil => cases hp : (x :: l).all signB <;> simp [hp] <;> exact hv
          | cons y m => cases hp : (x :: l).all signB <;> cases hq : (y :: m).all signB <;> simp [hp, hq] <;> exact hv
  exact h.rounds
end Go.Proofs.YtkcliilifdcbbaaDoor.Pure
