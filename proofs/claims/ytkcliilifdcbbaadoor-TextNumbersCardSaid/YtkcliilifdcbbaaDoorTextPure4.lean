/- The laws TextNumbers and TextMedias: digits are read and numbers written as the reference does; blanks, letters' sizes and what stands behind a semicolon change nothing of a media type. -/
import Derived.Test.YtkcliilifdcbbaaDoorTextPure3
import Derived.Lib.ItoaNum
namespace Go.Proofs.YtkcliilifdcbbaaDoor.Pure
open Go.RowKit Go.Proofs.YtkcliilifdcbbaaDoor.P Go.Proofs.YtkcliilifdcbbaaDoorW.PrintWords Go.Proofs.YtkcliilifdcbbaaDoorW.PrintLast Go.Proofs.YtkcliilifdcbbaaDoorW.PrintMore
set_option linter.unusedVariables false
set_option linter.unusedSimpArgs false
/-! ### Numbers -/
def numB (n : Int) : ByteArray := if n < 0 then ⟨#[]⟩ else ⟨(Lib.decDigits n.toNat).toArray⟩
theorem text_number (n : Int) (h0 : -9223372036854775808 ≤ n) (h1 : n ≤ 9223372036854775807) : text_Number.f n = some (numB n) := by
  unfold text_Number.f numB
  by_cases h : n < 0
  · rw [if_pos h, if_pos h]
  · rw [if_neg h, if_neg h]
    unfold strconv_Itoa.f
    rw [if_pos ⟨h0, h1⟩]
    simp only [Option.bind_some]
    unfold Lib.itoa
    rw [if_neg h]
theorem strOfNums_one (x : Int) : strOfNums [x] = ⟨#[UInt8.ofNat x.toNat]⟩ := rfl
theorem one_size (b : UInt8) : (⟨#[b]⟩ : ByteArray).size = 1 := rfl
theorem app_mk (a : ByteArray) (l : List UInt8) (h : a = ⟨l.toArray⟩) (b : ByteArray) : a ++ b = ⟨(l ++ b.data.toList).toArray⟩ := by
  subst h
  apply ByteArray.ext
  simp
theorem numberLoop : ∀ (n : Nat) (acc : ByteArray), n ≤ 9223372036854775807 → acc.size + Lib.nDigits n ≤ 1000 → Ev (fun k => nuncioref02_Number.l0 k (n : Int) acc) ⟨(Lib.decDigits n ++ acc.data.toList).toArray⟩ := by
  intro n
  induction n using Nat.strongRecOn with
  | _ n ih =>
    intro acc hn ha
    refine Ev.step (fun k => rfl) ?_
    by_cases h : n < 10
    · have hz : (strOfNums [wrap64 (48 + (n : Int)) % 256]).size = 1 := by rw [strOfNums_one]; rfl
      rw [Lib.nDigits_small h] at ha
      simp only [nuncioref02_Number.l0, if_neg (show ¬ (n : Int) > 9 by omega), Option.bind_some, hz, if_pos (show 1 + acc.size ≤ 9223372036854775807 by omega)]
      have e : wrap64 (48 + (n : Int)) % 256 = ((48 + n : Nat) : Int) := by unfold wrap64; omega
      rw [e, strOfNums_one, Lib.decDigits, dif_pos h, Int.toNat_natCast, app_mk _ [UInt8.ofNat (48 + n)] rfl]
      exact Ev.now _
    · have hz : (strOfNums [wrap64 (48 + Int.tmod (n : Int) 10) % 256]).size = 1 := by rw [strOfNums_one]; rfl
      rw [Lib.nDigits_big h] at ha
      have hm : Int.tmod (n : Int) 10 = ((n % 10 : Nat) : Int) := by rw [Int.tmod_eq_emod_of_nonneg (by omega)]; omega
      have hd : wrap64 (Int.tdiv (n : Int) 10) = ((n / 10 : Nat) : Int) := by rw [Int.tdiv_eq_ediv_of_nonneg (by omega)]; unfold wrap64; omega
      simp only [nuncioref02_Number.l0, if_pos (show (n : Int) > 9 by omega), Option.bind_some, hz, if_pos (show 1 + acc.size ≤ 9223372036854775807 by omega), hd]
      have e : wrap64 (48 + Int.tmod (n : Int) 10) % 256 = ((48 + n % 10 : Nat) : Int) := by rw [hm]; unfold wrap64; omega
      rw [e, strOfNums_one, Int.toNat_natCast]
      have := ih (n / 10) (by omega) ((⟨#[UInt8.ofNat (48 + n % 10)]⟩ : ByteArray) ++ acc) (by omega) (by rw [ByteArray.size_append, one_size]; omega)
      rw [app_mk _ [UInt8.ofNat (48 + n % 10)] rfl] at this ⊢
      rw [Lib.decDigits, dif_neg h]
      simpa using this
theorem nDigits_le : ∀ (k n : Nat), n < 10 ^ k → 1 ≤ k → Lib.nDigits n ≤ k
  | 0, _, _, h => by omega
  | k + 1, n, h, _ => by
    by_cases h1 : n < 10
    · rw [Lib.nDigits_small h1]; omega
    · rw [Lib.nDigits_big h1]
      have hk : 1 ≤ k := by
        rcases Nat.eq_zero_or_pos k with e | e
        · subst e; simp at h; omega
        · exact e
      have := nDigits_le k (n / 10) (by rw [Nat.pow_succ] at h; omega) hk
      omega
theorem number_ev (n : Int) (h1 : n ≤ 9223372036854775807) : Ev (fun k => nuncioref02_Number.f k n) (numB n) := by
  unfold nuncioref02_Number.f numB
  by_cases h : n < 0
  · simp only [if_pos h]; exact Ev.now _
  · simp only [if_neg h]
    obtain ⟨m, rfl⟩ : ∃ m : Nat, n = m := ⟨n.toNat, by omega⟩
    have := numberLoop m ⟨#[]⟩ (by omega) (by have := nDigits_le 20 m (by omega) (by omega); rw [show (⟨#[]⟩ : ByteArray).size = 0 from rfl]; omega)
    simpa using this
/-! ### Digits -/
theorem dig_iff (c : UInt8) : ((c.toNat : Int) - 48) % 256 > 9 ↔ ¬ (48 ≤ c.toNat ∧ c.toNat ≤ 57) := by
  have := c.toNat_lt
  omega
/-- no number's digits begin with a nought, but nought's -/
theorem head_ne (n : Nat) (h : 1 ≤ n) : ∀ x m, Lib.decDigits n = x :: m → x.toNat ≠ 48 := by
  induction n using Nat.strongRecOn with
  | _ n ih =>
    intro x m e
    rw [Lib.decDigits] at e
    by_cases h1 : n < 10
    · rw [dif_pos h1] at e
      injection e with e _
      rw [← e, UInt8.toNat_ofNat']
      omega
    · rw [dif_neg h1] at e
      cases hd : Lib.decDigits (n / 10) with
      | nil =>
        have := Lib.decDigits_length (n / 10)
        have := Lib.nDigits_pos (n / 10)
        rw [hd] at *
        simp at *
        omega
      | cons y q =>
        rw [hd] at e
        injection e with e _
        rw [← e]
        exact ih (n / 10) (by omega) (by omega) y q hd
/-- the digits of the number that a text of digits stands for are that text, if it has no nought ahead -/
theorem digits_back : ∀ (m : Nat) (L : List UInt8), L.length = m → L ≠ [] → (∀ c ∈ L, 48 ≤ c.toNat ∧ c.toNat ≤ 57) → (L.length = 1 ∨ (L.getD 0 0).toNat ≠ 48) →
    ∃ n : Nat, decFrom 0 L = some (n : Int) ∧ Lib.decDigits n = L ∧ (n = 0 → L.length = 1) := by
  intro m
  induction m with
  | zero => intro L hl hne; exact absurd (List.eq_nil_of_length_eq_zero hl) hne
  | succ m ih =>
    intro L hl hne hd hh
    rcases List.eq_nil_or_concat L with e | ⟨q, c, e⟩
    · exact absurd e hne
    rw [List.concat_eq_append] at e
    subst e
    have hc := hd c (by simp)
    have hcd : ¬ ((c.toNat : Int) - 48) % 256 > 9 := by rw [dig_iff]; simpa using hc
    have hv : ((c.toNat : Int) - 48) % 256 = ((c.toNat - 48 : Nat) : Int) := by omega
    by_cases hq : q = []
    · subst hq
      refine ⟨c.toNat - 48, ?_, ?_, fun _ => rfl⟩
      · simp only [List.nil_append, decFrom]
        rw [if_neg hcd, hv]
        simp
      · rw [Lib.decDigits, dif_pos (by omega)]
        simp only [List.nil_append, List.cons.injEq, and_true]
        apply UInt8.toNat_inj.1
        rw [UInt8.toNat_ofNat']
        have := c.toNat_lt
        omega
    · have hql : q.length = m := by simp at hl; omega
      have hq0 : 0 < q.length := List.length_pos_iff.2 hq
      have hg : (q ++ [c]).getD 0 0 = q.getD 0 0 := by
        cases q with
        | nil => exact absurd rfl hq
        | cons a b => rfl
      rw [hg] at hh
      have hh' : (q.getD 0 0).toNat ≠ 48 := by
        rcases hh with h | h
        · rw [List.length_append, List.length_singleton] at h; omega
        · exact h
      obtain ⟨n, h1, h2, h3⟩ := ih q hql hq (fun c hc => hd c (by simp [hc])) (.inr hh')
      have hn : 1 ≤ n := by
        rcases Nat.eq_zero_or_pos n with e | e
        · subst e
          have hl1 := h3 rfl
          rw [Lib.decDigits, dif_pos (by omega)] at h2
          rw [← h2] at hh'
          simp at hh'
        · exact e
      refine ⟨n * 10 + (c.toNat - 48), ?_, ?_, fun h => by omega⟩
      · rw [decFrom_append, h1]
        simp only [Option.bind_some, decFrom]
        rw [if_neg hcd, hv]
        simp
      · rw [Lib.decDigits, dif_neg (by omega), show (n * 10 + (c.toNat - 48)) / 10 = n by omega, show (n * 10 + (c.toNat - 48)) % 10 = c.toNat - 48 by omega, h2]
        congr 2
        apply UInt8.toNat_inj.1
        rw [UInt8.toNat_ofNat']
        have := c.toNat_lt
        omega
theorem decFrom_digits : ∀ (L : List UInt8) (n r : Int), decFrom n L = some r → ∀ c ∈ L, 48 ≤ c.toNat ∧ c.toNat ≤ 57
  | [], _, _, _, _, hc => by cases hc
  | x :: l, n, r, h, c, hc => by
    simp only [decFrom] at h
    split at h
    · cases h
    · rename_i hx
      rcases List.mem_cons.1 hc with e | hc
      · subst e
        rw [dig_iff] at hx
        omega
      · exact decFrom_digits l _ r h c hc
theorem decFrom_of_digits : ∀ (L : List UInt8) (n : Int), (∀ c ∈ L, 48 ≤ c.toNat ∧ c.toNat ≤ 57) → ∃ r, decFrom n L = some r
  | [], n, _ => ⟨n, rfl⟩
  | x :: l, n, h => by
    simp only [decFrom]
    rw [if_neg (by rw [dig_iff]; simpa using h x (List.mem_cons_self ..))]
    exact decFrom_of_digits l _ fun c hc => h c (List.mem_cons_of_mem _ hc)
theorem decDigits_digits (n : Nat) : ∀ c ∈ Lib.decDigits n, 48 ≤ c.toNat ∧ c.toNat ≤ 57 := by
  induction n using Nat.strongRecOn with
  | _ n ih =>
    intro c hc
    rw [Lib.decDigits] at hc
    by_cases h : n < 10
    · rw [dif_pos h] at hc
      rw [List.mem_singleton] at hc
      rw [hc, UInt8.toNat_ofNat']
      omega
    · rw [dif_neg h] at hc
      rcases List.mem_append.1 hc with hc | hc
      · exact ih _ (by omega) c hc
      · rw [List.mem_singleton] at hc
        rw [hc, UInt8.toNat_ofNat']
        omega
theorem decFrom_decDigits (n : Nat) : decFrom 0 (Lib.decDigits n) = some (n : Int) := by
  induction n using Nat.strongRecOn with
  | _ n ih =>
    rw [Lib.decDigits]
    have hx (k : Nat) (hk : k < 10) : (UInt8.ofNat (48 + k)).toNat = 48 + k := by rw [UInt8.toNat_ofNat']; omega
    by_cases h : n < 10
    · rw [dif_pos h]
      simp only [decFrom, hx n h]
      rw [if_neg (by omega)]
      congr 1
      omega
    · rw [dif_neg h, decFrom_append, ih _ (by omega)]
      simp only [Option.bind_some, decFrom, hx (n % 10) (by omega)]
      rw [if_neg (by omega)]
      congr 1
      omega
/-- what the reference tells of a text of at most nine bytes -/
def refDec (L : List UInt8) (most : Int) : Int × Bool :=
  match decFrom 0 L with
  | none => (0, false)
  | some n => if Lib.decDigits n.toNat = L then (if n > most then (0, false) else (n, true)) else (0, false)
theorem numB_list (n : Nat) : (numB (n : Int)).toList = Lib.decDigits n := by
  unfold numB
  rw [if_neg (by omega), Lib.toList_data]
  simp
theorem decLoop (s : ByteArray) (most : Int) (hs : s.size ≤ 9) : ∀ (d i : Nat) (n : Int), i + d = s.size → decFrom 0 (s.data.toList.take i) = some n → 0 ≤ n →
    Ev (fun k => nuncioref02_Decimal.l0 k s most n i) (refDec s.data.toList most)
  | 0, i, n, hi, hn, h0 => by
    have hl : s.data.toList.length = s.size := by simp
    refine Ev.step (fun k => rfl) ?_
    simp only [nuncioref02_Decimal.l0, if_neg (show ¬ (i : Int) < (s.size : Int) by omega)]
    rw [List.take_of_length_le (by omega)] at hn
    have hb := (decFrom_small s.data.toList n 9 (by omega) hn).2
    refine Ev.bind (number_ev n (by omega)) ?_
    obtain ⟨m, rfl⟩ : ∃ m : Nat, n = m := ⟨n.toNat, by omega⟩
    unfold refDec
    rw [hn]
    simp only [numB_list, Int.toNat_natCast]
    rw [Lib.toList_data]
    by_cases h : Lib.decDigits m = s.data.toList
    · simp only [if_pos h]
      by_cases hm : (m : Int) > most
      · simp only [if_pos hm]; exact Ev.now _
      · simp only [if_neg hm]; exact Ev.now _
    · simp only [if_neg h]; exact Ev.now _
  | d + 1, i, n, hi, hn, h0 => by
    have hlt : i < s.size := by omega
    have hl : s.data.toList.length = s.size := by simp
    refine Ev.step (fun k => rfl) ?_
    simp only [nuncioref02_Decimal.l0, if_pos (show (i : Int) < (s.size : Int) by omega), if_pos (show (0 : Int) ≤ (i : Int) by omega), wrap_succ i (by omega), bt_nat s i hlt, in_f, Option.bind_some]
    have hb := (decFrom_small (s.data.toList.take i) n 9 (by rw [List.length_take]; omega) hn).2
    by_cases hd : (((s.data.toList.getD i 0).toNat : Int) - 48) % 256 > 9
    · have hN := decFrom_snoc_none s i hlt n hn hd
      rw [dig_iff] at hd
      generalize s.data.toList.getD i 0 = c at hd
      have e : (decide ((48 : Int) ≤ (c.toNat : Int)) && decide ((c.toNat : Int) ≤ 57)) = false := by simp; omega
      simp only [e, Bool.false_eq_true, if_false]
      unfold refDec
      rw [hN]
      exact Ev.now _
    · have hN := decFrom_snoc_some s i hlt n hn hd
      have ih := fun (v : Int) hv h0 => decLoop s most hs d (i + 1) v (by omega) hv h0
      rw [dig_iff] at hd
      generalize s.data.toList.getD i 0 = c at hd hN
      have e : (decide ((48 : Int) ≤ (c.toNat : Int)) && decide ((c.toNat : Int) ≤ 57)) = true := by simp; omega
      have e2 : wrap64 (wrap64 (wrap64 (n * 10) + wrap64 (c.toNat : Int)) - 48) = n * 10 + ((c.toNat : Int) - 48) % 256 := by
        have h10 : wrap64 (n * 10) = n * 10 := by unfold wrap64; omega
        have hcc : wrap64 (c.toNat : Int) = c.toNat := by unfold wrap64; omega
        rw [h10, hcc]
        unfold wrap64
        omega
      simp only [e, if_true, e2]
      exact ih _ hN (by omega)
theorem bt0 (s : ByteArray) (h : 0 < s.size) : bt s 0 = ((s.data.toList.getD 0 0).toNat : Int) := bt_nat s 0 h
theorem decimal_eq (s : ByteArray) (most : Int) : decimal s most = if s.size > 9 then (0, false) else refDec s.data.toList most := by
  have hl : s.data.toList.length = s.size := by simp
  unfold decimal
  by_cases h9 : s.size > 9
  · rw [if_pos (.inr (.inl h9)), if_pos h9]
  · rw [if_neg h9]
    unfold refDec
    by_cases h0 : s.size < 1
    · rw [if_pos (.inl h0)]
      have : s.data.toList = [] := List.eq_nil_of_length_eq_zero (by omega)
      rw [this]
      simp only [decFrom, Int.toNat_zero]
      rw [if_neg]
      rw [Lib.decDigits, dif_pos (by omega)]
      simp
    · by_cases h48 : s.size > 1 ∧ bt s 0 = 48
      · rw [if_pos (.inr (.inr h48))]
        rw [bt0 s (by omega)] at h48
        cases hd : decFrom 0 s.data.toList with
        | none => rfl
        | some n =>
          simp only
          rw [if_neg]
          intro e
          have hb := (decFrom_small s.data.toList n 9 (by omega) hd).1
          rcases Nat.eq_zero_or_pos n.toNat with e0 | e0
          · rw [e0, Lib.decDigits, dif_pos (by omega)] at e
            have := congrArg List.length e
            simp at this
            omega
          · cases hL : s.data.toList with
            | nil => rw [hL] at hl; simp at hl; omega
            | cons x m =>
              rw [hL] at e h48
              exact head_ne n.toNat e0 x m e (by have := h48.2; simp at this; omega)
      · rw [if_neg (by omega)]
        cases hd : decFrom 0 s.data.toList with
        | none => rfl
        | some n =>
          obtain ⟨m, h1, h2, _⟩ := digits_back s.data.toList.length s.data.toList rfl (by intro e; rw [e] at hl; simp at hl; omega) (decFrom_digits _ _ _ hd) (by
            rw [bt0 s (by omega)] at h48
            omega)
          rw [h1] at hd
          obtain rfl := Option.some.inj hd
          simp only [Int.toNat_natCast, if_pos h2]
theorem decimal_ev (s : ByteArray) (most : Int) : Ev (fun k => nuncioref02_Decimal.f k s most) (decimal s most) := by
  rw [decimal_eq]
  unfold nuncioref02_Decimal.f
  by_cases h : s.size > 9
  · simp only [if_pos (show (s.size : Int) > 9 by omega), if_pos h]; exact Ev.now _
  · simp only [if_neg (show ¬ (s.size : Int) > 9 by omega), if_neg h]
    exact decLoop s most (by omega) s.size 0 0 (by omega) (by simp [decFrom]) (by omega)
/-- a number that was written is read, if it has nine digits at most -/
theorem decimal_numB (n : Int) (h : 0 ≤ n) : decimal (numB n) 999999999 = if n ≤ 999999999 then (n, true) else (0, false) := by
  obtain ⟨m, rfl⟩ : ∃ m : Nat, n = m := ⟨n.toNat, by omega⟩
  have hL : (numB (m : Int)).data.toList = Lib.decDigits m := by rw [← Lib.toList_data, numB_list]
  have hl : (numB (m : Int)).size = Lib.nDigits m := by rw [← Lib.decDigits_length, ← hL]; simp
  rw [decimal_eq, hL, hl]
  by_cases h9 : (m : Int) ≤ 999999999
  · rw [if_pos h9, if_neg (by have := nDigits_le 9 m (by omega) (by omega); omega)]
    unfold refDec
    rw [decFrom_decDigits]
    simp only [Int.toNat_natCast, if_true]
    rw [if_neg (by omega)]
  · rw [if_neg h9, if_pos]
    have := Lib.lt_pow_nDigits m
    rcases Nat.lt_or_ge 9 (Lib.nDigits m) with h | h
    · exact h
    · have : 10 ^ Lib.nDigits m ≤ 10 ^ 9 := Nat.pow_le_pow_right (by omega) h
      omega
theorem TextNumbers : P.nunciolaw02_TextNumbers.Pure := by
  intro s n most hs hn hm
  have hn' : -9223372036854775808 ≤ n ∧ n ≤ 9223372036854775807 := by simpa [Lit.wf, IntKind.min, IntKind.max, IntKind.signed, IntKind.bits] using hn
  have h : Ev (fun k => nunciolaw02_TextNumbers.f k s n most) true := by
    unfold nunciolaw02_TextNumbers.f
    rw [awake_ok]
    simp only [Option.bind_some, if_true]
    by_cases h1 : (s.size : Int) > 20000
    · simp only [if_pos h1]; exact Ev.now _
    · simp only [if_neg h1]
      unfold text_Decimal.f
      simp only [Option.bind_some]
      refine Ev.bind (decimal_ev s most) ?_
      simp only [if_true, bne_self_eq_false, Bool.false_eq_true, if_false, text_number n hn'.1 hn'.2, Option.bind_some]
      refine Ev.bind (number_ev n hn'.2) ?_
      simp only [bne_self_eq_false]
      refine Ev.step (fun k => rfl) ?_
      simp only [nunciolaw02_TextNumbers.j0, Bool.false_eq_true, if_false, text_number n hn'.1 hn'.2, Option.bind_some, text_Decimal.f]
      by_cases h0 : n ≥ 0
      · simp only [if_pos h0, decimal_numB n h0]
        by_cases h9 : n ≤ 999999999
        · simp only [if_pos h9, decide_eq_true h9, beq_self_eq_true, if_true]; exact Ev.now _
        · simp only [if_neg h9, decide_eq_false h9, beq_self_eq_true, if_true, Bool.false_eq_true, if_false]; exact Ev.now _
      · have e : numB n = ⟨#[]⟩ := by unfold numB; rw [if_pos (by omega)]
        have e2 : decimal ⟨#[]⟩ 999999999 = (0, false) := by unfold decimal; rw [if_pos (.inl (by decide))]
        simp only [if_neg h0, e, e2, beq_self_eq_true, if_true, Bool.false_eq_true, if_false]
        exact Ev.now _
  exact h.rounds
end Go.Proofs.YtkcliilifdcbbaaDoor.Pure
