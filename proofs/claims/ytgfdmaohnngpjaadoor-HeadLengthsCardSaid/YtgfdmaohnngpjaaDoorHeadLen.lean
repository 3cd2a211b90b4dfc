/- Plain facts for the law HeadLengths: what a content-length tells. -/
import Derived.Test.YtgfdmaohnngpjaaDoorPx14
import Derived.Test.YtgfdmaohnngpjaaDoorPx15
import Derived.Test.YtgfdmaohnngpjaaDoorPx18
import Derived.Test.YtgfdmaohnngpjaaDoorPx16
import Derived.Lib.ItoaNum
namespace Go.Proofs.YtgfdmaohnngpjaaDoor.P
open Go.RowKit Go.Proofs.YtgfdmaohnngpjaaDoorW.PrintWords Go.Proofs.YtgfdmaohnngpjaaDoorW.PrintLast Go.Proofs.YtgfdmaohnngpjaaDoorW.PrintMore
set_option linter.unusedVariables false
set_option linter.unusedSimpArgs false
theorem awake_len : nunciolaw20_awake.f = some true := by kernel_rfl
def numB (n : Int) : ByteArray := ⟨(Lib.decDigits n.toNat).toArray⟩
theorem text_number (n : Int) (h0 : 0 ≤ n) (h1 : n ≤ 9223372036854775807) : text_Number.f n = some (numB n) := by
  unfold text_Number.f numB
  rw [if_neg (by omega)]
  unfold strconv_Itoa.f
  rw [if_pos ⟨by omega, h1⟩]
  simp only [Option.bind_some]
  unfold Lib.itoa
  rw [if_neg (by omega)]
theorem dig_iff (c : UInt8) : ((c.toNat : Int) - 48) % 256 > 9 ↔ ¬ (48 ≤ c.toNat ∧ c.toNat ≤ 57) := by
  have := c.toNat_lt
  omega
theorem decFrom_digits : ∀ (L : List UInt8) (n r : Int), decFrom n L = some r → ∀ c ∈ L, 48 ≤ c.toNat ∧ c.toNat ≤ 57
  | [], _, _, _, _, hc => by cases hc
  | x :: l, n, r, h, c, hc => by
    simp only [decFrom] at h
    split at h
    · cases h
    · rename_i hx
      rcases List.mem_cons.1 hc with e | hc
      · subst e
        rw [dig_iff] at hx
        omega
      · exact decFrom_digits l _ r h c hc
theorem decDigits_digits (n : Nat) : ∀ c ∈ Lib.decDigits n, 48 ≤ c.toNat ∧ c.toNat ≤ 57 := by
  induction n using Nat.strongRecOn with
  | _ n ih =>
    intro c hc
    rw [Lib.decDigits] at hc
    by_cases h : n < 10
    · rw [dif_pos h] at hc
      rw [List.mem_singleton] at hc
      rw [hc, UInt8.toNat_ofNat']
      omega
    · rw [dif_neg h] at hc
      rcases List.mem_append.1 hc with hc | hc
      · exact ih _ (by omega) c hc
      · rw [List.mem_singleton] at hc
        rw [hc, UInt8.toNat_ofNat']
        omega
theorem decFrom_decDigits (n : Nat) : decFrom 0 (Lib.decDigits n) = some (n : Int) := by
  induction n using Nat.strongRecOn with
  | _ n ih =>
    rw [Lib.decDigits]
    have hx (k : Nat) (hk : k < 10) : (UInt8.ofNat (48 + k)).toNat = 48 + k := by rw [UInt8.toNat_ofNat']; omega
    by_cases h : n < 10
    · rw [dif_pos h]
      simp only [decFrom, hx n h]
      rw [if_neg (by omega)]
      congr 1
      omega
    · rw [dif_neg h, decFrom_append, ih _ (by omega)]
      simp only [Option.bind_some, decFrom, hx (n % 10) (by omega)]
      rw [if_neg (by omega)]
      congr 1
      omega
theorem nDigits_le : ∀ (k n : Nat), n < 10 ^ k → 1 ≤ k → Lib.nDigits n ≤ k := by
  intro k n h hk
  have := Lib.decDigits_length n
  induction k generalizing n with
  | zero => omega
  | succ k ih =>
    by_cases h1 : n < 10
    · rw [← this, Lib.decDigits, dif_pos h1]
      simp
    · have hk1 : 1 ≤ k := by
        rcases Nat.eq_zero_or_pos k with h0 | h0
        · subst h0; omega
        · exact h0
      have h2 := ih (n / 10) (by rw [Nat.pow_succ] at h; omega) hk1 (Lib.decDigits_length _)
      rw [← this, Lib.decDigits, dif_neg h1, List.length_append, Lib.decDigits_length]
      simp
      exact h2
theorem digits_ne (n : Nat) : Lib.decDigits n ≠ [] := by
  rw [Lib.decDigits]
  split
  · simp
  · simp
theorem head_ne : ∀ (n : Nat), 1 ≤ n → ∀ x m, Lib.decDigits n = x :: m → x.toNat ≠ 48 := by
  intro n
  induction n using Nat.strongRecOn with
  | _ n ih =>
    intro h1 x m hx
    rw [Lib.decDigits] at hx
    by_cases h : n < 10
    · rw [dif_pos h] at hx
      injection hx with hx _
      rw [← hx, UInt8.toNat_ofNat']
      omega
    · rw [dif_neg h] at hx
      cases hd : Lib.decDigits (n / 10) with
      | nil => exact absurd hd (digits_ne _)
      | cons y t =>
        rw [hd] at hx
        injection hx with hx _
        rw [← hx]
        exact ih (n / 10) (by omega) (by omega) y t hd
theorem numB_data (n : Nat) : (numB (n : Int)).data.toList = Lib.decDigits n := by simp [numB]
theorem numB_size (n : Nat) (h : n ≤ 999999999) : 1 ≤ (numB (n : Int)).size ∧ (numB (n : Int)).size ≤ 9 := by
  have hl : (numB (n : Int)).size = (Lib.decDigits n).length := by rw [← numB_data n]; simp
  rw [hl]
  have h1 := digits_ne n
  have h2 := nDigits_le 9 n (by omega) (by omega)
  rw [← Lib.decDigits_length] at h2
  constructor
  · cases hd : Lib.decDigits n with
    | nil => exact absurd hd h1
    | cons a b => simp
  · exact h2
theorem bt_zero (s : ByteArray) (x : UInt8) (m : List UInt8) (h : s.data.toList = x :: m) : bt s 0 = (x.toNat : Int) := by
  have hs : 0 < s.size := by
    have : s.size = s.data.toList.length := by simp
    rw [this, h]; simp
  have e : s[0]'hs = s.data.toList[0]'(by rw [h]; simp) := rfl
  have e2 : s[0]'hs = x := by rw [e]; simp [h]
  rw [← bt_at s 0 hs]
  show ((s[0]'hs).toNat : Int) = _
  rw [e2]
theorem dec_good (n : Nat) (h : n ≤ 999999999) : decimal (numB (n : Int)) 999999999 = ((n : Int), true) := by
  obtain ⟨h1, h2⟩ := numB_size n h
  have hd := numB_data n
  unfold decimal
  rw [if_neg, hd, decFrom_decDigits]
  · simp only
    rw [if_neg (by omega)]
  · rintro (hc | hc | ⟨hc, h0⟩)
    · omega
    · omega
    · cases hL : Lib.decDigits n with
      | nil => exact digits_ne n hL
      | cons x m =>
        rw [bt_zero _ x m (hd.trans hL)] at h0
        have hn1 : 1 ≤ n := by
          rcases Nat.eq_zero_or_pos n with e | e
          · subst e
            have hd0 : Lib.decDigits 0 = [48] := by rw [Lib.decDigits, dif_pos (by decide)]; rfl
            have hsz : (numB ((0 : Nat) : Int)).size = (numB ((0 : Nat) : Int)).data.toList.length := by simp
            rw [hd, hd0] at hsz
            simp at hsz
            simp at hc
            omega
          · exact e
        exact head_ne n hn1 x m hL (by omega)
/-- a sign that is no digit spoils it -/
theorem dec_sign (s : ByteArray) (c : UInt8) (hc : c ∈ s.data.toList) (h : ¬ (48 ≤ c.toNat ∧ c.toNat ≤ 57)) : (decimal s 999999999).2 = false := by
  unfold decimal
  split
  · rfl
  · cases hd : decFrom 0 s.data.toList with
    | none => rfl
    | some r => exact absurd (decFrom_digits _ _ _ hd c hc) h
theorem dec_nought (s : ByteArray) (m : List UInt8) (h : s.data.toList = 48 :: m) (hm : m ≠ []) : (decimal s 999999999).2 = false := by
  unfold decimal
  rw [if_pos]
  right; right
  refine ⟨?_, by rw [bt_zero s 48 m h]; rfl⟩
  have : s.size = s.data.toList.length := by simp
  rw [this, h]
  cases m with
  | nil => exact absurd rfl hm
  | cons a b => simp
/-- what a length is spoiled to -/
def spoiled (v : ByteArray) (i : Nat) : ByteArray :=
  [⟨#[43]⟩ ++ v, ⟨#[48]⟩ ++ v, v ++ ⟨#[120]⟩, ⟨#[45]⟩ ++ v, v ++ ⟨#[32]⟩ ++ v, ⟨#[]⟩].getD i ⟨#[]⟩
theorem app_data (a b : ByteArray) : (a ++ b).data.toList = a.data.toList ++ b.data.toList := by simp
theorem dec_spoiled (n : Nat) (h : n ≤ 999999999) (i : Nat) : (decimal (spoiled (numB (n : Int)) i) 999999999).2 = false := by
  have hn := digits_ne n
  unfold spoiled
  match i with
  | 0 => exact dec_sign _ 43 (by simp [app_data]) (by decide)
  | 1 => exact dec_nought _ (Lib.decDigits n) (by simp [app_data, numB_data]) hn
  | 2 => exact dec_sign _ 120 (by simp [app_data]) (by decide)
  | 3 => exact dec_sign _ 45 (by simp [app_data]) (by decide)
  | 4 => exact dec_sign _ 32 (by simp [app_data]) (by decide)
  | 5 => rfl
  | n + 6 => rfl
theorem spoiled_size (n : Nat) (h : n ≤ 999999999) (i : Nat) : (spoiled (numB (n : Int)) i).size ≤ 19 := by
  obtain ⟨h1, h2⟩ := numB_size n h
  have hs : ∀ a b : ByteArray, (a ++ b).size = a.size + b.size := fun a b => by simp
  have one : ∀ c : UInt8, (⟨#[c]⟩ : ByteArray).size = 1 := fun _ => rfl
  unfold spoiled
  match i with
  | 0 => show (⟨#[43]⟩ ++ numB (n : Int)).size ≤ 19; rw [hs, one]; omega
  | 1 => show (⟨#[48]⟩ ++ numB (n : Int)).size ≤ 19; rw [hs, one]; omega
  | 2 => show (numB (n : Int) ++ ⟨#[120]⟩).size ≤ 19; rw [hs, one]; omega
  | 3 => show (⟨#[45]⟩ ++ numB (n : Int)).size ≤ 19; rw [hs, one]; omega
  | 4 => show (numB (n : Int) ++ ⟨#[32]⟩ ++ numB (n : Int)).size ≤ 19; rw [hs, hs, one]; omega
  | 5 => show (⟨#[]⟩ : ByteArray).size ≤ 19; decide
  | n + 6 => show (⟨#[]⟩ : ByteArray).size ≤ 19; decide
/-! ### digits are a right value -/
theorem digit_shown (c : UInt8) (h : 48 ≤ c.toNat ∧ c.toNat ≤ 57) : shownB c = true := by
  have key : ∀ k : Fin 10, shownB (UInt8.ofNat (48 + k.val)) = true := by decide
  have e : c = UInt8.ofNat (48 + (c.toNat - 48)) := by
    apply UInt8.toNat_inj.1
    rw [UInt8.toNat_ofNat']
    omega
  rw [e]
  exact key ⟨c.toNat - 48, by omega⟩
theorem trim_digits (L : List UInt8) (h : ∀ c ∈ L, 48 ≤ c.toNat ∧ c.toNat ≤ 57) : Lib.trimS L [9, 32] = L := by
  have hc : ∀ c ∈ L, ([9, 32] : List UInt8).contains c = false := by
    intro c hc
    have := h c hc
    cases hk : ([9, 32] : List UInt8).contains c with
    | false => rfl
    | true =>
      simp at hk
      rcases hk with rfl | rfl
      · simp at this
      · simp at this
  have hd : ∀ M : List UInt8, (∀ c ∈ M, ([9, 32] : List UInt8).contains c = false) → M.dropWhile (([9, 32] : List UInt8).contains ·) = M := by
    intro M hM
    cases M with
    | nil => rfl
    | cons a b => rw [List.dropWhile_cons, hM a List.mem_cons_self]; rfl
  unfold Lib.trimS Lib.trimLeftS Lib.trimRightS
  rw [hd L.reverse (fun c h => hc c (List.mem_reverse.1 h)), List.reverse_reverse]
  exact hd L hc
abbrev Fl := S32
def lenF (v : ByteArray) : Fl := ⟨CL, v, false⟩
def lenP : List Fl := [⟨⟨#[58, 109, 101, 116, 104, 111, 100]⟩, ⟨#[71, 69, 84]⟩, false⟩, ⟨⟨#[58, 115, 99, 104, 101, 109, 101]⟩, ⟨#[104, 116, 116, 112, 115]⟩, false⟩, ⟨⟨#[58, 112, 97, 116, 104]⟩, ⟨#[47]⟩, false⟩]
def lenS : List Fl := [⟨⟨#[58, 115, 116, 97, 116, 117, 115]⟩, ⟨#[50, 48, 48]⟩, false⟩]
theorem step_len (v : ByteArray) (o : Int) (T : Told) : stepT (lenF v) o T = if rightB (lenF v) = false then none else tellT (lenF v) T 0 := by
  have hb : barredB (lenF v) = false := by
    unfold barredB barredL lenF
    simp only [show (CL.data.toList = [116, 101]) = False from eq_false (by decide), decide_false, Bool.false_and, Bool.or_false]
    rfl
  have hp : pseudoB (lenF v).f0 = false := by show pseudoB CL = false; kernel_rfl
  unfold stepT
  by_cases hr : rightB (lenF v) = false
  · rw [if_pos hr, if_pos hr]
  · rw [if_neg hr, if_neg hr, hb, hp, if_neg (by simp), if_neg (by simp), if_neg (by simp), if_pos (show (lenF v).f0 = CL ∨ (lenF v).f0 = CT from .inl rfl)]
theorem right_num (n : Nat) : rightB (lenF (numB (n : Int))) = true := by
  unfold rightB rightL
  have hd : (lenF (numB (n : Int))).f1.data.toList = Lib.decDigits n := numB_data n
  rw [hd, trim_digits _ (decDigits_digits n)]
  have ha : (Lib.decDigits n).all shownB = true := List.all_eq_true.2 fun c hc => digit_shown c (decDigits_digits n c hc)
  have hu : (!(uncolon CL.data.toList).isEmpty && (uncolon CL.data.toList).all signB && decide ((uncolon CL.data.toList).map fold8 = uncolon CL.data.toList)) = true := by kernel_rfl
  show ((!(uncolon CL.data.toList).isEmpty && (uncolon CL.data.toList).all signB && decide ((uncolon CL.data.toList).map fold8 = uncolon CL.data.toList)) && _) = true
  rw [hu, ha]
  simp
theorem snoc_run (l : List Fl) (x : Fl) (T : Told) (h : runT 0 l T0 = some T) : runT 0 (l ++ [x]) T0 = stepT x ((l.length : Int) - T.ps) T := by
  rw [runT_append, h]
  simp only [Option.bind_some, Nat.zero_add, runT]
  cases stepT x ((l.length : Int) - T.ps) T <;> rfl
/-- the head of a list in which no length stands yet, and then one -/
theorem len_good (l : List Fl) (T : Told) (h : runT 0 l T0 = some T) (h0 : T.ft CL.data.toList = 0) (n : Nat) (hn : n ≤ 999999999) :
    headT (l ++ [lenF (numB (n : Int))]) = some (⟨upd T.ft CL.data.toList 1, upd T.fv CL.data.toList (numB (n : Int)), T.ps⟩, mediaB (upd T.fv CL.data.toList (numB (n : Int)) CT.data.toList), (n : Int)) := by
  have hs := snoc_run l (lenF (numB (n : Int))) T h
  rw [step_len, if_neg (by rw [right_num]; simp)] at hs
  unfold tellT at hs
  rw [if_pos (show (T.ft (lenF (numB (n : Int))).f0.data.toList + 1 == 1) = true by show (T.ft CL.data.toList + 1 == 1) = true; rw [h0]; rfl)] at hs
  unfold headT
  rw [hs]
  simp only [Option.bind_some]
  have e1 : (lenF (numB (n : Int))).f0.data.toList = CL.data.toList := rfl
  have e2 : (lenF (numB (n : Int))).f1 = numB (n : Int) := rfl
  rw [e1, e2, h0, upd_same, upd_same, dec_good n hn]
  simp
theorem len_bad (l : List Fl) (T : Told) (h : runT 0 l T0 = some T) (h0 : T.ft CL.data.toList = 0) (v : ByteArray) (hv : (decimal v 999999999).2 = false) : headT (l ++ [lenF v]) = none := by
  have hs := snoc_run l (lenF v) T h
  rw [step_len] at hs
  unfold headT
  rw [hs]
  by_cases hr : rightB (lenF v) = false
  · rw [if_pos hr]; rfl
  · rw [if_neg hr]
    unfold tellT
    rw [if_pos (show (T.ft (lenF v).f0.data.toList + 1 == 1) = true by show (T.ft CL.data.toList + 1 == 1) = true; rw [h0]; rfl)]
    simp only [Option.bind_some]
    have e1 : (lenF v).f0.data.toList = CL.data.toList := rfl
    have e2 : (lenF v).f1 = v := rfl
    rw [e1, e2, h0, upd_same, upd_same, hv]
    simp
theorem runP3 : ∃ T, runT 0 lenP T0 = some T ∧ T.ft CL.data.toList = 0 ∧ T.ft nM + T.ft nS + T.ft nP = 3 ∧ T.ps = 3 ∧ T.ft nA = 0 ∧ (T.fv nM).toList.isEmpty = false ∧ (T.fv nP).toList.isEmpty = false ∧ (T.fv nS).toList.isEmpty = false := by
  have hk : ((runT 0 lenP T0).map fun T => (T.ft CL.data.toList, T.ft nM + T.ft nS + T.ft nP, T.ps, T.ft nA, (T.fv nM).toList.isEmpty, (T.fv nP).toList.isEmpty, (T.fv nS).toList.isEmpty)) = some (0, 3, 3, 0, false, false, false) := by kernel_rfl
  cases hr : runT 0 lenP T0 with
  | none => rw [hr] at hk; cases hk
  | some T =>
    rw [hr] at hk
    simp only [Option.map_some, Option.some.injEq, Prod.mk.injEq] at hk
    exact ⟨T, rfl, hk.1, hk.2.1, hk.2.2.1, hk.2.2.2.1, hk.2.2.2.2.1, hk.2.2.2.2.2.1, hk.2.2.2.2.2.2⟩
theorem runS1 : ∃ T, runT 0 lenS T0 = some T ∧ T.ft CL.data.toList = 0 ∧ T.ft nT = 1 ∧ T.ps = 1 ∧ T.fv nT = ⟨#[50, 48, 48]⟩ := by
  have hk : ((runT 0 lenS T0).map fun T => (T.ft CL.data.toList, T.ft nT, T.ps, T.fv nT)) = some (0, 1, 1, ⟨#[50, 48, 48]⟩) := by kernel_rfl
  cases hr : runT 0 lenS T0 with
  | none => rw [hr] at hk; cases hk
  | some T =>
    rw [hr] at hk
    simp only [Option.map_some, Option.some.injEq, Prod.mk.injEq] at hk
    exact ⟨T, rfl, hk.1, hk.2.1, hk.2.2.1, hk.2.2.2⟩
def lenR (v : ByteArray) : List Fl := lenP ++ [lenF v]
def lenA (v : ByteArray) : List Fl := lenS ++ [lenF v]
theorem ok_len (v : ByteArray) (h : v.size ≤ 19) : (∀ x ∈ lenR v, okS x) ∧ (∀ x ∈ lenA v, okS x) := by
  have hv : okS (lenF v) := ⟨by show CL.size ≤ _; decide, by show v.size ≤ _; omega⟩
  constructor
  · intro x hx
    unfold lenR lenP at hx
    simp only [List.cons_append, List.nil_append, List.mem_cons, List.not_mem_nil, or_false] at hx
    rcases hx with rfl | rfl | rfl | rfl
    · exact ⟨by decide, by decide⟩
    · exact ⟨by decide, by decide⟩
    · exact ⟨by decide, by decide⟩
    · exact hv
  · intro x hx
    unfold lenA lenS at hx
    simp only [List.cons_append, List.nil_append, List.mem_cons, List.not_mem_nil, or_false] at hx
    rcases hx with rfl | rfl
    · exact ⟨by decide, by decide⟩
    · exact hv
theorem req_good (n : Nat) (hn : n ≤ 999999999) : ∃ r1 r2 r3 r4, head_Request.f (lenR (numB (n : Int))) = some (r1, r2, r3, r4, false, (n : Int), 0) := by
  obtain ⟨T, hT, h0, h1, h2, h3, h4, h5, h6⟩ := runP3
  have hh := len_good lenP T hT h0 n hn
  unfold head_Request.f
  rw [if_pos ⟨(ok_len _ (by have := numB_size n hn; omega)).1, by simp [lenR, lenP]⟩]
  unfold lenR
  rw [hh]
  unfold reqT
  simp only
  have u : ∀ (f : List UInt8 → Int) s, s ≠ CL.data.toList → upd f CL.data.toList 1 s = f s := fun f s h => if_neg h
  have u2 : ∀ (f : List UInt8 → ByteArray) v s, s ≠ CL.data.toList → upd f CL.data.toList v s = f s := fun f v s h => if_neg h
  rw [u _ nM (by decide), u _ nS (by decide), u _ nP (by decide), u _ nA (by decide), u2 _ _ nM (by decide), u2 _ _ nS (by decide), u2 _ _ nP (by decide)]
  rw [if_pos ⟨h1, by omega, h4, h5, h6⟩]
  exact ⟨_, _, _, _, rfl⟩
theorem req_bad (v : ByteArray) (hv : (decimal v 999999999).2 = false) (hs : v.size ≤ 19) : head_Request.f (lenR v) = some (⟨#[]⟩, ⟨#[]⟩, ⟨#[]⟩, ⟨#[]⟩, false, 0, 100) := by
  obtain ⟨T, hT, h0, _⟩ := runP3
  have hh := len_bad lenP T hT h0 v hv
  unfold head_Request.f
  rw [if_pos ⟨(ok_len _ hs).1, by simp [lenR, lenP]⟩]
  unfold lenR
  rw [hh]
  rfl
theorem resp_good (n : Nat) (hn : n ≤ 999999999) : ∃ r2, head_Response.f (lenA (numB (n : Int))) = some (200, r2, (n : Int), 0) := by
  obtain ⟨T, hT, h0, h1, h2, h3⟩ := runS1
  have hh := len_good lenS T hT h0 n hn
  unfold head_Response.f
  rw [if_pos ⟨(ok_len _ (by have := numB_size n hn; omega)).2, by simp [lenA, lenS]⟩]
  unfold lenA
  rw [hh]
  unfold respT
  simp only
  have u : ∀ (f : List UInt8 → Int) s, s ≠ CL.data.toList → upd f CL.data.toList 1 s = f s := fun f s h => if_neg h
  have u2 : ∀ (f : List UInt8 → ByteArray) v s, s ≠ CL.data.toList → upd f CL.data.toList v s = f s := fun f v s h => if_neg h
  rw [u _ nT (by decide), u2 _ _ nT (by decide), if_pos ⟨h2, h1⟩, h3]
  have hd : decimal (⟨#[50, 48, 48]⟩ : ByteArray) 599 = (200, true) := by kernel_rfl
  rw [hd, if_pos ⟨rfl, by decide⟩]
  exact ⟨_, rfl⟩
theorem resp_bad (v : ByteArray) (hv : (decimal v 999999999).2 = false) (hs : v.size ≤ 19) : head_Response.f (lenA v) = some (0, ⟨#[]⟩, 0, 100) := by
  obtain ⟨T, hT, h0, _⟩ := runS1
  have hh := len_bad lenS T hT h0 v hv
  unfold head_Response.f
  rw [if_pos ⟨(ok_len _ hs).2, by simp [lenA, lenS]⟩]
  unfold lenA
  rw [hh]
  rfl
end Go.Proofs.YtgfdmaohnngpjaaDoor.P
