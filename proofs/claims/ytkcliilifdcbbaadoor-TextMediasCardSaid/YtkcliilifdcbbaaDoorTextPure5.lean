/- The law TextMedias: blanks, letters' sizes and what stands behind a semicolon change nothing of a media type. -/
import Derived.Test.YtkcliilifdcbbaaDoorTextPure3
namespace Go.Proofs.YtkcliilifdcbbaaDoor.Pure
open Go.RowKit Go.Proofs.YtkcliilifdcbbaaDoor.P Go.Proofs.YtkcliilifdcbbaaDoorW.PrintWords Go.Proofs.YtkcliilifdcbbaaDoorW.PrintLast Go.Proofs.YtkcliilifdcbbaaDoorW.PrintMore
set_option linter.unusedVariables false
set_option linter.unusedSimpArgs false
theorem sign_plain : ∀ n : Fin 256, signB (UInt8.ofNat n.val) = true → blankB (UInt8.ofNat n.val) = false ∧ (UInt8.ofNat n.val != 59) = true := by decide +kernel
theorem sign_no (c : UInt8) (h : signB c = true) : blankB c = false ∧ (c != 59) = true := by
  have := sign_plain ⟨c.toNat, c.toNat_lt⟩
  simp only [UInt8.ofNat_toNat] at this
  exact this h
theorem upto_all (L M : List UInt8) (h : ∀ c ∈ L, (c != 59) = true) : upto 59 (L ++ M) = L ++ upto 59 M := by
  unfold upto
  rw [List.takeWhile_append_of_pos h]
theorem tl_all (A L : List UInt8) (h : ∀ c ∈ A, blankB c = true) : tl blankB (A ++ L) = tl blankB L := by
  unfold tl
  rw [List.dropWhile_append_of_pos h]
theorem tr_all (A L : List UInt8) (h : ∀ c ∈ A, blankB c = true) : tr blankB (L ++ A) = tr blankB L := by
  unfold tr
  rw [List.reverse_append, List.dropWhile_append_of_pos (by simpa using h)]
theorem trim_tok (L : List UInt8) (h : ∀ c ∈ L, blankB c = false) : tl blankB (tr blankB L) = L :=
  (trim_id blankB L).2 ⟨fun x m e => h x (by rw [e]; simp), fun m y e => h y (by rw [e]; simp)⟩
/-- a token between blanks, whatever stands behind a semicolon -/
theorem media_tok (A L M : List UInt8) (hA : ∀ c ∈ A, blankB c = true) (hL : ∀ c ∈ L, signB c = true) (hM : M = [] ∨ ∃ N, M = 59 :: N) :
    mediaL (A ++ L ++ A ++ M) = L.map fold8 := by
  unfold mediaL
  congr 1
  have hA' : ∀ c ∈ A, (c != 59) = true := fun c hc => by
    have := hA c hc
    rw [bne_iff_ne]
    intro e
    rw [e] at this
    exact absurd this (by decide)
  have hu : upto 59 (A ++ L ++ A ++ M) = A ++ L ++ A := by
    rw [upto_all (A ++ L ++ A) M (fun c hc => by
      rcases List.mem_append.1 hc with h | h
      · rcases List.mem_append.1 h with h | h
        · exact hA' c h
        · exact (sign_no c (hL c h)).2
      · exact hA' c h)]
    have : upto 59 M = [] := by
      rcases hM with e | ⟨N, e⟩
      · rw [e]; rfl
      · rw [e]; rfl
    rw [this, List.append_nil]
  rw [hu, tr_all _ _ hA, tl_tr, tl_all _ _ hA, ← tl_tr]
  exact trim_tok L fun c hc => (sign_no c (hL c hc)).1
theorem media_of (s : ByteArray) (A L M : List UInt8) (e : s.data.toList = A ++ L ++ A ++ M) (hA : ∀ c ∈ A, blankB c = true) (hL : ∀ c ∈ L, signB c = true) (hM : M = [] ∨ ∃ N, M = 59 :: N) : mediaB s = ⟨(L.map fold8).toArray⟩ := by
  unfold mediaB
  rw [e, media_tok A L M hA hL hM]
theorem fold_sign : ∀ n : Fin 256, signB (UInt8.ofNat n.val) = true → signB (fold8 (UInt8.ofNat n.val)) = true := by decide +kernel
theorem sign_fold (c : UInt8) (h : signB c = true) : signB (fold8 c) = true := by
  have := fold_sign ⟨c.toNat, c.toNat_lt⟩
  simp only [UInt8.ofNat_toNat] at this
  exact this h
theorem FD_mk (s : ByteArray) : FD s = ⟨(s.data.toList.map fold8).toArray⟩ := by unfold FD; congr 1; apply Array.ext'; simp
theorem mediasLoop (a b : ByteArray) (v : Int) (ha : a.size ≤ 20000) (hb : b.size ≤ 20000) (hv : 0 ≤ v ∧ v ≤ 255) (ht : ∀ c ∈ a.data.toList, signB c = true) :
    ∀ (d i : Nat) (x : ByteArray), (i : Int) + d = wrap64 (Int.tmod v 5) → x.size = 2 * i → (∀ c ∈ x.data.toList, blankB c = true) → Ev (fun k => nunciolaw02_TextMedias.l0 k a b v x i) true
  | 0, i, x, hi, hx, hb' => by
    have hm : wrap64 (Int.tmod v 5) < 5 := by rw [Int.tmod_eq_emod_of_nonneg hv.1]; unfold wrap64; omega
    have m1 : mediaB a = FD a := by rw [FD_mk]; exact media_of a [] a.data.toList [] (by simp) (by simp) ht (.inl rfl)
    have m2 : mediaB (x ++ a ++ x) = FD a := by rw [FD_mk]; exact media_of _ x.data.toList a.data.toList [] (by simp) hb' ht (.inl rfl)
    have m3 : mediaB (a ++ (⟨#[59]⟩ : ByteArray) ++ b) = FD a := by rw [FD_mk]; exact media_of _ [] a.data.toList (59 :: b.data.toList) (by simp) (by simp) ht (.inr ⟨_, rfl⟩)
    have m4 : mediaB (x ++ a ++ x ++ (⟨#[59]⟩ : ByteArray) ++ b) = FD a := by rw [FD_mk]; exact media_of _ x.data.toList a.data.toList (59 :: b.data.toList) (by simp) hb' ht (.inr ⟨_, rfl⟩)
    have m5 : mediaB (FD a) = FD a := by
      have := media_of (FD a) [] (a.data.toList.map fold8) [] (by rw [FD_list]; simp) (by simp) (fun c hc => by
        obtain ⟨y, hy, rfl⟩ := List.mem_map.1 hc
        exact sign_fold y (ht y hy)) (.inl rfl)
      rw [this, ← FD_list, ← FD_mk, FD_idem]
    have z1 : (x ++ a ++ x).size = x.size + a.size + x.size := by rw [ByteArray.size_append, ByteArray.size_append]
    have z2 : (a ++ (⟨#[59]⟩ : ByteArray) ++ b).size = a.size + 1 + b.size := by rw [ByteArray.size_append, ByteArray.size_append]; rfl
    have z3 : (x ++ a ++ x ++ (⟨#[59]⟩ : ByteArray) ++ b).size = x.size + a.size + x.size + 1 + b.size := by rw [ByteArray.size_append, ByteArray.size_append, z1]; rfl
    refine Ev.step (fun k => rfl) ?_
    simp only [nunciolaw02_TextMedias.l0, if_neg (show ¬ (i : Int) < wrap64 (Int.tmod v 5) by omega), text_fold a (by omega), Option.bind_some, text_media a (by omega), m1, if_true, if_pos (show x.size + a.size ≤ 9223372036854775807 by omega), if_pos (show x.size + a.size + x.size ≤ 9223372036854775807 by omega),
      text_media (x ++ a ++ x) (by rw [z1]; omega), m2, if_pos (show a.size + 1 ≤ 9223372036854775807 by omega), if_pos (show a.size + 1 + b.size ≤ 9223372036854775807 by omega), text_media (a ++ (⟨#[59]⟩ : ByteArray) ++ b) (by rw [z2]; omega), m3,
      if_pos (show x.size + a.size + x.size + 1 ≤ 9223372036854775807 by omega), if_pos (show x.size + a.size + x.size + 1 + b.size ≤ 9223372036854775807 by omega), text_media (x ++ a ++ x ++ (⟨#[59]⟩ : ByteArray) ++ b) (by rw [z3]; omega), m4, text_media (FD a) (by rw [FD_size]; omega), m5, beq_self_eq_true]
    exact Ev.now _
  | d + 1, i, x, hi, hx, hb' => by
    have hm : wrap64 (Int.tmod v 5) < 5 := by rw [Int.tmod_eq_emod_of_nonneg hv.1]; unfold wrap64; omega
    have ih := mediasLoop a b v ha hb hv ht d (i + 1) (x ++ (⟨#[32, 9]⟩ : ByteArray)) (by omega) (by rw [ByteArray.size_append, show (⟨#[32, 9]⟩ : ByteArray).size = 2 from rfl]; omega) (fun c hc => by
      rw [app_list] at hc
      rcases List.mem_append.1 hc with h | h
      · exact hb' c h
      · have h : c ∈ ([32, 9] : List UInt8) := h
        simp at h
        rcases h with e | e <;> (rw [e]; decide))
    refine Ev.step (fun k => rfl) ?_
    simp only [nunciolaw02_TextMedias.l0, if_pos (show (i : Int) < wrap64 (Int.tmod v 5) by omega), if_pos (show x.size + 2 ≤ 9223372036854775807 by omega), wrap_succ i (by omega)]
    exact ih
theorem TextMedias : P.nunciolaw02_TextMedias.Pure := by
  intro a b v ha hb hv
  have hv' : 0 ≤ v ∧ v ≤ 255 := by simpa [Lit.wf, IntKind.min, IntKind.max, IntKind.signed, IntKind.bits] using hv
  have h : Ev (fun k => nunciolaw02_TextMedias.f k a b v) true := by
    unfold nunciolaw02_TextMedias.f
    rw [awake_ok]
    simp only [Option.bind_some, if_true]
    have hj : Ev (fun k => nunciolaw02_TextMedias.j0 k a b v true) true := Ev.step (fun k => by simp only [nunciolaw02_TextMedias.j0]; rfl) (Ev.now _)
    by_cases h1 : (a.size : Int) > 20000
    · simp only [if_pos h1]; exact hj
    · simp only [if_neg h1]
      by_cases h2 : (b.size : Int) > 20000
      · simp only [if_pos h2]; exact hj
      · simp only [if_neg h2, text_token a (by omega), Option.bind_some]
        cases ht : (!a.data.toList.isEmpty && a.data.toList.all signB) with
        | false => exact hj
        | true =>
          rw [Bool.and_eq_true] at ht
          refine Ev.step (fun k => rfl) ?_
          simp only [nunciolaw02_TextMedias.j0, Bool.not_true, Bool.false_eq_true, if_false]
          have hm : 0 ≤ wrap64 (Int.tmod v 5) ∧ wrap64 (Int.tmod v 5) < 5 := by rw [Int.tmod_eq_emod_of_nonneg hv'.1]; unfold wrap64; omega
          have := mediasLoop a b v (by omega) (by omega) hv' (List.all_eq_true.1 ht.2) (wrap64 (Int.tmod v 5)).toNat 0 ⟨#[]⟩ (by omega) rfl (by intro c hc; cases hc)
          exact this
  exact h.rounds
end Go.Proofs.YtkcliilifdcbbaaDoor.Pure
