/- Plain facts about heads: what a list of fields tells, whatever the order of those that are no pseudo-fields. -/
import Derived.Test.YtgfdmaohnngpjaaDoorPx13
import Derived.KernelRfl
namespace Go.Proofs.YtgfdmaohnngpjaaDoor.P
open Go.RowKit Go.Proofs.YtgfdmaohnngpjaaDoorW.PrintWords Go.Proofs.YtgfdmaohnngpjaaDoorW.PrintLast Go.Proofs.YtgfdmaohnngpjaaDoorW.PrintMore
set_option linter.unusedVariables false
set_option linter.unusedSimpArgs false
abbrev Fd := S32
/-- a field that is no pseudo-field is taken in -/
def plainT (x : Fd) (T : Told) : Option Told :=
  if rightB x = false then none else if barredB x = true then none else if x.f0 = CL ∨ x.f0 = CT then tellT x T 0 else some T
theorem step_plain (x : Fd) (h : pseudoB x.f0 = false) (o : Int) (T : Told) : stepT x o T = plainT x T := by
  unfold stepT plainT
  rw [if_neg (show ¬ (pseudoB x.f0 = true ∧ 0 < o) by rw [h]; simp), if_neg (show ¬ pseudoB x.f0 = true by rw [h]; simp)]
def runP : List Fd → Told → Option Told
  | [], T => some T
  | x :: l, T => (plainT x T).bind (runP l)
theorem runP_append : ∀ (l m : List Fd) (T : Told), runP (l ++ m) T = (runP l T).bind (runP m)
  | [], m, T => rfl
  | x :: l, m, T => by
    simp only [List.cons_append, runP]
    cases plainT x T with
    | none => rfl
    | some T' => simp only [Option.bind_some]; exact runP_append l m T'
theorem run_plain : ∀ (l : List Fd) (h : ∀ x ∈ l, pseudoB x.f0 = false) (i : Nat) (T : Told), runT i l T = runP l T
  | [], _, i, T => rfl
  | x :: l, h, i, T => by
    simp only [runT, runP]
    rw [step_plain x (h x List.mem_cons_self)]
    cases plainT x T with
    | none => rfl
    | some T' => simp only [Option.bind_some]; exact run_plain l (fun y hy => h y (List.mem_cons_of_mem _ hy)) (i + 1) T'
theorem upd_comm {α : Type} (f : List UInt8 → α) (a b : List UInt8) (u v : α) (h : a ≠ b) : upd (upd f a u) b v = upd (upd f b v) a u := by
  funext s
  unfold upd
  by_cases h1 : s = b
  · by_cases h2 : s = a
    · exact absurd (h2.symm.trans h1) h
    · simp [h1, h2, h1 ▸ h2]
  · by_cases h2 : s = a
    · simp [h1, h2, h]
    · simp [h1, h2]
theorem tell_comm (x y : Fd) (T : Told) : (tellT x T 0).bind (fun T => tellT y T 0) = (tellT y T 0).bind (fun T => tellT x T 0) := by
  unfold tellT
  generalize hx : x.f0.data.toList = a
  generalize hy : y.f0.data.toList = b
  by_cases hab : a = b
  · subst hab
    by_cases h : (T.ft a + 1 == 1) = true
    · rw [if_pos h, if_pos h]
      have h' : T.ft a = 0 := by have := beq_iff_eq.mp h; omega
      simp [h', upd_same]
    · rw [if_neg h, if_neg h]
      rfl
  · have hba : ¬ b = a := fun e => hab e.symm
    by_cases h1 : (T.ft a + 1 == 1) = true
    · by_cases h2 : (T.ft b + 1 == 1) = true
      · rw [if_pos h1, if_pos h2]
        simp only [Option.bind_some]
        rw [upd_other _ _ _ _ hba, upd_other _ _ _ _ hab, if_pos h2, if_pos h1, upd_comm T.ft a b _ _ hab, upd_comm T.fv a b _ _ hab]
      · rw [if_pos h1, if_neg h2]
        simp only [Option.bind_some, Option.bind_none]
        rw [upd_other _ _ _ _ hba, if_neg h2]
    · by_cases h2 : (T.ft b + 1 == 1) = true
      · rw [if_neg h1, if_pos h2]
        simp only [Option.bind_some, Option.bind_none]
        rw [upd_other _ _ _ _ hab, if_neg h1]
      · rw [if_neg h1, if_neg h2]
        rfl
theorem plain_comm (x y : Fd) (T : Told) : (plainT x T).bind (plainT y) = (plainT y T).bind (plainT x) := by
  have key : ∀ z : Fd, (plainT z = fun _ => none) ∨ (plainT z = fun T => some T) ∨ plainT z = fun T => tellT z T 0 := by
    intro z
    by_cases h1 : rightB z = false
    · exact .inl (funext fun T => by unfold plainT; rw [if_pos h1])
    · by_cases h2 : barredB z = true
      · exact .inl (funext fun T => by unfold plainT; rw [if_neg h1, if_pos h2])
      · by_cases h3 : z.f0 = CL ∨ z.f0 = CT
        · exact .inr (.inr (funext fun T => by unfold plainT; rw [if_neg h1, if_neg h2, if_pos h3]))
        · exact .inr (.inl (funext fun T => by unfold plainT; rw [if_neg h1, if_neg h2, if_neg h3]))
  rcases key x with hx | hx | hx <;> rcases key y with hy | hy | hy <;> rw [hx, hy]
  all_goals simp only [Option.bind_some, Option.bind_none]
  · cases tellT y T 0 <;> rfl
  · cases tellT y T 0 <;> rfl
  · cases tellT x T 0 <;> rfl
  · cases tellT x T 0 <;> rfl
  · exact tell_comm x y T
theorem runP_front (x : Fd) : ∀ (l : List Fd) (T : Told), (runP l T).bind (plainT x) = (plainT x T).bind (runP l)
  | [], T => by simp only [runP, Option.bind_some]; cases plainT x T <;> rfl
  | y :: l, T => by
    simp only [runP]
    have h := plain_comm x y T
    have : (plainT x T).bind (fun T => (plainT y T).bind (runP l)) = ((plainT x T).bind (plainT y)).bind (runP l) := by cases plainT x T <;> rfl
    rw [show ((plainT x T).bind fun T => (plainT y T).bind (runP l)) = ((plainT x T).bind (plainT y)).bind (runP l) from this, h]
    cases plainT y T with
    | none => rfl
    | some T' => simp only [Option.bind_some]; exact runP_front x l T'
theorem runP_reverse : ∀ (l : List Fd) (T : Told), runP l.reverse T = runP l T
  | [], T => rfl
  | x :: l, T => by
    rw [List.reverse_cons, runP_append, runP_reverse l T]
    have : (runP l T).bind (runP [x]) = (runP l T).bind (plainT x) := by
      congr 1
      funext T'
      simp only [runP]
      cases plainT x T' <;> rfl
    rw [this, runP_front]
    rfl
/-- behind a field that is no pseudo-field stands none -/
theorem run_behind : ∀ (l : List Fd) (i : Nat) (T T' : Told), (T.ps : Int) < i → runT i l T = some T' → ∀ x ∈ l, pseudoB x.f0 = false
  | [], _, _, _, _, _ => fun x hx => by cases hx
  | y :: l, i, T, T', hi, h => by
    simp only [runT] at h
    cases hp : pseudoB y.f0 with
    | true =>
      exfalso
      unfold stepT at h
      by_cases h1 : rightB y = false
      · rw [if_pos h1] at h; cases h
      · rw [if_neg h1] at h
        by_cases h2 : barredB y = true
        · rw [if_pos h2] at h; cases h
        · rw [if_neg h2, if_pos ⟨hp, by omega⟩] at h; cases h
    | false =>
      rw [step_plain y hp] at h
      cases hs : plainT y T with
      | none => rw [hs] at h; cases h
      | some T1 =>
        rw [hs] at h
        simp only [Option.bind_some] at h
        have hps : T1.ps = T.ps := by
          unfold plainT tellT at hs
          split at hs
          · cases hs
          · split at hs
            · cases hs
            · split at hs
              · split at hs
                · injection hs with hs; rw [← hs]; exact Int.add_zero _
                · cases hs
              · injection hs with hs; rw [hs]
        have ih := run_behind l (i + 1) T1 T' (by rw [hps]; omega) h
        intro x hx
        rcases List.mem_cons.1 hx with rfl | hx
        · exact hp
        · exact ih x hx
/-- the pseudo-fields ahead are counted -/
theorem run_pseudo : ∀ (l : List Fd) (h : ∀ x ∈ l, pseudoB x.f0 = true) (i : Nat) (T T' : Told), runT i l T = some T' → T'.ps = T.ps + l.length
  | [], _, i, T, T', h => by simp only [runT, Option.some.injEq] at h; subst h; simp
  | x :: l, hl, i, T, T', h => by
    simp only [runT] at h
    have hx := hl x List.mem_cons_self
    cases hs : stepT x ((i : Int) - T.ps) T with
    | none => rw [hs] at h; cases h
    | some T1 =>
      rw [hs] at h
      simp only [Option.bind_some] at h
      have ih := run_pseudo l (fun y hy => hl y (List.mem_cons_of_mem _ hy)) (i + 1) T1 T' h
      have : T1.ps = T.ps + 1 := by
        unfold stepT tellT at hs
        split at hs
        · cases hs
        · split at hs
          · cases hs
          · split at hs
            · cases hs
            · (try rw [if_pos hx] at hs)
              split at hs
              · injection hs with hs; rw [← hs]
              · cases hs
      rw [ih, this, List.length_cons]
      omega
/-! ### The pseudo-fields ahead -/
def ahead : List Fd → Nat
  | [] => 0
  | x :: l => if pseudoB x.f0 = true then ahead l + 1 else 0
theorem ahead_le : ∀ l : List Fd, ahead l ≤ l.length
  | [] => Nat.le_refl _
  | x :: l => by
    rw [show ahead (x :: l) = if pseudoB x.f0 = true then ahead l + 1 else 0 from rfl]
    have := ahead_le l
    split <;> simp <;> omega
theorem ahead_take : ∀ (l : List Fd), ∀ x ∈ l.take (ahead l), pseudoB x.f0 = true
  | [] => by simp
  | y :: l => by
    rw [show ahead (y :: l) = if pseudoB y.f0 = true then ahead l + 1 else 0 from rfl]
    by_cases h : pseudoB y.f0 = true
    · rw [if_pos h, List.take_succ_cons]
      intro x hx
      rcases List.mem_cons.1 hx with rfl | hx
      · exact h
      · exact ahead_take l x hx
    · rw [if_neg h]
      simp
theorem ahead_drop : ∀ (l : List Fd), l.drop (ahead l) = [] ∨ ∃ y m, l.drop (ahead l) = y :: m ∧ pseudoB y.f0 = false
  | [] => .inl rfl
  | y :: l => by
    rw [show ahead (y :: l) = if pseudoB y.f0 = true then ahead l + 1 else 0 from rfl]
    by_cases h : pseudoB y.f0 = true
    · rw [if_pos h, List.drop_succ_cons]
      exact ahead_drop l
    · rw [if_neg h]
      exact .inr ⟨y, l, rfl, by simpa using h⟩
theorem plain_ps (x : Fd) (T T1 : Told) (h : plainT x T = some T1) : T1.ps = T.ps := by
  unfold plainT tellT at h
  split at h
  · cases h
  · split at h
    · cases h
    · split at h
      · split at h
        · injection h with h; rw [← h]; exact Int.add_zero _
        · cases h
      · injection h with h; rw [h]
/-- what a right head's fields are: pseudo-fields, then others -/
theorem run_split (l : List Fd) (T : Told) (h : runT 0 l T0 = some T) :
    ∃ Tn, runT 0 (l.take (ahead l)) T0 = some Tn ∧ runP (l.drop (ahead l)) Tn = some T ∧ (∀ x ∈ l.drop (ahead l), pseudoB x.f0 = false) := by
  have h' := h
  rw [← List.take_append_drop (ahead l) l, runT_append] at h
  have hle := ahead_le l
  cases hn : runT 0 (l.take (ahead l)) T0 with
  | none => rw [hn] at h; cases h
  | some Tn =>
    rw [hn] at h
    simp only [Option.bind_some, Nat.zero_add, List.length_take, Nat.min_eq_left hle] at h
    have hps := run_pseudo _ (ahead_take l) 0 T0 Tn hn
    rw [List.length_take, Nat.min_eq_left hle] at hps
    have hps : Tn.ps = (ahead l : Int) := by rw [hps]; show (0 : Int) + _ = _; omega
    refine ⟨Tn, rfl, ?_, ?_⟩
    all_goals
      rcases ahead_drop l with hd | ⟨y, m, hd, hy⟩
      · rw [hd] at h ⊢
        first
        | (simp only [runT] at h; exact h)
        | (intro x hx; cases hx)
      · rw [hd] at h ⊢
        have hall : ∀ x ∈ y :: m, pseudoB x.f0 = false := by
          simp only [runT] at h
          rw [step_plain y hy] at h
          cases hs : plainT y Tn with
          | none => rw [hs] at h; cases h
          | some T1 =>
            rw [hs] at h
            simp only [Option.bind_some] at h
            have hp1 := plain_ps y Tn T1 hs
            have hb := run_behind m (ahead l + 1) T1 T (by rw [hp1, hps]; omega) h
            intro x hx
            rcases List.mem_cons.1 hx with rfl | hx
            · exact hy
            · exact hb x hx
        first
        | (rw [run_plain _ hall] at h; exact h)
        | exact hall
theorem runT_pre (l m : List Fd) (Tn T : Told) (h1 : runT 0 l T0 = some Tn) (hm : ∀ x ∈ m, pseudoB x.f0 = false) (h2 : runP m Tn = some T) : runT 0 (l ++ m) T0 = some T := by
  rw [runT_append, h1]
  simp only [Option.bind_some]
  rw [run_plain m hm]
  exact h2
/-- a field that changes nothing -/
theorem still_of (x : Fd) (T1 : Told) (h : runT 0 [x] T0 = some T1) (hp : ¬ T1.ps > 0) (h1 : x.f0 ≠ CT) (h2 : x.f0 ≠ CL) : pseudoB x.f0 = false ∧ ∀ T, plainT x T = some T := by
  cases hx : pseudoB x.f0 with
  | true =>
    exfalso
    have := run_pseudo [x] (fun y hy => by rcases List.mem_cons.1 hy with rfl | hy; exact hx; cases hy) 0 T0 T1 h
    rw [this] at hp
    exact hp (by show (0 : Int) + ((([x] : List Fd).length : Nat) : Int) > 0; simp)
  | false =>
    refine ⟨rfl, fun T => ?_⟩
    simp only [runT] at h
    rw [step_plain x hx] at h
    unfold plainT at h ⊢
    by_cases hr : rightB x = false
    · rw [if_pos hr] at h; cases h
    · by_cases hb : barredB x = true
      · rw [if_neg hr, if_pos hb] at h; cases h
      · rw [if_neg hr, if_neg hb, if_neg (by rintro (e | e); exact h2 e; exact h1 e)]
theorem runP_still (x : Fd) (hx : ∀ T, plainT x T = some T) (m : List Fd) (T : Told) : runP (x :: m) T = runP m T := by
  simp only [runP]
  rw [hx T]
  rfl
/-- **What a right request's head tells is told, too, with a still field behind it or between, and with its plain fields turned.** -/
theorem head_more (l : List Fd) (x : Fd) (T : Told) (h : runT 0 l T0 = some T) (hx : pseudoB x.f0 = false) (hs : ∀ T, plainT x T = some T) :
    runT 0 (l ++ [x]) T0 = some T ∧ runT 0 (l.take (ahead l) ++ [x] ++ l.drop (ahead l)) T0 = some T ∧ runT 0 (l.take (ahead l) ++ (l.drop (ahead l)).reverse) T0 = some T := by
  obtain ⟨Tn, h1, h2, h3⟩ := run_split l T h
  refine ⟨?_, ?_, ?_⟩
  · rw [runT_append, h]
    simp only [Option.bind_some, runT, step_plain x hx, hs]
  · rw [List.append_assoc]
    refine runT_pre _ _ Tn T h1 ?_ ?_
    · intro y hy
      rcases List.mem_append.1 hy with hy | hy
      · rcases List.mem_cons.1 hy with rfl | hy
        · exact hx
        · cases hy
      · exact h3 y hy
    · show runP (x :: l.drop (ahead l)) Tn = some T
      rw [runP_still x hs]
      exact h2
  · refine runT_pre _ _ Tn T h1 (fun y hy => h3 y (List.mem_reverse.1 hy)) ?_
    rw [runP_reverse]
    exact h2
theorem headT_congr (l m : List Fd) (h : runT 0 l T0 = runT 0 m T0) : headT l = headT m := by
  unfold headT
  rw [h]
end Go.Proofs.YtgfdmaohnngpjaaDoor.P
