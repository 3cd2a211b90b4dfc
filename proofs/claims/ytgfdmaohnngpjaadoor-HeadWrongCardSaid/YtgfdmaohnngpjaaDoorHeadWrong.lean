/- The plain law HeadWrong: each of ten fields makes a right head wrong; a field that counts, a second time, too. -/
import Derived.Test.YtgfdmaohnngpjaaDoorHeadOther
import Derived.Test.YtgfdmaohnngpjaaDoorHWDefs
namespace Go.Proofs.YtgfdmaohnngpjaaDoor.P
open Go.RowKit Go.Proofs.YtgfdmaohnngpjaaDoorW.PrintWords Go.Proofs.YtgfdmaohnngpjaaDoorW.PrintLast Go.Proofs.YtgfdmaohnngpjaaDoorW.PrintMore
set_option linter.unusedVariables false
set_option linter.unusedSimpArgs false
abbrev errR : ByteArray × ByteArray × ByteArray × ByteArray × Bool × Int × Int := (⟨#[]⟩, ⟨#[]⟩, ⟨#[]⟩, ⟨#[]⟩, false, 0, 100)
def Bi (T : Told) : Prop := ∀ s, T.ft s = 0 ∨ T.ft s = 1
theorem tell_told (x : Fd) (T T' : Told) (d : Int) (h : tellT x T d = some T') (hb : Bi T) : Bi T' ∧ (∀ s, T.ft s = 1 → T'.ft s = 1) ∧ T'.ft x.f0.data.toList = 1 ∧ T.ft x.f0.data.toList = 0 := by
  unfold tellT at h
  generalize x.f0.data.toList = a at h ⊢
  by_cases h1 : (T.ft a + 1 == 1) = true
  · rw [if_pos h1] at h
    have h0 : T.ft a = 0 := by have := beq_iff_eq.mp h1; omega
    have e := Option.some.inj h
    subst e
    refine ⟨fun s => ?_, fun s hs => ?_, ?_, h0⟩
    · simp only [upd]
      split
      · right; omega
      · exact hb s
    · simp only [upd]
      split
      · omega
      · exact hs
    · simp only [upd, if_true]; omega
  · rw [if_neg h1] at h; cases h
def counts (x : Fd) : Prop := pseudoB x.f0 = true ∨ x.f0 = CL ∨ x.f0 = CT
theorem step_told (x : Fd) (o : Int) (T T' : Told) (h : stepT x o T = some T') (hb : Bi T) : Bi T' ∧ (∀ s, T.ft s = 1 → T'.ft s = 1) ∧ rightB x = true ∧ (counts x → T'.ft x.f0.data.toList = 1 ∧ T.ft x.f0.data.toList = 0) := by
  unfold stepT at h
  by_cases h1 : rightB x = false
  · rw [if_pos h1] at h; cases h
  · rw [if_neg h1] at h
    have h1' : rightB x = true := by simpa using h1
    by_cases h2 : barredB x = true
    · rw [if_pos h2] at h; cases h
    · rw [if_neg h2] at h
      by_cases h3 : pseudoB x.f0 = true ∧ 0 < o
      · rw [if_pos h3] at h; cases h
      · rw [if_neg h3] at h
        by_cases h4 : pseudoB x.f0 = true
        · rw [if_pos h4] at h
          obtain ⟨a, b, c, d⟩ := tell_told x T T' 1 h hb
          exact ⟨a, b, h1', fun _ => ⟨c, d⟩⟩
        · rw [if_neg h4] at h
          by_cases h5 : x.f0 = CL ∨ x.f0 = CT
          · rw [if_pos h5] at h
            obtain ⟨a, b, c, d⟩ := tell_told x T T' 0 h hb
            exact ⟨a, b, h1', fun _ => ⟨c, d⟩⟩
          · rw [if_neg h5] at h
            have e := Option.some.inj h
            subst e
            exact ⟨hb, fun _ h => h, h1', fun hc => by rcases hc with hc | hc; exact absurd hc h4; exact absurd hc h5⟩
theorem run_told : ∀ (l : List Fd) (i : Nat) (T T' : Told), runT i l T = some T' → Bi T → Bi T' ∧ (∀ s, T.ft s = 1 → T'.ft s = 1) ∧ ∀ x ∈ l, rightB x = true ∧ (counts x → T'.ft x.f0.data.toList = 1)
  | [], i, T, T', h, hb => by
    have e := Option.some.inj h
    subst e
    exact ⟨hb, fun _ h => h, fun x hx => by cases hx⟩
  | y :: l, i, T, T', h, hb => by
    simp only [runT] at h
    cases hs : stepT y ((i : Int) - T.ps) T with
    | none => rw [hs] at h; cases h
    | some T1 =>
      rw [hs] at h
      simp only [Option.bind_some] at h
      obtain ⟨b1, m1, r1, c1⟩ := step_told y _ T T1 hs hb
      obtain ⟨b2, m2, a2⟩ := run_told l (i + 1) T1 T' h b1
      refine ⟨b2, fun s hs => m2 s (m1 s hs), fun x hx => ?_⟩
      rcases List.mem_cons.1 hx with rfl | hx
      · exact ⟨r1, fun hc => m2 _ (c1 hc).1⟩
      · exact a2 x hx
theorem bi0 : Bi T0 := fun _ => .inl rfl
theorem head_snoc (l : List Fd) (x : Fd) (T : Told) (h : runT 0 l T0 = some T) : runT 0 (l ++ [x]) T0 = stepT x ((l.length : Int) - T.ps) T := by
  rw [runT_append, h]
  simp only [Option.bind_some, Nat.zero_add, runT]
  cases stepT x ((l.length : Int) - T.ps) T <;> rfl
theorem req_none (l : List Fd) (h : runT 0 l T0 = none) : reqT (headT l) = errR := by
  unfold headT
  rw [h]
  rfl
/-- what a right request's head is -/
theorem req_right (l : List Fd) (h : (reqT (headT l)).2.2.2.2.2.2 = 0) : ∃ T, runT 0 l T0 = some T ∧ T.ft nM + T.ft nS + T.ft nP = 3 ∧ T.ps = 3 + T.ft nA := by
  obtain ⟨T, hT⟩ := req_run l h
  refine ⟨T, hT, ?_⟩
  unfold headT at h
  rw [hT] at h
  simp only [Option.bind_some] at h
  have key : ∀ md ln, (reqT (some (T, md, ln))).2.2.2.2.2.2 = 0 → T.ft nM + T.ft nS + T.ft nP = 3 ∧ T.ps = 3 + T.ft nA := by
    intro md ln hk
    unfold reqT at hk
    by_cases hc : T.ft nM + T.ft nS + T.ft nP = 3 ∧ T.ps = 3 + T.ft nA ∧ (T.fv nM).toList.isEmpty = false ∧ (T.fv nP).toList.isEmpty = false ∧ (T.fv nS).toList.isEmpty = false
    · exact ⟨hc.1, hc.2.1⟩
    · simp only [if_neg hc] at hk; cases hk
  by_cases h1 : 0 < T.ft CL.data.toList
  · rw [if_pos h1] at h
    by_cases h2 : (decimal (T.fv CL.data.toList) 999999999).2 = true
    · rw [if_pos h2] at h; exact key _ _ h
    · rw [if_neg h2] at h; cases h
  · rw [if_neg h1] at h; exact key _ _ h
/-- ten fields, each of which makes a head wrong -/
abbrev badL : List Fd := [(⟨⟨#[88]⟩, ⟨#[121]⟩, false⟩ : Fd), (⟨⟨#[99, 111, 110, 110, 101, 99, 116, 105, 111, 110]⟩, ⟨#[99, 108, 111, 115, 101]⟩, false⟩ : Fd), (⟨⟨#[116, 101]⟩, ⟨#[103, 122, 105, 112]⟩, false⟩ : Fd), (⟨⟨#[120]⟩, ⟨#[32, 121]⟩, false⟩ : Fd), (⟨⟨#[]⟩, ⟨#[121]⟩, false⟩ : Fd), (⟨⟨#[116, 114, 97, 110, 115, 102, 101, 114, 45, 101, 110, 99, 111, 100, 105, 110, 103]⟩, ⟨#[99, 104, 117, 110, 107, 101, 100]⟩, false⟩ : Fd), (⟨⟨#[99, 111, 110, 116, 101, 110, 116, 45, 108, 101, 110, 103, 116, 104]⟩, ⟨#[48, 49]⟩, false⟩ : Fd), (⟨⟨#[58, 111, 116, 104, 101, 114]⟩, ⟨#[121]⟩, false⟩ : Fd), (⟨⟨#[58, 109, 101, 116, 104, 111, 100]⟩, ⟨#[71, 69, 84]⟩, false⟩ : Fd), (⟨⟨#[120, 32, 121]⟩, ⟨#[122]⟩, false⟩ : Fd)]
theorem step_wrong (x : Fd) (h : rightB x = false ∨ barredB x = true) (o : Int) (T : Told) : stepT x o T = none := by
  unfold stepT
  rcases h with h | h
  · rw [if_pos h]
  · by_cases h1 : rightB x = false
    · rw [if_pos h1]
    · rw [if_neg h1, if_pos h]
theorem bad_len (l : List Fd) (T : Told) (h : runT 0 l T0 = some T) (hb : Bi T) : reqT (headT (l ++ [(⟨⟨#[99, 111, 110, 116, 101, 110, 116, 45, 108, 101, 110, 103, 116, 104]⟩, ⟨#[48, 49]⟩, false⟩ : Fd)])) = errR := by
  have hs := head_snoc l (⟨⟨#[99, 111, 110, 116, 101, 110, 116, 45, 108, 101, 110, 103, 116, 104]⟩, ⟨#[48, 49]⟩, false⟩ : Fd) T h
  have hp : pseudoB (⟨#[99, 111, 110, 116, 101, 110, 116, 45, 108, 101, 110, 103, 116, 104]⟩ : ByteArray) = false := by kernel_rfl
  have e1 : stepT (⟨⟨#[99, 111, 110, 116, 101, 110, 116, 45, 108, 101, 110, 103, 116, 104]⟩, ⟨#[48, 49]⟩, false⟩ : Fd) ((l.length : Int) - T.ps) T = tellT (⟨⟨#[99, 111, 110, 116, 101, 110, 116, 45, 108, 101, 110, 103, 116, 104]⟩, ⟨#[48, 49]⟩, false⟩ : Fd) T 0 := by
    unfold stepT
    rw [if_neg (show ¬ rightB _ = false by rw [show rightB (⟨⟨#[99, 111, 110, 116, 101, 110, 116, 45, 108, 101, 110, 103, 116, 104]⟩, ⟨#[48, 49]⟩, false⟩ : Fd) = true by kernel_rfl]; simp),
      if_neg (show ¬ barredB _ = true by rw [show barredB (⟨⟨#[99, 111, 110, 116, 101, 110, 116, 45, 108, 101, 110, 103, 116, 104]⟩, ⟨#[48, 49]⟩, false⟩ : Fd) = false by kernel_rfl]; simp),
      if_neg (show ¬ (pseudoB _ = true ∧ _) by intro hc; exact absurd (hp.symm.trans hc.1) (by simp)), if_neg (show ¬ pseudoB _ = true by intro hc; exact absurd (hp.symm.trans hc) (by simp)), if_pos (.inl rfl)]
  rw [e1] at hs
  unfold tellT at hs
  by_cases h1 : (T.ft CL.data.toList + 1 == 1) = true
  · rw [if_pos (show (T.ft (⟨#[99, 111, 110, 116, 101, 110, 116, 45, 108, 101, 110, 103, 116, 104]⟩ : ByteArray).data.toList + 1 == 1) = true from h1)] at hs
    unfold headT
    rw [hs]
    simp only [Option.bind_some]
    have h0 : T.ft CL.data.toList = 0 := by have := beq_iff_eq.mp h1; omega
    have eft : upd T.ft (⟨#[99, 111, 110, 116, 101, 110, 116, 45, 108, 101, 110, 103, 116, 104]⟩ : ByteArray).data.toList (T.ft (⟨#[99, 111, 110, 116, 101, 110, 116, 45, 108, 101, 110, 103, 116, 104]⟩ : ByteArray).data.toList + 1) CL.data.toList = 1 := by
      rw [show (⟨#[99, 111, 110, 116, 101, 110, 116, 45, 108, 101, 110, 103, 116, 104]⟩ : ByteArray) = CL from rfl, upd_same, h0]; rfl
    have efv : upd T.fv (⟨#[99, 111, 110, 116, 101, 110, 116, 45, 108, 101, 110, 103, 116, 104]⟩ : ByteArray).data.toList (⟨#[48, 49]⟩ : ByteArray) CL.data.toList = ⟨#[48, 49]⟩ := by
      rw [show (⟨#[99, 111, 110, 116, 101, 110, 116, 45, 108, 101, 110, 103, 116, 104]⟩ : ByteArray) = CL from rfl, upd_same]
    rw [eft, efv, if_pos (by decide), if_neg (by rw [show (decimal (⟨#[48, 49]⟩ : ByteArray) 999999999).2 = false by kernel_rfl]; simp)]
    rfl
  · rw [if_neg (show ¬ (T.ft (⟨#[99, 111, 110, 116, 101, 110, 116, 45, 108, 101, 110, 103, 116, 104]⟩ : ByteArray).data.toList + 1 == 1) = true from h1)] at hs
    exact req_none _ hs
theorem bad_other (l : List Fd) (T : Told) (h : runT 0 l T0 = some T) (hq : T.ps = 3 + T.ft nA) : reqT (headT (l ++ [(⟨⟨#[58, 111, 116, 104, 101, 114]⟩, ⟨#[121]⟩, false⟩ : Fd)])) = errR := by
  cases hr : runT 0 (l ++ [(⟨⟨#[58, 111, 116, 104, 101, 114]⟩, ⟨#[121]⟩, false⟩ : Fd)]) T0 with
  | none => exact req_none _ hr
  | some T' =>
    have hs := (head_snoc l _ T h).symm.trans hr
    have hp : pseudoB (⟨#[58, 111, 116, 104, 101, 114]⟩ : ByteArray) = true := by kernel_rfl
    have e1 : T'.ps = T.ps + 1 ∧ T'.ft nA = T.ft nA := by
      unfold stepT at hs
      rw [if_neg (show ¬ rightB _ = false by rw [show rightB (⟨⟨#[58, 111, 116, 104, 101, 114]⟩, ⟨#[121]⟩, false⟩ : Fd) = true by kernel_rfl]; simp),
        if_neg (show ¬ barredB _ = true by rw [show barredB (⟨⟨#[58, 111, 116, 104, 101, 114]⟩, ⟨#[121]⟩, false⟩ : Fd) = false by kernel_rfl]; simp)] at hs
      split at hs
      · cases hs
      · try rw [if_pos hp] at hs
        unfold tellT at hs
        split at hs
        · have e := Option.some.inj hs
          subst e
          have hne : ¬ nA = (⟨#[58, 111, 116, 104, 101, 114]⟩ : ByteArray).data.toList := by decide
          refine ⟨rfl, ?_⟩
          simp only [upd]
          rw [if_neg hne]
        · cases hs
    have key : ∀ md ln, reqT (some (T', md, ln)) = errR := by
      intro md ln
      unfold reqT
      simp only
      rw [if_neg (by rintro ⟨_, hc, _⟩; rw [e1.1, e1.2] at hc; omega)]
    unfold headT
    rw [hr]
    simp only [Option.bind_some]
    split
    · split
      · exact key _ _
      · rfl
    · exact key _ _
theorem twice_none (x : Fd) (o : Int) (T : Told) (hb : Bi T) (hc : counts x) (h1 : T.ft x.f0.data.toList = 1) : stepT x o T = none := by
  cases hs : stepT x o T with
  | none => rfl
  | some T' => have := ((step_told x o T T' hs hb).2.2.2 hc).2; omega
theorem bad_wrong (l : List Fd) (h : (reqT (headT l)).2.2.2.2.2.2 = 0) : ∀ b ∈ badL, reqT (headT (l ++ [b])) = errR := by
  obtain ⟨T, hT, hsum, hps⟩ := req_right l h
  have hb := (run_told l 0 T0 T hT bi0).1
  have plainB : ∀ b : Fd, rightB b = false ∨ barredB b = true → reqT (headT (l ++ [b])) = errR := fun b hw => req_none _ ((head_snoc l b T hT).trans (step_wrong b hw _ T))
  have hm : T.ft nM = 1 := by
    have a := hb nM
    have b := hb nS
    have c := hb nP
    omega
  intro b hbm
  simp only [badL, List.mem_cons, List.not_mem_nil, or_false] at hbm
  rcases hbm with rfl | rfl | rfl | rfl | rfl | rfl | rfl | rfl | rfl | rfl
  · exact plainB _ (.inl (by kernel_rfl))
  · exact plainB _ (.inr (by kernel_rfl))
  · exact plainB _ (.inr (by kernel_rfl))
  · exact plainB _ (.inl (by kernel_rfl))
  · exact plainB _ (.inl (by kernel_rfl))
  · exact plainB _ (.inr (by kernel_rfl))
  · exact bad_len l T hT hb
  · exact bad_other l T hT hps
  · exact req_none _ ((head_snoc l _ T hT).trans (twice_none _ _ T hb (.inl (by kernel_rfl)) hm))
  · exact plainB _ (.inl (by kernel_rfl))
theorem bad_size : ∀ b ∈ badL, b.f0.size ≤ 3000 ∧ b.f1.size ≤ 3000 := by
  intro b hbm
  simp only [badL, List.mem_cons, List.not_mem_nil, or_false] at hbm
  rcases hbm with rfl | rfl | rfl | rfl | rfl | rfl | rfl | rfl | rfl | rfl <;> exact ⟨by decide, by decide⟩
theorem snoc_size (l : List Fd) (x : Fd) (h : ∀ x ∈ l, x.f0.size ≤ 3000 ∧ x.f1.size ≤ 3000) (hx : x.f0.size ≤ 3000 ∧ x.f1.size ≤ 3000) : ∀ y ∈ l ++ [x], y.f0.size ≤ 3000 ∧ y.f1.size ≤ 3000 := by
  intro y hy
  rcases List.mem_append.1 hy with hy | hy
  · exact h y hy
  · rw [List.mem_singleton.1 hy]; exact hx
theorem wrongLast (l : List Fd) (hl : l.length ≤ 200) (hs : ∀ x ∈ l, x.f0.size ≤ 3000 ∧ x.f1.size ≤ 3000) (h0 : (reqT (headT l)).2.2.2.2.2.2 = 0) (n : Nat) (hn : n < l.length)
    (he : ¬ (reqT (headT (l ++ [l[n]]))).2.2.2.2.2.2 = 100) : 0 < l[n].f0.size ∧ ¬ bt l[n].f0 0 = 58 ∧ ¬ l[n].f0 = CL ∧ ¬ l[n].f0 = CT := by
  obtain ⟨T, hT, _, _⟩ := req_right l h0
  obtain ⟨hb, _, ha⟩ := run_told l 0 T0 T hT bi0
  obtain ⟨hr, hc⟩ := ha l[n] (List.getElem_mem hn)
  have hnc : ¬ counts l[n] := fun hcc => he (by rw [req_none _ ((head_snoc l l[n] T hT).trans (twice_none _ _ T hb hcc (hc hcc)))])
  have hne : l[n].f0.toList.isEmpty = false := by
    cases hemp : l[n].f0.toList.isEmpty with
    | false => rfl
    | true =>
      exfalso
      have e : l[n].f0.data.toList = [] := by rw [← Lib.toList_data]; simpa using hemp
      unfold rightB rightL at hr
      rw [e] at hr
      simp [uncolon] at hr
  refine ⟨sz_of hne, fun h58 => hnc (.inl ?_), fun e => hnc (.inr (.inl e)), fun e => hnc (.inr (.inr e))⟩
  unfold pseudoB
  rw [hne, h58]
  rfl
theorem wrongLoop (l : List Fd) (a : Int) (hl : l.length ≤ 200) (hs : ∀ x ∈ l, x.f0.size ≤ 3000 ∧ x.f1.size ≤ 3000) (h0 : (reqT (headT l)).2.2.2.2.2.2 = 0) :
    ∀ (d i : Nat), i + d = badL.length → Ev (fun k => HW.l0 k l a badL i) true
  | 0, i, hi => by
    have hc : ¬ (i : Int) < (badL.length : Int) := by omega
    refine Ev.step (fun k => rfl) ?_
    simp only [HW.l0, if_neg hc]
    by_cases h1 : a < 0
    · simp only [if_pos h1]; exact Ev.now _
    · simp only [if_neg h1]
      by_cases h2 : a ≥ (l.length : Int)
      · simp only [if_pos h2]; exact Ev.now _
      · simp only [if_neg h2]
        obtain ⟨n, rfl⟩ : ∃ n : Nat, a = n := ⟨a.toNat, by omega⟩
        have hn : n < l.length := by omega
        have hrd := rd_get l n hn
        have c1 : l.length < 3518437208883 := by omega
        have c2 : l.length + 1 < 3518437208883 := by omega
        have hf := request_f (l ++ [l[n]]) (snoc_size l _ hs (hs _ (List.getElem_mem hn))) (by simp; omega)
        simp only [Option.bind_some, List.length_nil, Nat.zero_add, List.nil_append, if_pos c1, if_pos (Int.natCast_nonneg n), if_pos (Int.ofNat_lt.mpr hn), List.length_singleton, if_pos c2, hrd, hf]
        by_cases he : (reqT (headT (l ++ [l[n]]))).2.2.2.2.2.2 = 100
        · simp only [if_pos he]; exact Ev.now _
        · obtain ⟨q1, q2, q3, q4⟩ := wrongLast l hl hs h0 n hn he
          have q1' : 0 < (l[n].f0.size : Int) := by omega
          have q3' : ¬ l[n].f0.toList = ([99, 111, 110, 116, 101, 110, 116, 45, 108, 101, 110, 103, 116, 104] : List UInt8) := fun e => q3 (ba_ext _ _ (by rw [← Lib.toList_data, e]; rfl))
          have q4' : (l[n].f0.toList != ([99, 111, 110, 116, 101, 110, 116, 45, 116, 121, 112, 101] : List UInt8)) = true := by
            rw [bne_iff_ne]
            exact fun e => q4 (ba_ext _ _ (by rw [← Lib.toList_data, e]; rfl))
          simp only [if_neg he, if_pos q1', if_neg q2, if_neg q3', q4']
          exact Ev.now _
  | d + 1, i, hi => by
    have hj : i < badL.length := by omega
    have ih := wrongLoop l a hl hs h0 d (i + 1) (by omega)
    have hrd := rd_get badL i hj
    have hm : badL[i] ∈ badL := List.getElem_mem hj
    have hw := bad_wrong l h0 badL[i] hm
    have hf := request_f (l ++ [badL[i]]) (snoc_size l _ hs (bad_size _ hm)) (by simp; omega)
    rw [hw] at hf
    have c0 : (i : Int) < (badL.length : Int) := by omega
    have c1 : l.length < 3518437208883 := by omega
    have c2 : l.length + 1 < 3518437208883 := by omega
    have hi10 : i < 10 := hj
    have e2 : wrap64 ((i : Int) + 1) = ((i + 1 : Nat) : Int) := by unfold wrap64; omega
    refine Ev.step (fun k => rfl) ?_
    have hE : (⟨#[]⟩ : ByteArray).toList = [] := by rw [Lib.toList_data]
    generalize hB : badL = B at *
    simp only [HW.l0, hE, if_pos c0, Option.bind_some, List.length_nil, Nat.zero_add, List.nil_append, if_pos c1, if_pos (Int.natCast_nonneg i), List.length_singleton, if_pos c2, hrd, hf, if_true, e2]
    exact ih
theorem HeadWrong (l : List Fd) (a : Int) (hl : l.length ≤ 9223372036854775807) : ∃ k, HW.f k l a = some true := by
  have h : Ev (fun k => HW.f k l a) true := by
    obtain ⟨b, hb, hc⟩ := few_ev l hl
    unfold HW.f
    rw [awake_ok]
    simp only [Option.bind_some, if_true]
    refine Ev.bind hb ?_
    have hj : Ev (fun k => HW.j0 k l a true) true := Ev.step (fun k => by simp only [HW.j0]; rfl) (Ev.now _)
    cases b with
    | false => exact hj
    | true =>
      have hs := hc rfl
      simp only [if_true]
      by_cases h1 : (l.length : Int) > 200
      · simp only [decide_eq_true h1]; exact hj
      · simp only [decide_eq_false h1]
        have hs' : ∀ x ∈ l, x.f0.size ≤ 3000 ∧ x.f1.size ≤ 3000 := fun x hx => by have := hs x hx; omega
        have f0 := request_f l hs' (by omega)
        refine Ev.step (fun k => rfl) ?_
        simp only [HW.j0, f0, Option.bind_some, Bool.false_eq_true, if_false]
        by_cases hr0 : (reqT (headT l)).2.2.2.2.2.2 = 0
        · simp only [if_pos hr0]
          exact wrongLoop l a (by omega) hs' hr0 10 0 rfl
        · simp only [if_neg hr0]; exact Ev.now _
  exact h.rounds
end Go.Proofs.YtgfdmaohnngpjaaDoor.P
