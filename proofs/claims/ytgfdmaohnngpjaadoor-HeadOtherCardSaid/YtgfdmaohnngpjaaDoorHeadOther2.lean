/- The plain law HeadOther, joined. -/
import Derived.Test.YtgfdmaohnngpjaaDoorHeadOther
import Derived.Test.YtgfdmaohnngpjaaDoorHODefs
namespace Go.Proofs.YtgfdmaohnngpjaaDoor.P
open Go.RowKit Go.Proofs.YtgfdmaohnngpjaaDoorW.PrintWords Go.Proofs.YtgfdmaohnngpjaaDoorW.PrintLast Go.Proofs.YtgfdmaohnngpjaaDoorW.PrintMore
set_option linter.unusedVariables false
set_option linter.unusedSimpArgs false
abbrev R7 := ByteArray × ByteArray × ByteArray × ByteArray × Bool × Int × Int
theorem otherTurn (l : List Fd) (n : Nat) (hl : l.length ≤ 200) (hs : ∀ x ∈ l, x.f0.size ≤ 3000 ∧ x.f1.size ≤ 3000) (r : R7) (h0 : r.2.2.2.2.2.2 = 0) (hr : reqT (headT (l.take n ++ (l.drop n).reverse)) = r) :
    ∀ (d i : Nat) (acc : List Fd), n + d = i → i ≤ l.length → acc = l.take n ++ (l.drop i).reverse →
      Ev (fun k => nunciolaw20_HeadOther.l1 k l n 0 0 acc ((i : Int) - 1) r.1 r.2.1 r.2.2.1 r.2.2.2.1 r.2.2.2.2.1 r.2.2.2.2.2.1 r.1 r.2.1 r.2.2.1 r.2.2.2.1 r.2.2.2.2.1 r.2.2.2.2.2.1 r.1 r.2.1 r.2.2.1 r.2.2.2.1 r.2.2.2.2.1 r.2.2.2.2.2.1) true
  | 0, i, acc, hi, hil, ha => by
    have hi : i = n := by omega
    subst hi
    have hsz : ∀ x ∈ acc, x.f0.size ≤ 3000 ∧ x.f1.size ≤ 3000 := by
      intro x hx
      rw [ha] at hx
      rcases List.mem_append.1 hx with hx | hx
      · exact hs x (List.mem_of_mem_take hx)
      · exact hs x (List.mem_of_mem_drop (List.mem_reverse.1 hx))
    have hlen : acc.length ≤ 1000 := by rw [ha]; simp; omega
    have hf := request_f acc hsz hlen
    rw [ha, hr, ← ha] at hf
    have hc : ¬ ((i : Int) - 1 ≥ (i : Int)) := by omega
    refine Ev.step (fun k => rfl) ?_
    simp only [nunciolaw20_HeadOther.l1, if_neg hc, hf, Option.bind_some, beq_self_eq_true, Bool.and_self, if_true, h0]
    exact Ev.now _
  | d + 1, i, acc, hi, hil, ha => by
    obtain ⟨j, rfl⟩ : ∃ j, i = j + 1 := ⟨i - 1, by omega⟩
    have hj : j < l.length := by omega
    have hlen : acc.length ≤ 1000 := by rw [ha]; simp; omega
    have ih := otherTurn l n hl hs r h0 hr d j (acc ++ [l[j]]) (by omega) (by omega) (by rw [ha, List.drop_eq_getElem_cons hj, List.reverse_cons, List.append_assoc])
    have e1 : ((j + 1 : Nat) : Int) - 1 = (j : Int) := by omega
    have e2 : wrap64 ((j : Int) - 1) = (j : Int) - 1 := by unfold wrap64; omega
    have c1 : (j : Int) ≥ (n : Int) := by omega
    have c2 : acc.length + 1 < 3518437208883 := by omega
    have hrd := rd_get l j hj
    refine Ev.step (fun k => rfl) ?_
    simp only [nunciolaw20_HeadOther.l1, e1, if_pos c1, if_pos (Int.natCast_nonneg j), if_pos (Int.ofNat_lt.mpr hj), Option.bind_some, List.length_cons, List.length_nil, Nat.zero_add, if_pos c2, e2, hrd]
    exact ih
theorem otherRest (l : List Fd) (nm v : ByteArray) (hl : l.length ≤ 200) (hs : ∀ x ∈ l, x.f0.size ≤ 3000 ∧ x.f1.size ≤ 3000) (hx : nm.size ≤ 3000 ∧ v.size ≤ 3000) (n : Nat) (hn : n ≤ l.length) (r : R7) (h0 : r.2.2.2.2.2.2 = 0)
    (h1 : reqT (headT (l ++ [(⟨nm, v, false⟩ : Fd)])) = r) (h2 : reqT (headT (l.take n ++ [(⟨nm, v, false⟩ : Fd)] ++ l.drop n)) = r) (h3 : reqT (headT (l.take n ++ (l.drop n).reverse)) = r) :
    Ev (fun k => nunciolaw20_HeadOther.j3 k l nm v n r.1 r.2.1 r.2.2.1 r.2.2.2.1 r.2.2.2.2.1 r.2.2.2.2.2.1) true := by
  have hx' : ∀ x ∈ [(⟨nm, v, false⟩ : Fd)], x.f0.size ≤ 3000 ∧ x.f1.size ≤ 3000 := by
    intro x hx1
    rcases List.mem_cons.1 hx1 with rfl | hx1
    · exact hx
    · cases hx1
  have f1 := request_f (l ++ [(⟨nm, v, false⟩ : Fd)]) (fun x h => by rcases List.mem_append.1 h with h | h; exact hs x h; exact hx' x h) (by simp; omega)
  have f2 := request_f (l.take n ++ [(⟨nm, v, false⟩ : Fd)] ++ l.drop n) (fun x h => by
    rcases List.mem_append.1 h with h | h
    · rcases List.mem_append.1 h with h | h
      · exact hs x (List.mem_of_mem_take h)
      · exact hx' x h
    · exact hs x (List.mem_of_mem_drop h)) (by simp; omega)
  rw [h1] at f1
  rw [h2] at f2
  have ht := otherTurn l n hl hs r h0 h3 (l.length - n) l.length (l.take n) (by omega) (Nat.le_refl _) (by simp)
  have e2 : wrap64 ((l.length : Int) - 1) = (l.length : Int) - 1 := by unfold wrap64; omega
  have c1 : l.length < 3518437208883 := by omega
  have c2 : l.length + 1 < 3518437208883 := by omega
  have c3 : (n : Int) ≤ (l.length : Int) := by omega
  have c4 : (l.take n).length < 3518437208883 := by rw [List.length_take]; omega
  have c5 : (l.take n).length + 1 < 3518437208883 := by rw [List.length_take]; omega
  have c6 : (l.take n ++ [(⟨nm, v, false⟩ : Fd)]).length + (l.drop n).length < 3518437208883 := by simp; omega
  refine Ev.step (fun k => rfl) ?_
  simp only [nunciolaw20_HeadOther.j3, Option.bind_some, List.length_nil, Nat.zero_add, List.nil_append, if_pos c1, List.length_singleton, if_pos c2, f1, if_pos (Int.natCast_nonneg n), if_pos c3, Int.toNat_natCast, if_pos c4, if_pos c5, if_pos c6, f2, e2, h0]
  exact ht
theorem otherCount (l : List Fd) (nm v : ByteArray) (hl : l.length ≤ 200) (r0 r1 r2 r3 : ByteArray) (r4 : Bool) (r5 : Int) : ∀ (d i : Nat), i + d = l.length →
    Ev (fun k => nunciolaw20_HeadOther.j3 k l nm v ((i + ahead (l.drop i) : Nat) : Int) r0 r1 r2 r3 r4 r5) true → Ev (fun k => nunciolaw20_HeadOther.l0 k l nm v i r0 r1 r2 r3 r4 r5) true
  | 0, i, hi, h => by
    have hc : ¬ (i : Int) < (l.length : Int) := by omega
    rw [List.drop_of_length_le (by omega)] at h
    refine Ev.step (fun k => rfl) ?_
    simp only [nunciolaw20_HeadOther.l0, if_neg hc]
    exact h
  | d + 1, i, hi, h => by
    have hj : i < l.length := by omega
    have ih := otherCount l nm v hl r0 r1 r2 r3 r4 r5 d (i + 1) (by omega)
    have hrd := rd_get l i hj
    have e2 : wrap64 ((i : Int) + 1) = ((i + 1 : Nat) : Int) := by unfold wrap64; omega
    rw [List.drop_eq_getElem_cons hj] at h
    rw [show ahead (l[i] :: l.drop (i + 1)) = if pseudoB l[i].f0 = true then ahead (l.drop (i + 1)) + 1 else 0 from rfl] at h
    refine Ev.step (fun k => rfl) ?_
    simp only [nunciolaw20_HeadOther.l0, if_pos (Int.ofNat_lt.mpr hj), if_pos (Int.natCast_nonneg i), hrd, e2]
    have hps : pseudoB l[i].f0 = (!l[i].f0.toList.isEmpty && (bt l[i].f0 0 == 58)) := rfl
    have hsz : l[i].f0.toList.isEmpty = decide (l[i].f0.size = 0) := by
      rw [Lib.toList_data]
      have : l[i].f0.data.toList.length = l[i].f0.size := by simp
      cases hL : l[i].f0.data.toList with
      | nil => rw [hL] at this; simp at this; simp [← this]
      | cons a b => rw [hL] at this; simp at this; simp [← this]
    rw [hsz] at hps
    by_cases hz : l[i].f0.size = 0
    · rw [hps, decide_eq_true hz] at h
      simp only [Bool.not_true, Bool.false_and, Bool.false_eq_true, if_false, Nat.add_zero] at h
      have c : ¬ (l[i].f0.size : Int) > 0 := by omega
      simp only [if_neg c]
      exact h
    · have c : (l[i].f0.size : Int) > 0 := by omega
      have c' : 0 < (l[i].f0.size : Int) := c
      rw [hps, decide_eq_false hz] at h
      simp only [Bool.not_false, Bool.true_and] at h
      by_cases h58 : bt l[i].f0 0 = 58
      · rw [h58] at h
        simp only [beq_self_eq_true, if_true] at h
        simp only [if_pos c, if_pos c', if_pos h58]
        refine ih ?_
        rw [show i + 1 + ahead (l.drop (i + 1)) = i + (ahead (l.drop (i + 1)) + 1) by omega]
        exact h
      · have hb : (bt l[i].f0 0 == 58) = false := beq_eq_false_iff_ne.mpr h58
        rw [hb] at h
        simp only [Bool.false_eq_true, if_false, Nat.add_zero] at h
        simp only [if_pos c, if_pos c', if_neg h58]
        exact h
theorem HeadOther (l : List Fd) (nm v : ByteArray) (hl : l.length ≤ 9223372036854775807) : ∃ k, nunciolaw20_HeadOther.f k l nm v = some true := by
  have h : Ev (fun k => nunciolaw20_HeadOther.f k l nm v) true := by
    obtain ⟨b, hb, hc⟩ := few_ev l hl
    unfold nunciolaw20_HeadOther.f
    rw [awake_ok]
    simp only [Option.bind_some, if_true]
    refine Ev.bind hb ?_
    have hj : Ev (fun k => nunciolaw20_HeadOther.j0 k l nm v true) true := Ev.step (fun k => by simp only [nunciolaw20_HeadOther.j0]; rfl) (Ev.now _)
    have hj1 : ∀ r0 r1 r2 r3 r4 r5, Ev (fun k => nunciolaw20_HeadOther.j1 k l nm v true r0 r1 r2 r3 r4 r5) true := fun _ _ _ _ _ _ => Ev.step (fun k => by simp only [nunciolaw20_HeadOther.j1]; rfl) (Ev.now _)
    cases b with
    | false => exact hj
    | true =>
      have hs := hc rfl
      simp only [if_true]
      by_cases h1 : (l.length : Int) > 200
      · simp only [if_pos h1]; exact hj
      · by_cases h2 : (nm.size : Int) > 3000
        · simp only [if_neg h1, if_pos h2]; exact hj
        · by_cases h3 : (v.size : Int) > 3000
          · simp only [if_neg h1, if_neg h2, decide_eq_true h3]; exact hj
          · simp only [if_neg h1, if_neg h2, decide_eq_false h3]
            have hs' : ∀ x ∈ l, x.f0.size ≤ 3000 ∧ x.f1.size ≤ 3000 := fun x hx => by have := hs x hx; omega
            have hl' : l.length ≤ 200 := by omega
            refine Ev.step (fun k => rfl) ?_
            have f0 := request_f l hs' (by omega)
            have fx := trailers_f [(⟨nm, v, false⟩ : Fd)] (fun x hx => by rcases List.mem_cons.1 hx with rfl | hx; exact ⟨by show nm.size ≤ 3000; omega, by show v.size ≤ 3000; omega⟩; cases hx) (by simp)
            simp only [nunciolaw20_HeadOther.j0, f0, Option.bind_some, fx, Bool.false_eq_true, if_false]
            by_cases hr0 : (reqT (headT l)).2.2.2.2.2.2 = 0
            · by_cases ht0 : trailT (headT [(⟨nm, v, false⟩ : Fd)]) = 0
              · by_cases hct : nm.toList = ([99, 111, 110, 116, 101, 110, 116, 45, 116, 121, 112, 101] : List UInt8)
                · simp only [if_pos hr0, if_pos ht0, if_pos hct]; exact hj1 _ _ _ _ _ _
                · by_cases hcl : nm.toList = ([99, 111, 110, 116, 101, 110, 116, 45, 108, 101, 110, 103, 116, 104] : List UInt8)
                  · have hb : (nm.toList == ([99, 111, 110, 116, 101, 110, 116, 45, 108, 101, 110, 103, 116, 104] : List UInt8)) = true := beq_iff_eq.mpr hcl
                    simp only [if_pos hr0, if_pos ht0, if_neg hct, hb]; exact hj1 _ _ _ _ _ _
                  · have hb : (nm.toList == ([99, 111, 110, 116, 101, 110, 116, 45, 108, 101, 110, 103, 116, 104] : List UInt8)) = false := beq_eq_false_iff_ne.mpr hcl
                    simp only [if_pos hr0, if_pos ht0, if_neg hct, hb]
                    refine Ev.step (fun k => rfl) ?_
                    simp only [nunciolaw20_HeadOther.j1, Bool.false_eq_true, if_false]
                    obtain ⟨T, hT⟩ := req_run l hr0
                    obtain ⟨T1, hT1, hp1⟩ := trail_run _ ht0
                    obtain ⟨hx1, hx2⟩ := still_of _ T1 hT1 hp1 (fun e => hct (by have e : nm = CT := e; rw [e, Lib.toList_data]; rfl)) (fun e => hcl (by have e : nm = CL := e; rw [e, Lib.toList_data]; rfl))
                    obtain ⟨g1, g2, g3⟩ := head_more l _ T hT hx1 hx2
                    have k1 := headT_congr _ l (g1.trans hT.symm)
                    have k2 := headT_congr _ l (g2.trans hT.symm)
                    have k3 := headT_congr _ l (g3.trans hT.symm)
                    refine otherCount l nm v hl' _ _ _ _ _ _ l.length 0 (by omega) ?_
                    rw [List.drop_zero, Nat.zero_add]
                    exact otherRest l nm v hl' hs' ⟨by omega, by omega⟩ (ahead l) (ahead_le l) (reqT (headT l)) hr0 (by rw [k1]) (by rw [k2]) (by rw [k3])
              · simp only [if_pos hr0, if_neg ht0]; exact hj1 _ _ _ _ _ _
            · simp only [if_neg hr0]; exact hj1 _ _ _ _ _ _
  exact h.rounds
end Go.Proofs.YtgfdmaohnngpjaaDoor.P
