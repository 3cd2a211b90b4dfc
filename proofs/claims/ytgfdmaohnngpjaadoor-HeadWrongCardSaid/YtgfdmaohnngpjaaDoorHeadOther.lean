/- The plain law HeadOther: a still field behind a right head or between its fields, or its plain fields turned, change nothing. -/
import Derived.Test.YtgfdmaohnngpjaaDoorHeadPure
import Derived.Test.YtgfdmaohnngpjaaDoorPx14
import Derived.Test.YtgfdmaohnngpjaaDoorPx15
import Derived.Test.YtgfdmaohnngpjaaDoorPx18
import Derived.Test.YtgfdmaohnngpjaaDoorPx16
namespace Go.Proofs.YtgfdmaohnngpjaaDoor.P
open Go.RowKit Go.Proofs.YtgfdmaohnngpjaaDoorW.PrintWords Go.Proofs.YtgfdmaohnngpjaaDoorW.PrintLast Go.Proofs.YtgfdmaohnngpjaaDoorW.PrintMore
set_option linter.unusedVariables false
set_option linter.unusedSimpArgs false
theorem awake_ok : nunciolaw20_awake.f = some true := by kernel_rfl
/-! ### FewFields -/
set_option maxHeartbeats 1000000 in
theorem fewLoop (l : List Fd) (hl : l.length ≤ 9223372036854775807) : ∀ (d i : Nat) (n : Int), i + d = l.length → 0 ≤ n → n < 9000 →
    ∃ b, Ev (fun k => nunciolaw13_FewFields.l0 k l n i) b ∧ (b = true → n < 3000 ∧ ∀ x ∈ l.drop i, x.f0.size < 3000 ∧ x.f1.size < 3000)
  | 0, i, n, hi, h0, h1 => by
    refine ⟨decide (n < 3000), Ev.step (fun k => rfl) ?_, fun h => ⟨of_decide_eq_true h, by rw [List.drop_of_length_le (by omega)]; intro x hx; cases hx⟩⟩
    simp only [nunciolaw13_FewFields.l0, if_neg (show ¬ (i : Int) < (l.length : Int) by omega)]
    exact Ev.now _
  | d + 1, i, n, hi, h0, h1 => by
    by_cases hn : n < 3000
    · have hil : i < l.length := by omega
      have hrd := rd_get l i hil
      have m0 : 0 ≤ mn ((l[i].f0.size : Int)) 3000 ∧ mn ((l[i].f0.size : Int)) 3000 ≤ 3000 ∧ (mn ((l[i].f0.size : Int)) 3000 < 3000 → l[i].f0.size < 3000) := by unfold mn; split <;> omega
      have m1 : 0 ≤ mn ((l[i].f1.size : Int)) 3000 ∧ mn ((l[i].f1.size : Int)) 3000 ≤ 3000 ∧ (mn ((l[i].f1.size : Int)) 3000 < 3000 → l[i].f1.size < 3000) := by unfold mn; split <;> omega
      generalize hA : mn ((l[i].f0.size : Int)) 3000 = A at m0
      generalize hB : mn ((l[i].f1.size : Int)) 3000 = B at m1
      have hw1 : wrap64 (n + A) = n + A := by unfold wrap64; omega
      have hw2 : wrap64 (n + A + B) = n + A + B := by unfold wrap64; omega
      have hw3 : wrap64 ((i : Int) + 1) = ((i + 1 : Nat) : Int) := by unfold wrap64; omega
      obtain ⟨b, hb, hc⟩ := fewLoop l hl d (i + 1) (n + A + B) (by omega) (by omega) (by omega)
      refine ⟨b, Ev.step (fun k => rfl) ?_, fun h => ?_⟩
      · simp only [nunciolaw13_FewFields.l0, if_pos (Int.ofNat_lt.mpr hil), if_pos hn, if_pos (Int.natCast_nonneg i), hrd, hA, hB, hw1, hw2, hw3]
        exact hb
      · obtain ⟨h2, h3⟩ := hc h
        refine ⟨hn, ?_⟩
        rw [List.drop_eq_getElem_cons hil]
        intro x hx
        rcases List.mem_cons.1 hx with rfl | hx
        · exact ⟨m0.2.2 (by omega), m1.2.2 (by omega)⟩
        · exact h3 x hx
    · refine ⟨decide (n < 3000), Ev.step (fun k => rfl) ?_, fun h => absurd (of_decide_eq_true h) hn⟩
      simp only [nunciolaw13_FewFields.l0, if_pos (Int.ofNat_lt.mpr (show i < l.length by omega)), if_neg hn]
      exact Ev.now _
theorem few_ev (l : List Fd) (hl : l.length ≤ 9223372036854775807) : ∃ b, Ev (fun k => nunciolaw13_FewFields.f k l) b ∧ (b = true → ∀ x ∈ l, x.f0.size < 3000 ∧ x.f1.size < 3000) := by
  have m : 0 ≤ mn (l.length : Int) 3000 ∧ mn (l.length : Int) 3000 ≤ 3000 := by unfold mn; split <;> omega
  obtain ⟨b, hb, hc⟩ := fewLoop l hl l.length 0 (mn (l.length : Int) 3000) (by omega) m.1 (by omega)
  exact ⟨b, hb, fun h => (hc h).2⟩
theorem request_f (l : List Fd) (h : ∀ x ∈ l, x.f0.size ≤ 3000 ∧ x.f1.size ≤ 3000) (hl : l.length ≤ 1000) : head_Request.f l = some (reqT (headT l)) := by
  unfold head_Request.f
  rw [if_pos ⟨fun x hx => by have := h x hx; exact ⟨by omega, by omega⟩, by omega⟩]
theorem trailers_f (l : List Fd) (h : ∀ x ∈ l, x.f0.size ≤ 3000 ∧ x.f1.size ≤ 3000) (hl : l.length ≤ 1000) : head_Trailers.f l = some (trailT (headT l)) := by
  unfold head_Trailers.f
  rw [if_pos ⟨fun x hx => by have := h x hx; exact ⟨by omega, by omega⟩, by omega⟩]
/-- a right head has been run through -/
theorem req_run (l : List Fd) (h : (reqT (headT l)).2.2.2.2.2.2 = 0) : ∃ T, runT 0 l T0 = some T := by
  unfold reqT headT at h
  cases hr : runT 0 l T0 with
  | none => rw [hr] at h; simp at h
  | some T => exact ⟨T, rfl⟩
theorem trail_run (x : Fd) (h : trailT (headT [x]) = 0) : ∃ T, runT 0 [x] T0 = some T ∧ ¬ T.ps > 0 := by
  unfold trailT headT at h
  cases hr : runT 0 [x] T0 with
  | none => rw [hr] at h; simp at h
  | some T =>
    refine ⟨T, rfl, fun hp => ?_⟩
    rw [hr] at h
    simp only [Option.bind_some] at h
    split at h
    · cases h
    · rename_i q T2 md ln hq
      have : T2 = T := by
        split at hq
        · split at hq
          · simp at hq; exact hq.1.symm
          · cases hq
        · simp at hq; exact hq.1.symm
      subst this
      rw [if_pos hp] at h
      cases h
end Go.Proofs.YtgfdmaohnngpjaaDoor.P
