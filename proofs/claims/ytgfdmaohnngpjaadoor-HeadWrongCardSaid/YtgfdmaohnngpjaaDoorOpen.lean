/- A value that came in is of a kind: whatever reads as data of a type has cells that the kind tells. Conditions: those that each theorem names. -/
import Derived.Test.YtgfdmaohnngpjaaDoorWWords
import Derived.Deep.Slices
import Derived.ChangeArms
import Derived.WideShapes
namespace Go.Proofs.YtgfdmaohnngpjaaDoor.P
open Go.RowKit Go.Proofs.YtgfdmaohnngpjaaDoorW.PrintWords Go.ChangeShapes Go.WideShapes
/-- What reads as data of type t is of the kind d, and ok. -/
structure Opens {α : Type} (P : Program) (t : TypeId) (d : Kd α) (ok : α → Prop) : Prop where
  sz : P.cellsOf t = d.sz
  op : ∀ {H : Type} {enc : TypeId × Value → H} {w : World} {base : Nat} {held : Bool} {fuel : Nat} {cs : List Value} {x : DataW H × List MemPlace},
    DataW.trod enc P w base (fun _ => true) held fuel t cs = some x → ∃ a, d.K w a cs ∧ ok a
theorem opens_int {P : Program} {t : TypeId} {k : IntKind} (ht : P.underlying t = some (.int k)) (hc : P.cellsOf t = 1) : Opens P t (Kd.int k) (fun n => (Lit.int k n).wf = true) :=
  ⟨hc, fun h => by obtain ⟨n, rfl, _, hw⟩ := DataW.trod_int ht h; exact ⟨n, rfl, hw⟩⟩
theorem opens_bool {P : Program} {t : TypeId} (ht : P.underlying t = some .bool) (hc : P.cellsOf t = 1) : Opens P t Kd.bool (fun _ => True) :=
  ⟨hc, fun h => by obtain ⟨b, rfl, _⟩ := DataW.trod_bool ht h; exact ⟨b, rfl, trivial⟩⟩
theorem opens_string {P : Program} {t : TypeId} (ht : P.underlying t = some .string) (hc : P.cellsOf t = 1) : Opens P t Kd.string (fun s => s.size ≤ maxLen) :=
  ⟨hc, fun h => by obtain ⟨s, rfl, _, hs⟩ := DataW.trod_string ht h; exact ⟨s, rfl, hs⟩⟩
/-- fields in line, from the offset o on -/
structure OpensF {α : Type} (P : Program) (fs : List Field) (o : Nat) (d : Kd α) (ok : α → Prop) : Prop where
  op : ∀ {H : Type} {enc : TypeId × Value → H} {w : World} {base : Nat} {held : Bool} {n : Nat} {cs : List Value},
    (∀ f ∈ fs, ∃ y, DataW.trod enc P w base (fun _ => true) held n f.type ((cs.drop f.offset).take (P.cellsOf f.type)) = some y) → ∃ a, d.K w a ((cs.drop o).take d.sz) ∧ ok a
theorem opensF_one {α : Type} {P : Program} {f : Field} {d : Kd α} {ok : α → Prop} (h : Opens P f.type d ok) : OpensF P [f] f.offset d ok :=
  ⟨fun hy => by
    obtain ⟨y, hy⟩ := hy f (List.mem_singleton.2 rfl)
    rw [h.sz] at hy
    exact h.op hy⟩
theorem opensF_cons {α β : Type} {P : Program} {f : Field} {fs : List Field} {d : Kd α} {e : Kd β} {ok : α → Prop} {ok' : β → Prop} (h : Opens P f.type d ok) (hr : OpensF P fs (f.offset + d.sz) e ok') :
    OpensF P (f :: fs) f.offset (Kd.pair d e) (fun x => ok x.1 ∧ ok' x.2) :=
  ⟨fun {H enc w base held n cs} hy => by
    obtain ⟨y, h1⟩ := hy f List.mem_cons_self
    rw [h.sz] at h1
    obtain ⟨a, ha, oa⟩ := h.op h1
    obtain ⟨b, hb, ob⟩ := hr.op (fun g hg => hy g (List.mem_cons_of_mem _ hg))
    refine ⟨(a, b), ⟨_, _, ?_, ha, hb⟩, oa, ob⟩
    show (cs.drop f.offset).take (d.sz + e.sz) = _
    rw [List.take_add, List.drop_drop]⟩
theorem opens_struct {α β : Type} {P : Program} {t : TypeId} {fs : Array Field} {d : Kd α} {ok : α → Prop} (ht : P.underlying t = some (.struct fs)) (hs : P.cellsOf t = d.sz) (hf : OpensF P fs.toList 0 d ok)
    (g : β → α) (g' : α → β) (hg : ∀ x, g (g' x) = x) : Opens P t (Kd.iso d g) (fun x => ok (g x)) :=
  ⟨hs, fun {H enc w base held fuel cs x} h => by
    obtain ⟨xs, n, _, _, hl, hlen, hx⟩ := DataW.trod_struct ht h
    obtain ⟨a, ha, oa⟩ := hf.op (enc := enc) (w := w) (base := base) (held := held) (n := n) (cs := cs) (fun f hfm => by
      obtain ⟨i, hi⟩ := List.getElem?_of_mem hfm
      have hi' : fs[i]? = some f := by rw [← hi]; simp
      have hlt : i < xs.length := by
        rw [hlen]
        exact (Array.getElem?_eq_some_iff.1 hi').1
      exact ⟨xs[i], by rw [hx i f hi', List.getElem?_eq_getElem hlt]⟩)
    rw [List.drop_zero, List.take_of_length_le (by rw [hl, hs]; exact Nat.le_refl _)] at ha
    exact ⟨g' a, by show d.K w (g (g' a)) cs; rw [hg]; exact ha, by rw [hg]; exact oa⟩⟩
theorem list_of {α : Type} {Q : Nat → α → Prop} : ∀ n : Nat, (∀ i, i < n → ∃ x, Q i x) → ∃ xs : List α, xs.length = n ∧ ∀ i x, xs[i]? = some x → Q i x
  | 0, _ => ⟨[], rfl, fun i x h => by simp at h⟩
  | n + 1, h => by
    obtain ⟨xs, hl, hx⟩ := list_of n (fun i hi => h i (by omega))
    obtain ⟨y, hy⟩ := h n (by omega)
    refine ⟨xs ++ [y], by simp [hl], fun i x hi => ?_⟩
    by_cases hlt : i < xs.length
    · rw [List.getElem?_append_left hlt] at hi
      exact hx i x hi
    · rw [List.getElem?_append_right (by omega)] at hi
      have h0 : i - xs.length = 0 := by
        have := (List.getElem?_eq_some_iff.1 hi).1
        simp at this
        omega
      rw [h0] at hi
      simp at hi
      have : i = n := by omega
      rw [this, ← hi]
      exact hy
theorem opens_slice {α : Type} {P : Program} {t e : TypeId} {e' : Nat} {d : Kd α} {ok : α → Prop} (ht : P.underlying t = some (.slice e)) (hc : P.cellsOf t = 1) (h : Opens P e d ok) : Opens P t (Kd.slice e' d) (fun xs => ∀ x ∈ xs, ok x) :=
  ⟨hc, fun {H enc w base held fuel cs x} hx => by
    rcases Deep.open_slice ht hx with ⟨rfl, _⟩ | ⟨a, len, cap, m, n, D, Pl, rfl, hb, hl, hm, hmm, rfl, hi⟩
    · exact ⟨[], ⟨none, 0, rfl, Nat.le_refl _, rfl, by simp, fun h => by simp at h⟩, fun _ h => by cases h⟩
    · have hlm : len ≤ m := by rw [hmm]; split <;> omega
      obtain ⟨xs, hxl, hxs⟩ := list_of (Q := fun i y => ∃ cs', w.cells? base (a.add (i * P.cellsOf e)) (P.cellsOf e) = some cs' ∧ d.K w y cs' ∧ ok y) len (fun i hlt => by
        obtain ⟨cs', h1, h2⟩ := hi i (by omega)
        obtain ⟨y, hy, oy⟩ := h.op h2
        exact ⟨y, cs', h1, hy, oy⟩)
      have hm63 : len ≤ 9223372036854775807 := by unfold maxLen at hm; omega
      refine ⟨xs, ⟨some a, cap, by rw [hxl], by rw [hxl]; exact hl, rfl, by rw [hxl]; exact hm63, fun _ => ⟨a, rfl, fun j p hj => ?_⟩⟩, fun y hy => ?_⟩
      · obtain ⟨cs', h1, h2, _⟩ := hxs j p hj
        obtain ⟨_, hlen, hcell⟩ := World.cells?_some h1
        refine ⟨cs', by rw [hlen]; exact h.sz, h2, fun i u hu => ?_⟩
        have hlt : i < P.cellsOf e := by rw [← hlen]; exact (List.getElem?_eq_some_iff.1 hu).1
        have := hcell i hlt
        rw [Deep.add_add, h.sz, hu] at this
        exact this
      · obtain ⟨j, hj⟩ := List.getElem?_of_mem hy
        obtain ⟨_, _, _, o⟩ := hxs j y hj
        exact o⟩
theorem okWide_agg {P : Program} {w : World} {r : Reach} {base : Nat} {t : TypeId} {v : Value} {fs : Array Field} (ht : P.underlying t = some (.struct fs)) (h : Value.okWide P w r base t v) : ∃ cs, v = .agg cs := by
  simp only [Value.okWide, ht] at h
  obtain ⟨cs, h, _⟩ := h
  exact ⟨cs, h⟩
end Go.Proofs.YtgfdmaohnngpjaaDoor.P
