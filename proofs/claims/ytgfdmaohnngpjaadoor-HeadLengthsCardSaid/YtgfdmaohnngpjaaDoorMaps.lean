/- A map with string keys that a call has made, told as a function from texts to what it holds (nought, or the empty text, where nothing is laid): read, written, carried. No condition but those that each names. -/
import Derived.Test.YtgfdmaohnngpjaaDoorProg
import Derived.Test.YtgfdmaohnngpjaaDoorWWords
import Derived.Maps.OwnOps
import Derived.Maps.OwnSet
import Derived.Maps.StringElems
import Derived.Maps.Views
import Derived.StringKeys
namespace Go.Proofs.YtgfdmaohnngpjaaDoor.P
open Go.RowKit Go.Maps Go.WideMaps Go.Proofs.YtgfdmaohnngpjaaDoorW.PrintWords
set_option linter.unusedVariables false
section
variable {P : Program} {kt et t : TypeId} {w : World} {b n : Nat}
/-- a text's bytes as a key -/
def keyL (s : ByteArray) : Lit := .string s.data.toList
def upd {α : Type} (f : List UInt8 → α) (k : List UInt8) (v : α) : List UInt8 → α := fun s => if s = k then v else f s
theorem upd_same {α : Type} (f : List UInt8 → α) (k : List UInt8) (v : α) : upd f k v k = v := if_pos rfl
theorem upd_other {α : Type} (f : List UInt8 → α) (k s : List UInt8) (v : α) (h : s ≠ k) : upd f k v s = f s := if_neg h
/-- block b is a map from texts to whole numbers -/
def MapI (P : Program) (kt et : TypeId) (w : World) (b n : Nat) (f : List UInt8 → Int) : Prop :=
  ∃ D : DataW Unit, w.ownsMap P kt (plainElem P et) b n D ∧ IsMap D ∧ ∀ s, D.atKey (.string s) (.lit (.int .i64 0)) = .lit (.int .i64 (f s))
/-- block b is a map from texts to texts -/
def MapS (P : Program) (kt et : TypeId) (w : World) (b n : Nat) (f : List UInt8 → ByteArray) : Prop :=
  ∃ D : DataW Unit, w.ownsMap P kt (plainElem P et) b n D ∧ IsMap D ∧ ∀ s, D.atKey (.string s) (.lit (.string [])) = .lit (.string (f s).data.toList)
theorem MapI.made (w : World) (P : Program) (kt et : TypeId) : MapI P kt et (w.alloc (.map #[] 0)) w.heap.size 0 fun _ => 0 :=
  ⟨_, World.ownsMap_made _ _ _ _, isMap_empty, fun _ => rfl⟩
theorem MapS.made (w : World) (P : Program) (kt et : TypeId) : MapS P kt et (w.alloc (.map #[] 0)) w.heap.size 0 fun _ => ⟨#[]⟩ :=
  ⟨_, World.ownsMap_made _ _ _ _, isMap_empty, fun _ => rfl⟩
theorem MapI.lt {f} (h : MapI P kt et w b n f) : b < w.heap.size := by obtain ⟨D, h, _⟩ := h; exact h.lt
theorem MapS.lt {f} (h : MapS P kt et w b n f) : b < w.heap.size := by obtain ⟨D, h, _⟩ := h; exact h.lt
theorem MapI.kept {f} {w' : World} {row : Option Nat} (h : MapI P kt et w b n f) (hg : w.grownBy w' row) (hne : some b ≠ row) : MapI P kt et w' b n f := by
  obtain ⟨D, h, r⟩ := h; exact ⟨D, h.kept hg hne, r⟩
theorem MapS.kept {f} {w' : World} {row : Option Nat} (h : MapS P kt et w b n f) (hg : w.grownBy w' row) (hne : some b ≠ row) : MapS P kt et w' b n f := by
  obtain ⟨D, h, r⟩ := h; exact ⟨D, h.kept hg hne, r⟩
theorem MapI.below {f} {w' : World} {B : Nat} (h : MapI P kt et w b n f) (hb : Below B w w') (hlt : b < B) : MapI P kt et w' b n f := by
  obtain ⟨D, ⟨es, c, h1, r1⟩, r⟩ := h; exact ⟨D, ⟨es, c, (hb.block b hlt).trans h1, r1⟩, r⟩
theorem MapS.below {f} {w' : World} {B : Nat} (h : MapS P kt et w b n f) (hb : Below B w w') (hlt : b < B) : MapS P kt et w' b n f := by
  obtain ⟨D, ⟨es, c, h1, r1⟩, r⟩ := h; exact ⟨D, ⟨es, c, (hb.block b hlt).trans h1, r1⟩, r⟩
theorem MapI.drawn {f} (h : MapI P kt et w b n f) (m : Nat) : MapI P kt et (w.drewN m) b n f := h
theorem MapS.drawn {f} (h : MapS P kt et w b n f) (m : Nat) : MapS P kt et (w.drewN m) b n f := h
theorem MapI.alloc {f} (h : MapI P kt et w b n f) (o : Obj) : MapI P kt et (w.alloc o) b n f := by obtain ⟨D, h, r⟩ := h; exact ⟨D, h.alloc o, r⟩
theorem MapS.alloc {f} (h : MapS P kt et w b n f) (o : Obj) : MapS P kt et (w.alloc o) b n f := by obtain ⟨D, h, r⟩ := h; exact ⟨D, h.alloc o, r⟩
theorem MapI.setCell {f} (h : MapI P kt et w b n f) {a : Addr} (ha : b ≠ a.block) (u : Value) : MapI P kt et (w.setCell a u) b n f := by obtain ⟨D, h, r⟩ := h; exact ⟨D, h.setCell ha u, r⟩
theorem MapS.setCell {f} (h : MapS P kt et w b n f) {a : Addr} (ha : b ≠ a.block) (u : Value) : MapS P kt et (w.setCell a u) b n f := by obtain ⟨D, h, r⟩ := h; exact ⟨D, h.setCell ha u, r⟩
theorem MapI.mono {f} (h : MapI P kt et w b n f) {m : Nat} (hm : n ≤ m) : MapI P kt et w b m f := by obtain ⟨D, h, r⟩ := h; exact ⟨D, h.mono hm, r⟩
theorem MapS.mono {f} (h : MapS P kt et w b n f) {m : Nat} (hm : n ≤ m) : MapS P kt et w b m f := by obtain ⟨D, h, r⟩ := h; exact ⟨D, h.mono hm, r⟩
theorem MapI.lookup {f} (h : MapI P kt et w b n f) (hk : P.underlying kt = some .string) (ht : P.underlying t = some (.map kt et)) (he : P.underlying et = some (.int .i64)) (hz : (zeroValue et).run P w = .ok (.int .i64 0) w) (s : ByteArray) (hs : s.size ≤ maxLen) :
    (Instr.lookup t (.map (some b)) (.string s) false).run P w = .ok (.int .i64 (f s.data.toList)) w := by
  obtain ⟨D, h, _, hf⟩ := h
  obtain ⟨c, hrun, hat, _⟩ := h.lookup_int (string_keyed hk) ht he hz (keyOf_string_mk hk hs)
  rw [hf] at hat
  have : f s.data.toList = c := by simpa using hat
  rw [this]
  exact hrun
theorem MapI.wf {f} (h : MapI P kt et w b n f) (hk : P.underlying kt = some .string) (ht : P.underlying t = some (.map kt et)) (he : P.underlying et = some (.int .i64)) (hz : (zeroValue et).run P w = .ok (.int .i64 0) w) (s : ByteArray) (hs : s.size ≤ maxLen) :
    (Lit.int .i64 (f s.data.toList)).wf = true := by
  obtain ⟨D, h, _, hf⟩ := h
  obtain ⟨c, hrun, hat, hw⟩ := h.lookup_int (string_keyed hk) ht he hz (keyOf_string_mk hk hs)
  rw [hf] at hat
  have : f s.data.toList = c := by simpa using hat
  rw [this]
  exact hw
theorem ba_ext (a b : ByteArray) (h : a.data.toList = b.data.toList) : a = b := by apply ByteArray.ext; exact Array.ext' h
theorem MapS.lookup {f} (h : MapS P kt et w b n f) (hk : P.underlying kt = some .string) (ht : P.underlying t = some (.map kt et)) (he : P.underlying et = some .string) (hz : (zeroValue et).run P w = .ok (.string ⟨#[]⟩) w) (s : ByteArray) (hs : s.size ≤ maxLen) :
    (Instr.lookup t (.map (some b)) (.string s) false).run P w = .ok (.string (f s.data.toList)) w ∧ (f s.data.toList).size ≤ maxLen := by
  obtain ⟨D, h, _, hf⟩ := h
  obtain ⟨v, ps, hrun, hv⟩ := h.lookup (string_keyed hk) ht hz (plainElem_string he (s := ⟨#[]⟩) (Nat.zero_le _)) (keyOf_string_mk hk hs)
  obtain ⟨c, rfl, hc, hw⟩ := plainElem_string_inv he hv
  simp only [Prod.mk.injEq] at hc
  have e := hc.1
  rw [show (DataW.lit (Lit.string (⟨#[]⟩ : ByteArray).data.toList) : DataW Unit) = .lit (.string []) from rfl, hf] at e
  have e2 : (f s.data.toList).data.toList = c.data.toList := by simpa using e
  rw [ba_ext _ _ e2]
  exact ⟨hrun, hw⟩
theorem MapI.update {f} (h : MapI P kt et w b n f) (hk : P.underlying kt = some .string) (ht : P.underlying t = some (.map kt et)) (he : P.underlying et = some (.int .i64)) (hn : n < maxLen) (s : ByteArray) (hs : s.size ≤ maxLen) (v : Int) (hv : (Lit.int .i64 v).wf = true) :
    ∃ w', (Instr.mapUpdate t (.map (some b)) (.string s) (.int .i64 v)).run P w = .ok () w' ∧ MapI P kt et w' b (n + 1) (upd f s.data.toList v) ∧ w.grownBy w' (some b) := by
  obtain ⟨D, h, hD, hf⟩ := h
  obtain ⟨w', hrun, hown, hg⟩ := h.update (string_keyed hk) ht hn (keyOf_string_mk hk hs) (plainElem_int he hv)
  refine ⟨w', hrun, ⟨_, hown, hD.put _ _, fun x => ?_⟩, hg⟩
  by_cases e : x = s.data.toList
  · subst e
    rw [upd_same]
    exact atKey_put_same (k := .string s.data.toList) hD trivial _ _
  · rw [upd_other _ _ _ _ e, atKey_put_other (fun h => e (by injection h))]
    exact hf x
theorem MapS.update {f} (h : MapS P kt et w b n f) (hk : P.underlying kt = some .string) (ht : P.underlying t = some (.map kt et)) (he : P.underlying et = some .string) (hn : n < maxLen) (s : ByteArray) (hs : s.size ≤ maxLen) (v : ByteArray) (hv : v.size ≤ maxLen) :
    ∃ w', (Instr.mapUpdate t (.map (some b)) (.string s) (.string v)).run P w = .ok () w' ∧ MapS P kt et w' b (n + 1) (upd f s.data.toList v) ∧ w.grownBy w' (some b) := by
  obtain ⟨D, h, hD, hf⟩ := h
  obtain ⟨w', hrun, hown, hg⟩ := h.update (string_keyed hk) ht hn (keyOf_string_mk hk hs) (plainElem_string he hv)
  refine ⟨w', hrun, ⟨_, hown, hD.put _ _, fun x => ?_⟩, hg⟩
  by_cases e : x = s.data.toList
  · subst e
    rw [upd_same]
    exact atKey_put_same (k := .string s.data.toList) hD trivial _ _
  · rw [upd_other _ _ _ _ e, atKey_put_other (fun h => e (by injection h))]
    exact hf x
end
end Go.Proofs.YtgfdmaohnngpjaaDoor.P
