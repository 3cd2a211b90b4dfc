/- Functions of the program as plain functions, and the contract of each: written by a program of this session over the seat's translation. Conditions: those that each theorem names. -/
import Derived.Test.YtgfdmaohnngpjaaDoorPx0
import Derived.Test.YtgfdmaohnngpjaaDoorPx4
namespace Go.Proofs.YtgfdmaohnngpjaaDoor.P
open Go.RowKit Go.Proofs.YtgfdmaohnngpjaaDoorW.PrintWords Go.Proofs.YtgfdmaohnngpjaaDoorW.PrintLast Go.Proofs.YtgfdmaohnngpjaaDoorW.PrintMore
attribute [local go_sem] max2_int min2_int max_two min_two max_three min_three max_four min_four   -- for this text's walks alone
set_option linter.unusedVariables false
set_option linter.unusedSimpArgs false

/-! ### text_Fold: function 21: given -/
/-- A byte in small letters. -/
def fold8 (c : UInt8) : UInt8 := if 65 ≤ c ∧ c ≤ 90 then c + 32 else c
def text_Fold.f (a0 : ByteArray) : Option ByteArray := if a0.size ≤ 9223372036854775807 then some ⟨a0.data.map fold8⟩ else none
theorem fold8_yes (c : UInt8) (h : ((c.toNat : Int) - 65) % 256 < 26) : (fold8 c).toNat = ((((c.toNat : Int) + 97) % 256 - 65) % 256).toNat ∧ (0:Int) ≤ (((c.toNat : Int) + 97) % 256 - 65) % 256 := by
  have hc := c.toNat_lt
  have h1 : 65 ≤ c.toNat ∧ c.toNat ≤ 90 := by omega
  unfold fold8
  rw [if_pos (by simp only [UInt8.le_iff_toNat_le]; exact h1)]
  rw [UInt8.toNat_add]
  simp
  omega
theorem fold8_no (c : UInt8) (h : ¬ ((c.toNat : Int) - 65) % 256 < 26) : fold8 c = c := by
  have hc := c.toNat_lt
  unfold fold8
  rw [if_neg]
  simp only [UInt8.le_iff_toNat_le]
  simp
  omega
theorem bytesWorld_free (w : World) (e : TypeId) (s : ByteArray) (j : Nat) (hj : j < s.size) : (Lib.bytesWorld w e s).frozen? ⟨w.heap.size, j, none⟩ = false := by
  have hz : s.size ≤ (Lib.bytesCells w e s).size := by simp [Lib.bytesCells]
  simp only [World.frozen?, Lib.bytesWorld_at_new]
  simp
  omega
/-- the bytes behind k rounds -/
def foldAt (s : ByteArray) (k j : Nat) : UInt8 := if j < k then fold8 (s.data.toList.getD j 0) else s.data.toList.getD j 0
theorem foldAt_zero (s : ByteArray) (j : Nat) : foldAt s 0 j = s.data.toList.getD j 0 := by unfold foldAt; rw [if_neg (by omega)]
theorem foldAt_self (s : ByteArray) (k : Nat) : foldAt s k k = s.data.toList.getD k 0 := by unfold foldAt; rw [if_neg (by omega)]
theorem foldAt_step (s : ByteArray) (k j : Nat) (h : j ≠ k) : foldAt s (k + 1) j = foldAt s k j := by
  unfold foldAt
  by_cases h1 : j < k
  · rw [if_pos h1, if_pos (by omega)]
  · rw [if_neg h1, if_neg (by omega)]
theorem foldAt_new (s : ByteArray) (k : Nat) : foldAt s (k + 1) k = fold8 (s.data.toList.getD k 0) := by unfold foldAt; rw [if_pos (by omega)]
def foldCells (B : Nat) (s : ByteArray) (k : Nat) (wr : World) : Prop := ∀ j, j < s.size → wr.cell? ⟨B, j, none⟩ = some (.int .u8 (foldAt s k j).toNat) ∧ wr.frozen? ⟨B, j, none⟩ = false
theorem foldCells_str (B : Nat) (s : ByteArray) (wr : World) (h : foldCells B s s.size wr) (c : Nat) :
    (convert 53 9 (.slice (some ⟨B, 0, none⟩) s.size c)).run Tryd.prog wr = .ok (.string ⟨s.data.map fold8⟩) wr := by
  have hl : ((s.data.map fold8).toList.map fun b => (b.toNat : Int)).length = s.size := by simp
  have := run_convert_bytes_arg (P := Tryd.prog) wr 53 5 Tryd.underlying53 Tryd.underlying5 B 0 s.size c ((s.data.map fold8).toList.map fun b => (b.toNat : Int)) hl (fun j hj => by
    have h1 := (h j hj).1
    rw [Nat.zero_add, h1]
    unfold foldAt
    rw [if_pos hj]
    have hj' : j < s.data.toList.length := by simpa using hj
    simp [List.getD, hj]) 9 Tryd.underlying9
  rw [this]
  congr 2
  unfold strOfNums
  congr 1
  apply Array.ext'
  simp
theorem text_Fold.calls (a0 : ByteArray) (r : ByteArray) (w : World) (h : text_Fold.f a0 = some r) :
    Calls Tryd.prog 21 #[.string a0] w fun e w' => e = .returned (.string r) ∧ Below w.heap.size w w' := by
  unfold text_Fold.f at h
  split at h
  · rename_i hs
    obtain rfl := Option.some.inj h
    clear h
    have kc := fun w : World => Lib.run_convert_string_bytes (P := Tryd.prog) w 9 53 5 a0 Tryd.underlying9 Tryd.underlying53 Tryd.underlying5
    have hcell : foldCells w.heap.size a0 0 (Lib.bytesWorld w 5 a0) := fun j hj => ⟨by rw [foldAt_zero]; exact Lib.bytesWorld_cell w 5 a0 j hj, bytesWorld_free w 5 a0 j hj⟩
    have hb := bytesWorld_below w 5 a0
    generalize hW : Lib.bytesWorld w 5 a0 = W at hcell hb
    go_enter Tryd.func21, Tryd.ntmps21
    go_wp2
    clear hW kc
    go_loopw [10] (fun i wr => ∃ k : Nat, k ≤ a0.size ∧ i = .int .i64 k ∧ Hid (foldCells w.heap.size a0 k wr) ∧ Hid (Below w.heap.size w wr)) (fun i _ => a0.size - (intOf i).toNat)
    case atStart => exact ⟨0, Nat.zero_le _, rfl, Lib.hid hcell, Lib.hid hb⟩
    case round =>
      clear hcell hb
      obtain ⟨k, hk, rfl, HC, HB⟩ := hrel
      by_cases hlt : k < a0.size
      · have hck := (HC.out k hlt).1
        have hfz := (HC.out k hlt).2
        rw [foldAt_self] at hck
        generalize hx : a0.data.toList.getD k 0 = x at hck
        have HX := Lib.hid hx
        clear hx
        by_cases hf : ((x.toNat : Int) - 65) % 256 < 26
        · have hf1 : decide (((x.toNat : Int) - 65) % 256 < 26) = true := decide_eq_true hf
          have HF := Lib.hid (fold8_yes x hf)
          clear hf
          go_wp2
          go_roundw
          case rel =>
            refine ⟨k + 1, by omega, by go_num, Lib.hid ?_, Lib.hid ?_⟩
            · intro j hj
              refine ⟨?_, by rw [World.frozen?_setCell]; exact (HC.out j hj).2⟩
              by_cases hjk : j = k
              · subst hjk
                rw [World.cell?_setCell_same (h := hck), foldAt_new, HX.out]
                have := HF.out
                congr 2
                omega
              · rw [World.cell?_setCell_other (h := fun e : (⟨w.heap.size, k, none⟩ : Addr) = ⟨w.heap.size, j, none⟩ => hjk (by injection e with _ e _; exact e.symm)), foldAt_step a0 k j hjk]
                exact (HC.out j hj).1
            · exact HB.out.setCell (Nat.le_refl _) _
          case measure => simp [intOf]; omega
        · have hf1 : decide (((x.toNat : Int) - 65) % 256 < 26) = false := decide_eq_false hf
          have HF := Lib.hid (fold8_no x hf)
          clear hf
          go_wp2
          go_roundw
          case rel =>
            refine ⟨k + 1, by omega, by go_num, Lib.hid ?_, HB⟩
            intro j hj
            refine ⟨?_, (HC.out j hj).2⟩
            by_cases hjk : j = k
            · subst hjk
              rw [hck, foldAt_new, HX.out, HF.out]
            · rw [foldAt_step a0 k j hjk]
              exact (HC.out j hj).1
          case measure => simp [intOf]; omega
      · have hk' : k = a0.size := by omega
        subst hk'
        have hcv := foldCells_str w.heap.size a0 _ HC.out
        go_wp2
        go_ret
        exact ⟨rfl, HB.out⟩
  · cases h

end Go.Proofs.YtgfdmaohnngpjaaDoor.P
