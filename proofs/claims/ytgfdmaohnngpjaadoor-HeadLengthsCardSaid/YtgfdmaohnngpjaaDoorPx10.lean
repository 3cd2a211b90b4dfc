/- Functions of the program as plain functions, and the contract of each: written by a program of this session over the seat's translation. Conditions: those that each theorem names. -/
import Derived.Test.YtgfdmaohnngpjaaDoorPx0
import Derived.Test.YtgfdmaohnngpjaaDoorPx4
namespace Go.Proofs.YtgfdmaohnngpjaaDoor.P
open Go.RowKit Go.Proofs.YtgfdmaohnngpjaaDoorW.PrintWords Go.Proofs.YtgfdmaohnngpjaaDoorW.PrintLast Go.Proofs.YtgfdmaohnngpjaaDoorW.PrintMore
attribute [local go_sem] max2_int min2_int max_two min_two max_three min_three max_four min_four   -- for this text's walks alone
set_option linter.unusedVariables false
set_option linter.unusedSimpArgs false

/-! ### text_Decimal: function 14: given -/
/-- the number of digits, from a number on; none: a sign that is no digit -/
def decFrom : Int → List UInt8 → Option Int
  | n, [] => some n
  | n, c :: l => if ((c.toNat : Int) - 48) % 256 > 9 then none else decFrom (n * 10 + ((c.toNat : Int) - 48) % 256) l
/-- text.Decimal -/
def decimal (s : ByteArray) (most : Int) : Int × Bool :=
  if s.size < 1 ∨ s.size > 9 ∨ (s.size > 1 ∧ bt s 0 = 48) then (0, false)
  else match decFrom 0 s.data.toList with
    | none => (0, false)
    | some n => if n > most then (0, false) else (n, true)
def text_Decimal.f (a0 : ByteArray) (a1 : Int) : Option (Int × Bool) := some (decimal a0 a1)
theorem decFrom_append : ∀ (n : Int) (l m : List UInt8), decFrom n (l ++ m) = (decFrom n l).bind fun k => decFrom k m
  | n, [], m => rfl
  | n, c :: l, m => by
    simp only [List.cons_append, decFrom]
    split
    · rfl
    · exact decFrom_append _ l m
theorem decFrom_bound : ∀ (l : List UInt8) (n r : Int) (B : Nat), 0 ≤ n → n < B → decFrom n l = some r → 0 ≤ r ∧ r < ((B * 10 ^ l.length : Nat) : Int)
  | [], n, r, B, h0, h1, h => by simp only [decFrom, Option.some.injEq] at h; subst h; simp; omega
  | c :: l, n, r, B, h0, h1, h => by
    simp only [decFrom] at h
    split at h
    · cases h
    · have := decFrom_bound l _ r (B * 10) (by omega) (by omega) h
      have e : (B * 10 * 10 ^ l.length : Nat) = B * 10 ^ (c :: l).length := by rw [List.length_cons, Nat.pow_succ, Nat.mul_assoc, Nat.mul_comm 10]
      rw [e] at this
      exact this
theorem decFrom_small (l : List UInt8) (r : Int) (k : Nat) (hl : l.length ≤ k) (h : decFrom 0 l = some r) : 0 ≤ r ∧ r < ((10 ^ k : Nat) : Int) := by
  have := decFrom_bound l 0 r 1 (by omega) (by omega) h
  have e : 10 ^ l.length ≤ 10 ^ k := Nat.pow_le_pow_right (by omega) hl
  rw [Nat.one_mul] at this
  omega
theorem decFrom_snoc_some (s : ByteArray) (k : Nat) (h : k < s.size) (n : Int) (hn : decFrom 0 (s.data.toList.take k) = some n) (hd : ¬ ((s.data.toList.getD k 0).toNat - 48 : Int) % 256 > 9) :
    decFrom 0 (s.data.toList.take (k + 1)) = some (n * 10 + ((s.data.toList.getD k 0).toNat - 48 : Int) % 256) := by
  rw [take_snoc s k h, decFrom_append, hn]
  simp only [Option.bind_some, decFrom]
  rw [if_neg hd]
theorem decFrom_snoc_none (s : ByteArray) (k : Nat) (h : k < s.size) (n : Int) (hn : decFrom 0 (s.data.toList.take k) = some n) (hd : ((s.data.toList.getD k 0).toNat - 48 : Int) % 256 > 9) :
    decFrom 0 s.data.toList = none := by
  have e : s.data.toList = s.data.toList.take (k + 1) ++ s.data.toList.drop (k + 1) := (List.take_append_drop _ _).symm
  rw [e, decFrom_append, take_snoc s k h, decFrom_append, hn]
  simp only [Option.bind_some, decFrom]
  rw [if_pos hd]
  rfl
set_option maxHeartbeats 1000000 in
/-- The loop and what stands behind it, of a text of 1 to 9 bytes. -/
theorem text_Decimal.calls (a0 : ByteArray) (a1 : Int) (r1 : Int) (r2 : Bool) (w : World) (h : text_Decimal.f a0 a1 = some (r1, r2)) :
    Calls Tryd.prog 14 #[.string a0, .int .i64 a1] w fun e w' => e = .returned (.tuple #[.int .i64 r1, .bool r2]) ∧ Below w.heap.size w w' := by
  have h := Option.some.inj h
  have kc := fun w : World => Lib.run_convert_string_bytes (P := Tryd.prog) w 9 53 5 a0 Tryd.underlying9 Tryd.underlying53 Tryd.underlying5
  unfold decimal at h
  by_cases h1 : a0.size < 1
  · rw [if_pos (.inl h1)] at h
    obtain ⟨rfl, rfl⟩ := Prod.mk.inj h
    clear h
    go_enter Tryd.func14, Tryd.ntmps14
    go_wp2
    go_ret2
    exact ⟨rfl, Below.refl _ _⟩
  · by_cases h9 : a0.size > 9
    · rw [if_pos (.inr (.inl h9))] at h
      obtain ⟨rfl, rfl⟩ := Prod.mk.inj h
      clear h
      go_enter Tryd.func14, Tryd.ntmps14
      go_wp2
      go_ret2
      exact ⟨rfl, Below.refl _ _⟩
    · have hbt : ∀ h : 0 < a0.size, ((a0[0]'h).toNat : Int) = bt a0 0 := bt_at a0 0
      by_cases h48 : a0.size > 1 ∧ bt a0 0 = 48
      · rw [if_pos (.inr (.inr h48))] at h
        obtain ⟨rfl, rfl⟩ := Prod.mk.inj h
        obtain ⟨hz, hb48⟩ := h48
        have hb1 : (bt a0 0 == 48) = true := beq_iff_eq.mpr hb48
        clear h hb48
        go_enter Tryd.func14, Tryd.ntmps14
        go_wp2
        go_ret2
        exact ⟨rfl, Below.refl _ _⟩
      · rw [if_neg (by omega)] at h
        have Hr := Lib.hid h
        clear h
        have hcell := fun j hj => Lib.bytesWorld_cell w 5 a0 j hj
        have hb := bytesWorld_below w 5 a0
        generalize hW : Lib.bytesWorld w 5 a0 = W at hcell hb
        have HB := Lib.hid hb
        have HC := Lib.hid hcell
        clear hb hcell
        by_cases hz : a0.size > 1
        all_goals
          first
          | (have hb1 : (bt a0 0 == 48) = false := beq_eq_false_iff_ne.mpr (fun e => h48 ⟨hz, e⟩); clear h48)
          | clear h48
          go_enter Tryd.func14, Tryd.ntmps14
          go_wp2
          clear hW kc hbt
          (try clear hb1)
          go_loopw [6, 30] (fun n i wr => ∃ (k : Nat) (m : Int), k ≤ a0.size ∧ i = .int .i64 k ∧ n = .int .i64 m ∧ Hid (decFrom 0 (a0.data.toList.take k) = some m) ∧ 0 ≤ m ∧ m < 1000000000 ∧ wr = W) (fun _ i _ => a0.size - (intOf i).toNat)
          case atStart => exact ⟨0, 0, Nat.zero_le _, rfl, rfl, Lib.hid (by simp [decFrom]), by omega, by omega, rfl⟩
          case round =>
            obtain ⟨k, m, hk, rfl, rfl, HD, hm0, hm1, rfl⟩ := hrel
            by_cases hlt : k < a0.size
            · have hck := HC.out k hlt
              have hm8 : m < 100000000 := by have := (decFrom_small _ m 8 (by rw [List.length_take]; omega) HD.out).2; omega
              by_cases hd : ((a0.data.toList.getD k 0).toNat - 48 : Int) % 256 > 9
              · have HN := Lib.hid (decFrom_snoc_none a0 k hlt m HD.out hd)
                generalize a0.data.toList.getD k 0 = x at hck hd
                have hd1 : decide (9 < ((x.toNat : Int) - 48) % 256) = true := decide_eq_true hd
                clear hd
                go_wp2
                go_ret2
                have h := Hr.out
                rw [HN.out] at h
                obtain ⟨rfl, rfl⟩ := Prod.mk.inj h
                exact ⟨rfl, HB.out⟩
              · have HN := Lib.hid (decFrom_snoc_some a0 k hlt m HD.out hd)
                generalize a0.data.toList.getD k 0 = x at hck hd HN
                have hd1 : decide (9 < ((x.toNat : Int) - 48) % 256) = false := decide_eq_false hd
                have hd2 : ((x.toNat : Int) - 48) % 256 ≤ 9 := by omega
                have hd3 : 0 ≤ ((x.toNat : Int) - 48) % 256 := by omega
                clear hd
                go_wp2
                go_roundw
                case rel => exact ⟨k + 1, m * 10 + ((x.toNat : Int) - 48) % 256, by omega, by go_num, rfl, HN, by omega, by omega, by first | rfl | trivial⟩
                case measure => simp [intOf]; omega
            · have hk' : k = a0.size := by omega
              subst hk'
              have h := Hr.out
              have hD := HD.out
              rw [List.take_of_length_le (by simp)] at hD
              rw [hD] at h
              simp only at h
              by_cases hgt : m > a1
              · rw [if_pos hgt] at h
                obtain ⟨rfl, rfl⟩ := Prod.mk.inj h
                clear h hD
                have hg1 : decide (a1 < m) = true := decide_eq_true hgt
                clear hgt
                go_wp2
                go_ret2
                exact ⟨rfl, HB.out⟩
              · rw [if_neg hgt] at h
                obtain ⟨rfl, rfl⟩ := Prod.mk.inj h
                clear h hD
                have hg1 : decide (a1 < m) = false := decide_eq_false hgt
                clear hgt
                go_wp2
                go_ret2
                exact ⟨rfl, HB.out⟩

end Go.Proofs.YtgfdmaohnngpjaaDoor.P
