/- Functions of the program as plain functions, and the contract of each: written by a program of this session over the seat's translation. Conditions: those that each theorem names. -/
import Derived.Test.YtgfdmaohnngpjaaDoorPx0
import Derived.Test.YtgfdmaohnngpjaaDoorPx4
import Derived.Test.YtgfdmaohnngpjaaDoorPx5
import Derived.Test.YtgfdmaohnngpjaaDoorPx6
import Derived.Test.YtgfdmaohnngpjaaDoorPx7
import Derived.Test.YtgfdmaohnngpjaaDoorPx8
import Derived.Test.YtgfdmaohnngpjaaDoorPx9
import Derived.Test.YtgfdmaohnngpjaaDoorPx10
import Derived.Test.YtgfdmaohnngpjaaDoorPx11
import Derived.Test.YtgfdmaohnngpjaaDoorPx12
import Derived.Test.YtgfdmaohnngpjaaDoorHeadOne
import Derived.Outline
import Derived.StillTailTactics
import Derived.Deep.RegionHeld3
namespace Go.Proofs.YtgfdmaohnngpjaaDoor.P
open Go.RowKit Go.Proofs.YtgfdmaohnngpjaaDoorW.PrintWords Go.Proofs.YtgfdmaohnngpjaaDoorW.PrintLast Go.Proofs.YtgfdmaohnngpjaaDoorW.PrintMore
attribute [local go_sem] max2_int min2_int max_two min_two max_three min_three max_four min_four   -- for this text's walks alone
set_option linter.unusedVariables false
set_option linter.unusedSimpArgs false

/-! ### head_Request: function 8: given -/
/-- a text without its colon ahead -/
def uncolon : List UInt8 → List UInt8
  | [] => []
  | c :: l => if c = 58 then l else c :: l
theorem uncolon_le : ∀ l : List UInt8, (uncolon l).length ≤ l.length
  | [] => Nat.le_refl _
  | c :: l => by rw [show uncolon (c :: l) = if c = 58 then l else c :: l from rfl]; split <;> simp
theorem ba_mk (s : ByteArray) : (⟨s.data.toList.toArray⟩ : ByteArray) = s := by cases s; simp
theorem trimPrefix_ev (s : ByteArray) : strings_TrimPrefix.f s (⟨#[58]⟩ : ByteArray) = some ⟨(uncolon s.data.toList).toArray⟩ := by
  have h1 : ((⟨#[58]⟩ : ByteArray).size : Int) = 1 := rfl
  have ht : (⟨#[58]⟩ : ByteArray).toList = [58] := by rw [Lib.toList_data]
  unfold strings_TrimPrefix.f stringslite_TrimPrefix.f stringslite_HasPrefix.f
  simp only [h1, ht, Lib.extract_eq, Lib.toList_data]
  have hsz : s.size = s.data.toList.length := by simp
  cases hl : s.data.toList with
  | nil =>
    rw [hl] at hsz
    have : s = ⟨#[]⟩ := ba_ext _ _ hl
    subst this
    rfl
  | cons c l =>
    rw [hl] at hsz
    have e1 : (s.size : Int) ≥ 1 := by rw [hsz]; simp; omega
    rw [if_pos e1, if_pos (by omega), if_pos (by omega)]
    simp only [Option.bind_some, uncolon]
    by_cases hc : c = 58
    · subst hc
      rw [if_pos (by simp), if_pos rfl, if_pos (by omega), if_pos (by omega)]
      simp [hsz]
    · rw [if_neg (by simpa using hc), if_neg hc]
      simp only [Option.bind_some]
      rw [← hl, ba_mk]
/-- a field's texts are not too long to be reckoned with -/
def okS (x : S32) : Prop := x.f0.size ≤ 140737488351232 ∧ x.f1.size ≤ 140737488351232
instance (x : S32) : Decidable (okS x) := by unfold okS; exact inferInstance
/-- right, of texts -/
def rightL (n v : List UInt8) : Bool := !(uncolon n).isEmpty && (uncolon n).all signB && decide ((uncolon n).map fold8 = uncolon n) && (v.all shownB && decide (Lib.trimS v [9, 32] = v))
def rightB (x : S32) : Bool := rightL x.f0.data.toList x.f1.data.toList
theorem right_some (x : S32) (h : okS x) : head_right.f x.f0 x.f1 x.f2 = some (rightB x) := by
  have hl := uncolon_le x.f0.data.toList
  have hs0 : x.f0.data.toList.length = x.f0.size := by simp
  have h0 := h.1
  have h1 := h.2
  unfold head_right.f rightB rightL
  rw [trimPrefix_ev]
  simp only [Option.bind_some]
  unfold text_Token.f text_Fold.f text_Value.f
  generalize uncolon x.f0.data.toList = u at hl
  have hu : (⟨u.toArray⟩ : ByteArray).size = u.length := by simp [ByteArray.size]
  rw [if_pos (by rw [hu]; exact Nat.le_trans (Nat.le_trans hl (by omega)) (Nat.le_trans h0 (by decide))), if_pos (by rw [hu]; omega), if_pos (by omega)]
  simp only [Option.bind_some, Lib.toList_data]
  cases (!u.isEmpty && u.all signB) with
  | false => rfl
  | true =>
    rw [if_pos rfl]
    by_cases hm : u.map fold8 = u
    · rw [if_pos (by simpa using hm), decide_eq_true hm]
      simp
    · rw [if_neg (by simpa using hm), decide_eq_false hm]
      simp
/-- barred, of texts -/
def barredL (n v : List UInt8) : Bool :=
  decide (n = [99, 111, 110, 110, 101, 99, 116, 105, 111, 110]) || decide (n = [107, 101, 101, 112, 45, 97, 108, 105, 118, 101]) || decide (n = [112, 114, 111, 120, 121, 45, 99, 111, 110, 110, 101, 99, 116, 105, 111, 110]) || decide (n = [116, 114, 97, 110, 115, 102, 101, 114, 45, 101, 110, 99, 111, 100, 105, 110, 103]) || decide (n = [117, 112, 103, 114, 97, 100, 101]) ||
  (decide (n = [116, 101]) && !decide (v = [116, 114, 97, 105, 108, 101, 114, 115]))
def barredB (x : S32) : Bool := barredL x.f0.data.toList x.f1.data.toList
theorem barred_some (x : S32) : head_barred.f 1 x.f0 x.f1 x.f2 = some (barredB x) := by
  unfold barredB barredL head_barred.f head_barred.j0
  simp only [Lib.toList_data]
  generalize x.f0.data.toList = n
  generalize x.f1.data.toList = v
  by_cases h1 : n = [99, 111, 110, 110, 101, 99, 116, 105, 111, 110]
  · subst h1; rfl
  · by_cases h2 : n = [107, 101, 101, 112, 45, 97, 108, 105, 118, 101]
    · subst h2; rfl
    · by_cases h3 : n = [112, 114, 111, 120, 121, 45, 99, 111, 110, 110, 101, 99, 116, 105, 111, 110]
      · subst h3; rfl
      · by_cases h4 : n = [116, 114, 97, 110, 115, 102, 101, 114, 45, 101, 110, 99, 111, 100, 105, 110, 103]
        · subst h4; rfl
        · by_cases h5 : n = [117, 112, 103, 114, 97, 100, 101]
          · subst h5; rfl
          · by_cases h6 : n = [116, 101]
            · subst h6; rw [if_neg h1, if_neg h2, if_neg h3, if_neg h4]; by_cases h7 : v = [116, 114, 97, 105, 108, 101, 114, 115] <;> simp [h7, bne]
            · rw [if_neg h1, if_neg h2, if_neg h3, if_neg h4, if_neg (by simpa using h5), if_neg h6]
              simp [h1, h2, h3, h4, h5, h6]
def tellT (x : S32) (T : Told) (d : Int) : Option Told :=
  if (T.ft x.f0.data.toList + 1 == 1) = true then some ⟨upd T.ft x.f0.data.toList (T.ft x.f0.data.toList + 1), upd T.fv x.f0.data.toList x.f1, T.ps + d⟩ else none
/-- a field is taken in -/
def stepT (x : S32) (others : Int) (T : Told) : Option Told :=
  if rightB x = false then none
  else if barredB x = true then none
  else if pseudoB x.f0 = true ∧ 0 < others then none
  else if pseudoB x.f0 = true then tellT x T 1
  else if x.f0 = CL ∨ x.f0 = CT then tellT x T 0
  else some T
theorem eq_str {a b : ByteArray} (h : a = b) : (a.toList == b.data.toList) = true := by rw [h, Lib.toList_data]; simp
theorem CL_ne : CT ≠ CL := by decide
theorem one_calls (x : S32) (hx : okS x) (others : Int) (w : World) (base B bm bv n : Nat) (T : Told) (md : ByteArray) (ln : Int) (hn : n < 1000000000000) (hbase : base ≤ w.heap.size) (H : Hid (IsTold w base B bm bv n T md ln))
    (r : Option Told) (hr : stepT x others T = r) :
    Calls Tryd.prog 15 #[.pointer (some ⟨B, 0, none⟩), .agg #[.string x.f0, .string x.f1, .bool x.f2], .int .i64 others] w fun e w' => e = .returned (.bool r.isSome) ∧ Below base w w' ∧ (∀ T', r = some T' → IsTold w' base B bm bv (n + 3) T' md ln) := by
  have R : ∀ b, rightB x = b → ∀ W, Calls Tryd.prog 18 #[.agg #[.string x.f0, .string x.f1, .bool x.f2]] W fun e w' => e = .returned (.bool b) ∧ Below W.heap.size W w' := fun b hb W => by
    subst hb; exact head_right.calls _ _ _ _ W (right_some x hx)
  have D : ∀ b, barredB x = b → ∀ W, Calls Tryd.prog 19 #[.agg #[.string x.f0, .string x.f1, .bool x.f2]] W fun e w' => e = .returned (.bool b) ∧ Below W.heap.size W w' := fun b hb W => by
    subst hb; exact head_barred.calls _ _ _ _ _ W (barred_some x)
  have hs : x.f0.size ≤ maxLen := Nat.le_trans hx.1 (by decide)
  have hs2 : x.f1.size ≤ maxLen := Nat.le_trans hx.2 (by decide)
  have tell : ∀ d, (e : Ending) → (w' : World) → (q : e = .returned (.bool (T.ft x.f0.data.toList + 1 == 1)) ∧ Below base w w' ∧ IsTold w' base B bm bv (n + 3) ⟨upd T.ft x.f0.data.toList (T.ft x.f0.data.toList + 1), upd T.fv x.f0.data.toList x.f1, T.ps + d⟩ md ln) → e = .returned (.bool (tellT x T d).isSome) ∧ Below base w w' ∧ (∀ T', tellT x T d = some T' → IsTold w' base B bm bv (n + 3) T' md ln) := by
    rintro d e w' ⟨rfl, hb, ht⟩
    unfold tellT
    cases hq : (T.ft x.f0.data.toList + 1 == 1) with
    | true => exact ⟨by simp, hb, fun T' e => by simp at e; subst e; exact ht⟩
    | false => exact ⟨by simp, hb, fun T' e => by simp at e⟩
  unfold stepT at hr
  by_cases h1 : rightB x = false
  · rw [if_pos h1] at hr
    subst hr
    refine (one_bad x.f0 x.f1 x.f2 others w B (R _ h1)).mono ?_
    rintro e w' ⟨rfl, hb⟩
    exact ⟨rfl, below_weaken' hb hbase, fun _ h => by cases h⟩
  · rw [if_neg h1] at hr
    have h1 : rightB x = true := by simpa using h1
    by_cases h2 : barredB x = true
    · rw [if_pos h2] at hr
      subst hr
      refine (one_barred x.f0 x.f1 x.f2 others w B (R _ h1) (D _ h2)).mono ?_
      rintro e w' ⟨rfl, hb⟩
      exact ⟨rfl, below_weaken' hb hbase, fun _ h => by cases h⟩
    · rw [if_neg h2] at hr
      have h2 : barredB x = false := by simpa using h2
      by_cases h3 : pseudoB x.f0 = true ∧ 0 < others
      · rw [if_pos h3] at hr
        subst hr
        refine (one_late x.f0 x.f1 x.f2 others w B (R _ h1) (D _ h2) h3.1 h3.2).mono ?_
        rintro e w' ⟨rfl, hb⟩
        exact ⟨rfl, below_weaken' hb hbase, fun _ h => by cases h⟩
      · rw [if_neg h3] at hr
        by_cases h4 : pseudoB x.f0 = true
        · rw [if_pos h4] at hr
          subst hr
          refine (one_pseudo x.f0 x.f1 x.f2 others w base B (R _ h1) (D _ h2) h4 (fun h => h3 ⟨h4, h⟩) bm bv n T md ln hn hbase hs hs2 H).mono ?_
          exact tell 1
        · rw [if_neg h4] at hr
          have h4 : pseudoB x.f0 = false := by simpa using h4
          have he : ∀ k : ByteArray, x.f0 = k → k.data.toList.isEmpty = false → x.f0.toList.isEmpty = false := fun k e h => by rw [e, Lib.toList_data]; exact h
          by_cases h5 : x.f0 = CL
          · rw [if_pos (.inl h5)] at hr
            subst hr
            refine (one_length x.f0 x.f1 x.f2 others w base B (R _ h1) (D _ h2) h4 (he _ h5 (by rfl)) (eq_str h5) bm bv n T md ln hn hbase hs hs2 H).mono ?_
            rintro e w' q
            refine tell 0 e w' ?_
            rw [Int.add_zero]
            exact q
          · by_cases h6 : x.f0 = CT
            · rw [if_pos (.inr h6)] at hr
              subst hr
              refine (one_type x.f0 x.f1 x.f2 others w base B (R _ h1) (D _ h2) h4 (he _ h6 (by rfl)) (str_ne h5) (eq_str h6) bm bv n T md ln hn hbase hs hs2 H).mono ?_
              rintro e w' q
              refine tell 0 e w' ?_
              rw [Int.add_zero]
              exact q
            · rw [if_neg (by rintro (h | h); exact h5 h; exact h6 h)] at hr
              subst hr
              refine (one_plain x.f0 x.f1 x.f2 others w B (R _ h1) (D _ h2) h4 h5 h6).mono ?_
              rintro e w' ⟨rfl, hb⟩
              have := H.out.below rfl hb
              exact ⟨rfl, below_weaken' hb hbase, fun T' h => by injection h with h; subst h; exact { this with mi := this.mi.mono (by omega), ms := this.ms.mono (by omega), bi := fun s => by have := this.bi s; omega, bp := by have := this.bp; omega }⟩
def T0 : Told := ⟨fun _ => 0, fun _ => ⟨#[]⟩, 0⟩
/-- the fields, one behind the other -/
def runT : Nat → List S32 → Told → Option Told
  | _, [], T => some T
  | i, x :: l, T => (stepT x ((i : Int) - T.ps) T).bind (runT (i + 1) l)
theorem runT_append : ∀ (l m : List S32) (i : Nat) (T : Told), runT i (l ++ m) T = (runT i l T).bind (runT (i + l.length) m)
  | [], m, i, T => rfl
  | x :: l, m, i, T => by
    simp only [List.cons_append, runT, List.length_cons]
    cases stepT x ((i : Int) - T.ps) T with
    | none => rfl
    | some T' =>
      simp only [Option.bind_some]
      rw [runT_append l m (i + 1) T', Nat.add_assoc, Nat.add_comm 1]
theorem rd_get (l : List S32) (k : Nat) (h : k < l.length) : rd_T32 l (k : Int) = l[k] := by
  unfold rd_T32
  simp [h]
theorem runT_snoc (l : List S32) (k : Nat) (h : k < l.length) (T : Told) (hT : runT 0 (l.take k) T0 = some T) :
    runT 0 (l.take (k + 1)) T0 = stepT (rd_T32 l (k : Int)) ((k : Int) - T.ps) T := by
  rw [rd_get l k h, List.take_succ_eq_append_getElem h, runT_append, hT]
  simp only [Option.bind_some, runT, List.length_take, Nat.zero_add, Nat.min_eq_left (Nat.le_of_lt h)]
  cases stepT l[k] ((k : Int) - T.ps) T <;> rfl
theorem runT_stop (l : List S32) (k : Nat) (h : runT 0 (l.take k) T0 = none) : runT 0 l T0 = none := by
  rw [← List.take_append_drop k l, runT_append, h]
  rfl
/-- a media type, of texts -/
def mediaL (L : List UInt8) : List UInt8 := (Lib.trimS (Lib.cut L [59]).1 [9, 32]).map fold8
def mediaB (s : ByteArray) : ByteArray := ⟨(mediaL s.data.toList).toArray⟩
theorem cut_len (L m : List UInt8) : (Lib.cut L m).1.length ≤ L.length := by
  unfold Lib.cut
  split
  · simp; omega
  · exact Nat.le_refl _
theorem trimS_len (L m : List UInt8) : (Lib.trimS L m).length ≤ L.length := by
  unfold Lib.trimS Lib.trimLeftS Lib.trimRightS
  have h1 := (List.dropWhile_suffix (l := L.reverse) (fun c => m.contains c)).length_le
  have h2 := (List.dropWhile_suffix (l := (L.reverse.dropWhile (fun c => m.contains c)).reverse) (fun c => m.contains c)).length_le
  rw [List.length_reverse] at h1 h2
  omega
theorem media_some (s : ByteArray) (h : s.size ≤ maxLen) : text_Media.f s = some (mediaB s) := by
  have h : s.size ≤ 9223372036854775807 := h
  have hl : s.data.toList.length = s.size := by simp
  have h1 := cut_len s.data.toList [59]
  have h2 := trimS_len (Lib.cut s.data.toList [59]).1 [9, 32]
  have mk (L : List UInt8) : (⟨L.toArray⟩ : ByteArray).size = L.length := by simp [ByteArray.size]
  unfold text_Media.f strings_Cut.f
  rw [if_pos ⟨h, rfl⟩]
  simp only [Option.bind_some]
  unfold strings_Trim.f
  rw [if_pos ⟨by rw [mk]; omega, by decide, by decide⟩]
  simp only [Option.bind_some]
  unfold text_Fold.f
  rw [if_pos (by rw [mk]; omega)]
  simp only [Option.bind_some]
  unfold mediaB mediaL
  simp
/-- what a head tells -/
def headT (l : List S32) : Option (Told × ByteArray × Int) :=
  (runT 0 l T0).bind fun T =>
    if 0 < T.ft CL.data.toList then
      if (decimal (T.fv CL.data.toList) 999999999).2 = true then some (T, mediaB (T.fv CT.data.toList), (decimal (T.fv CL.data.toList) 999999999).1) else none
    else some (T, mediaB (T.fv CT.data.toList), -1)
theorem IsTold.cells2 {w : World} {base B bm bv n : Nat} {T : Told} {md : ByteArray} {ln : Int} (h : IsTold w base B bm bv n T md ln) :
    w.cell? ⟨B, 3, none⟩ = some (.string md) ∧ w.cell? ⟨B, 4, none⟩ = some (.int .i64 ln) ∧ w.frozen? ⟨B, 3, none⟩ = false ∧ w.frozen? ⟨B, 4, none⟩ = false := ⟨blk_cell h.blk 3, blk_cell h.blk 4, blk_frozen h.blk 3, blk_frozen h.blk 4⟩
def startW (w : World) : World := ((w.alloc (.map #[] 0)).alloc (.map #[] 0)).alloc (.cells #[.map (some w.heap.size), .map (some (w.heap.size + 1)), .int .i64 0, .string ⟨#[]⟩, .int .i64 (-1)] 48)
theorem start_told (w : World) : IsTold (startW w) w.heap.size (w.heap.size + 1 + 1) w.heap.size (w.heap.size + 1) 0 T0 ⟨#[]⟩ (-1) := by
  have h2 : ((w.alloc (.map #[] 0)).alloc (.map #[] 0)).heap.size = w.heap.size + 1 + 1 := by simp
  have h1 : (w.alloc (.map #[] 0)).heap.size = w.heap.size + 1 := by simp
  have hm := (MapI.made w Tryd.prog 9 3).alloc (.map #[] 0)
  have hs := MapS.made (w.alloc (.map #[] 0)) Tryd.prog 9 9
  rw [h1] at hs
  exact { blk := by have := blk_new ((w.alloc (.map #[] 0)).alloc (.map #[] 0)) (.cells #[.map (some w.heap.size), .map (some (w.heap.size + 1)), .int .i64 0, .string ⟨#[]⟩, .int .i64 (-1)] 48); rw [h2] at this; exact this
          mi := hm.alloc _
          ms := hs.alloc _
          b1 := by omega
          b2 := by omega
          b3 := by omega
          n1 := by omega
          n2 := by omega
          n3 := by omega
          bi := fun s => ⟨Int.le_refl _, Int.le_refl _⟩
          bp := ⟨Int.le_refl _, Int.le_refl _⟩ }
theorem start_below (w : World) : Below w.heap.size w (startW w) := below_alloc (below_alloc (below_alloc (Below.refl _ _) _) _) _
theorem IsTold.alloc {w : World} {base B bm bv n : Nat} {T : Told} {md : ByteArray} {ln : Int} (h : IsTold w base B bm bv n T md ln) (o : Obj) : IsTold (w.alloc o) base B bm bv n T md ln :=
  { h with blk := ((below_alloc (Below.refl _ w) o).block B (blk_lt h.blk)).trans h.blk, mi := h.mi.alloc o, ms := h.ms.alloc o }
theorem IsTold.drew {w : World} {base B bm bv n : Nat} {T : Told} {md : ByteArray} {ln : Int} (h : IsTold w base B bm bv n T md ln) : IsTold w.drew base B bm bv n T md ln :=
  { h with blk := h.blk, mi := h.mi.drew, ms := h.ms.drew }
theorem IsTold.media {w : World} {base B bm bv n : Nat} {T : Told} {md : ByteArray} {ln : Int} (h : IsTold w base B bm bv n T md ln) (s : ByteArray) : IsTold (w.setCell ⟨B, 3, none⟩ (.string s)) base B bm bv n T s ln :=
  { h with blk := blk_put h.blk 3 _ rfl, mi := h.mi.setCell h.n1.symm _, ms := h.ms.setCell h.n2.symm _ }
theorem IsTold.length {w : World} {base B bm bv n : Nat} {T : Told} {md : ByteArray} {ln : Int} (h : IsTold w base B bm bv n T md ln) (i : Int) : IsTold (w.setCell ⟨B, 4, none⟩ (.int .i64 i)) base B bm bv n T md i :=
  { h with blk := blk_put h.blk 4 _ rfl, mi := h.mi.setCell h.n1.symm _, ms := h.ms.setCell h.n2.symm _ }
theorem IsTold.mono {w : World} {base B bm bv n m : Nat} {T : Told} {md : ByteArray} {ln : Int} (h : IsTold w base B bm bv n T md ln) (hm : n ≤ m) : IsTold w base B bm bv m T md ln :=
  { h with mi := h.mi.mono hm, ms := h.ms.mono hm, bi := fun s => by have := h.bi s; omega, bp := by have := h.bp; omega }
/-- what the head's walk leaves -/
def headPost (base n : Nat) (r : Option (Told × ByteArray × Int)) (e : Ending) (w' : World) : Prop :=
  match r with
  | none => e = .returned (.tuple #[.pointer none, .bool false])
  | some (T, md, ln) => ∃ B bm bv, e = .returned (.tuple #[.pointer (some ⟨B, 0, none⟩), .bool true]) ∧ IsTold w' base B bm bv n T md ln
set_option maxRecDepth 100000
set_option maxHeartbeats 4000000 in
theorem head_calls (A0 : Option Addr) (c0 : Nat) (l0 : List S32) (w : World) (hr0 : Kd.C k32 w A0 l0.length l0) (hc0 : l0.length ≤ c0) (hok : ∀ x ∈ l0, okS x) (hlen : l0.length ≤ 1000000000)
    (r : Option (Told × ByteArray × Int)) (hr : headT l0 = r) :
    Calls Tryd.prog 12 #[.slice A0 l0.length c0] w fun e w' => Below w.heap.size w w' ∧ headPost w.heap.size (3 * l0.length) r e w' := by
  have HR := Lib.hid hr0
  have HC := Lib.hid hc0
  have HK := Lib.hid hok
  have HE := Lib.hid hr
  clear hr0 hc0 hok hr
  have hmm := @run_makeMap Tryd.prog
  go_enter Tryd.func12, Tryd.ntmps12
  go_wp2
  clear hmm
  have HS := Lib.hid (start_told w)
  have HB := Lib.hid (start_below w)
  change Code.wp _ _ _ _ (startW w)
  generalize startW w = W at HS HB ⊢
  have hsw := HB.out.size
  go_loopw [15] (fun i wr => ∃ (k : Nat) (T : Told), k ≤ l0.length ∧ i = .int .i64 k ∧ Hid (runT 0 (l0.take k) T0 = some T) ∧ Hid (IsTold wr w.heap.size (w.heap.size + 1 + 1) w.heap.size (w.heap.size + 1) (3 * k) T ⟨#[]⟩ (-1)) ∧ Hid (Below w.heap.size w wr)) (fun i _ => l0.length - (intOf i).toNat)
  case atStart => exact ⟨0, T0, Nat.zero_le _, rfl, Lib.hid rfl, HS, HB⟩
  case round =>
    clear HS HB hsw
    obtain ⟨k, T, hk, rfl, HT, HW, HB⟩ := hrel
    by_cases hlt : k < l0.length
    · obtain ⟨ad, rfl, g0, g1, g2⟩ := at_T32 HR.out k (by omega) (by omega)
      have HN := Lib.hid (runT_snoc l0 k hlt T HT.out)
      have hx := HK.out (rd_T32 l0 k) (by rw [rd_get l0 k hlt]; exact List.getElem_mem hlt)
      have HX := Lib.hid hx
      clear hx
      generalize rd_T32 l0 (k : Int) = x at g0 g1 g2 HN HX
      simp only [Int.toNat_natCast] at g0 g1 g2
      replace g0 := (HB.out.cell (World.block_lt_of_cell? w _ g0)).trans g0
      replace g1 := (HB.out.cell (World.block_lt_of_cell? w _ g1)).trans g1
      replace g2 := (HB.out.cell (World.block_lt_of_cell? w _ g2)).trans g2
      go_wp2
      clear g0 g1 g2
      refine wp_region_still_tail 8 (by kernel_rfl) (by kernel_rfl) ?_
      simp only [List.take_succ_cons, List.take_zero, List.drop_succ_cons, List.drop_zero]
      change wpStill _ _ (World.drew (wr.alloc _)) (fun a' => wpList _ _ _ _ a' (World.drew (wr.alloc _))) _ _
      have HW2 := Lib.hid ((HW.out.alloc (.cells #[.string x.f0, .string x.f1, .bool x.f2] 32)).drew)
      have K2 := Lib.hid (show (World.drew (wr.alloc (.cells #[.string x.f0, .string x.f1, .bool x.f2] 32))).heap[wr.heap.size]? = _ from blk_new wr _)
      have HB2 := Lib.hid (HB.out.alloc HB.out.size (.cells #[.string x.f0, .string x.f1, .bool x.f2] 32)).drew
      generalize World.drew (wr.alloc (.cells #[.string x.f0, .string x.f1, .bool x.f2] 32)) = W2 at HW2 K2 HB2 ⊢
      clear HW HB
      obtain ⟨f0, f1, f2⟩ := field_cells K2.out
      obtain ⟨t0, t1, t2, t3⟩ := HW2.out.cells
      have hb := HW2.out.bp
      have hb0 : 0 ≤ T.ps := hb.1
      have hb1 : T.ps ≤ 3000000000 := by have := hb.2; omega
      clear hb
      have hwr : IntKind.i64.wrap ((k : Int) - T.ps) = (k : Int) - T.ps := IntWalk.i64_in _ ⟨by omega, by omega⟩
      repeat still_step
      refine wpStill_nil ?_
      (try rw [hwr])
      clear hwr t0 t1 t2 t3 f0 f1 f2
      have hsz := HB2.out.size
      cases hst : stepT x ((k : Int) - T.ps) T with
      | none =>
        rw [hst] at HN
        have HO := Lib.hid (one_calls x HX.out ((k : Int) - T.ps) W2 w.heap.size (w.heap.size + 1 + 1) w.heap.size (w.heap.size + 1) (3 * k) T ⟨#[]⟩ (-1) (by omega) hsz HW2 _ hst)
        clear hst
        go_wp2_with (go_at_call 15; refine (HO.out).mono ?_; rintro e w3 ⟨rfl, hb3, -⟩)
        go_ret2
        have h := HE.out
        unfold headT at h
        rw [runT_stop l0 (k + 1) HN.out] at h
        subst h
        exact ⟨HB2.out.trans hb3, rfl⟩
      | some T' =>
        rw [hst] at HN
        have HO := Lib.hid (one_calls x HX.out ((k : Int) - T.ps) W2 w.heap.size (w.heap.size + 1 + 1) w.heap.size (w.heap.size + 1) (3 * k) T ⟨#[]⟩ (-1) (by omega) hsz HW2 _ hst)
        clear hst
        go_wp2_with (go_at_call 15; refine (HO.out).mono ?_; rintro e w3 ⟨rfl, hb3, ht3⟩)
        go_roundw
        case rel => exact ⟨k + 1, T', by omega, by go_num, HN, Lib.hid (ht3 _ rfl), Lib.hid (HB2.out.trans hb3)⟩
        case measure => simp [intOf]; omega
    · obtain rfl : k = l0.length := by omega
      rw [List.take_length] at HT
      have hE := HE.out
      unfold headT at hE
      rw [HT.out] at hE
      simp only [Option.bind_some] at hE
      clear HE HK HC HR HT
      obtain ⟨t0, t1, t2, t3⟩ := HW.out.cells
      have lc := HW.out.mi.lookup Tryd.underlying9 Tryd.underlying45 Tryd.underlying3 (zeroI _) CL (by decide)
      have lv := (HW.out.ms.lookup Tryd.underlying9 Tryd.underlying46 Tryd.underlying9 (zeroS _) CL (by decide)).1
      have hmed := (HW.out.ms.lookup Tryd.underlying9 Tryd.underlying46 Tryd.underlying9 (zeroS _) CT (by decide)).2
      have hmed := media_some _ hmed
      unfold CL at lc lv hE
      unfold CT at hmed hE
      by_cases hp : 0 < T.ft [99, 111, 110, 116, 101, 110, 116, 45, 108, 101, 110, 103, 116, 104]
      · rw [if_pos hp] at hE
        have hd : decide (0 < T.ft [99, 111, 110, 116, 101, 110, 116, 45, 108, 101, 110, 103, 116, 104]) = true := decide_eq_true hp
        clear hp
        generalize hq : decimal (T.fv [99, 111, 110, 116, 101, 110, 116, 45, 108, 101, 110, 103, 116, 104]) 999999999 = q at hE
        obtain ⟨q1, q2⟩ := q
        have HD := Lib.hid (show text_Decimal.f (T.fv [99, 111, 110, 116, 101, 110, 116, 45, 108, 101, 110, 103, 116, 104]) 999999999 = some (q1, q2) from congrArg some hq)
        clear hq
        generalize T.fv [99, 111, 110, 116, 101, 110, 116, 45, 108, 101, 110, 103, 116, 104] = u at lv HD hE
        generalize T.ft [99, 111, 110, 116, 101, 110, 116, 45, 108, 101, 110, 103, 116, 104] = c at lc hd
        cases q2 with
        | false =>
          have HR := Lib.hid hE
          clear hE hmed
          go_wp2_with (go_at_call 14; refine (text_Decimal.calls _ _ _ _ _ HD.out).mono ?_; rintro e w3 ⟨rfl, hb3⟩)
          go_ret2
          have h := HR.out
          (try simp at h)
          subst h
          exact ⟨below_step HB.out hb3, rfl⟩
        | true =>
          have HR := Lib.hid hE
          have HM := Lib.hid hmed
          clear hE hmed
          go_wp2_with (first
            | (go_at_call 14; refine (text_Decimal.calls _ _ _ _ _ HD.out).mono ?_; rintro e w3 ⟨rfl, hb3⟩
               have HT3 := Lib.hid (HW.out.below rfl hb3)
               have HB3 := Lib.hid (below_step HB.out hb3)
               clear hb3 t0 t1 t2 t3 lc lv
               obtain ⟨z1, z2, z3, z4⟩ := HT3.out.cells2
               obtain ⟨t0, t1, t2, t3⟩ := HT3.out.cells
               have HT4 := Lib.hid (HT3.out.length q1)
               have HB4 := Lib.hid (HB3.out.setCell (p := ⟨w.heap.size + 1 + 1, 4, none⟩) HT3.out.b1 (.int .i64 q1))
               have lt := (HT4.out.ms.lookup Tryd.underlying9 Tryd.underlying46 Tryd.underlying9 (zeroS _) CT (by decide)).1
               unfold CT at lt)
            | (go_at_call 16; refine (text_Media.calls _ _ _ HM.out).mono ?_; rintro e w5 ⟨rfl, hb5⟩
               have HT5 := Lib.hid (HT4.out.below rfl hb5)
               have HB5 := Lib.hid (below_step HB4.out hb5)
               clear hb5 lt
               obtain ⟨y1, y2, y3, y4⟩ := HT5.out.cells2))
          go_ret2
          have h := HR.out
          (try simp at h)
          subst h
          exact ⟨HB5.out.setCell (p := ⟨w.heap.size + 1 + 1, 3, none⟩) HT5.out.b1 _, _, _, _, rfl, HT5.out.media _⟩
      · rw [if_neg hp] at hE
        have hd : decide (0 < T.ft [99, 111, 110, 116, 101, 110, 116, 45, 108, 101, 110, 103, 116, 104]) = false := decide_eq_false hp
        clear hp
        have HR := Lib.hid hE
        have HM := Lib.hid hmed
        have HT4 := HW
        have HB4 := HB
        have lt := (HW.out.ms.lookup Tryd.underlying9 Tryd.underlying46 Tryd.underlying9 (zeroS _) CT (by decide)).1
        unfold CT at lt
        clear hE hmed lv
        go_wp2_with (first
          | (go_at_call 16; refine (text_Media.calls _ _ _ HM.out).mono ?_; rintro e w5 ⟨rfl, hb5⟩
             have HT5 := Lib.hid (HT4.out.below rfl hb5)
             have HB5 := Lib.hid (below_step HB4.out hb5)
             clear hb5 lt
             obtain ⟨y1, y2, y3, y4⟩ := HT5.out.cells2))
        go_ret2
        have h := HR.out
        (try simp at h)
        subst h
        exact ⟨HB5.out.setCell (p := ⟨w.heap.size + 1 + 1, 3, none⟩) HT5.out.b1 _, _, _, _, rfl, HT5.out.media _⟩
def nM : List UInt8 := [58, 109, 101, 116, 104, 111, 100]
def nS : List UInt8 := [58, 115, 99, 104, 101, 109, 101]
def nP : List UInt8 := [58, 112, 97, 116, 104]
def nA : List UInt8 := [58, 97, 117, 116, 104, 111, 114, 105, 116, 121]
/-- a request out of what its head tells -/
def reqT (h : Option (Told × ByteArray × Int)) : ByteArray × ByteArray × ByteArray × ByteArray × Bool × Int × Int :=
  match h with
  | none => (⟨#[]⟩, ⟨#[]⟩, ⟨#[]⟩, ⟨#[]⟩, false, 0, 100)
  | some (T, md, ln) =>
    if T.ft nM + T.ft nS + T.ft nP = 3 ∧ T.ps = 3 + T.ft nA ∧ (T.fv nM).toList.isEmpty = false ∧ (T.fv nP).toList.isEmpty = false ∧ (T.fv nS).toList.isEmpty = false then (T.fv nM, T.fv nP, ⟨#[]⟩, md, false, ln, 0)
    else (⟨#[]⟩, ⟨#[]⟩, ⟨#[]⟩, ⟨#[]⟩, false, 0, 100)
def head_Request.f (l0 : List S32) : Option (ByteArray × ByteArray × ByteArray × ByteArray × Bool × Int × Int) :=
  if (∀ x ∈ l0, okS x) ∧ l0.length ≤ 1000000000 then some (reqT (headT l0)) else none
/-- what the making of a request reads -/
def heldReq (base B bm bv n : Nat) (T : Told) (md : ByteArray) (ln : Int) (w : World) : Prop :=
  Hid (IsTold w base B bm bv n T md ln) ∧ w.cell? ⟨B, 1, none⟩ = some (.map (some bv)) ∧ w.cell? ⟨B, 3, none⟩ = some (.string md) ∧ w.cell? ⟨B, 4, none⟩ = some (.int .i64 ln) ∧
  (Instr.lookup 46 (.map (some bv)) (.string ⟨#[58, 109, 101, 116, 104, 111, 100]⟩) false).run Tryd.prog w = .ok (.string (T.fv [58, 109, 101, 116, 104, 111, 100])) w ∧
  (Instr.lookup 46 (.map (some bv)) (.string ⟨#[58, 112, 97, 116, 104]⟩) false).run Tryd.prog w = .ok (.string (T.fv [58, 112, 97, 116, 104])) w
theorem held_told {w : World} {base B bm bv n : Nat} {T : Told} {md : ByteArray} {ln : Int} (h : Hid (IsTold w base B bm bv n T md ln)) : heldReq base B bm bv n T md ln w :=
  ⟨h, blk_cell h.out.blk 1, blk_cell h.out.blk 3, blk_cell h.out.blk 4,
   (h.out.ms.lookup Tryd.underlying9 Tryd.underlying46 Tryd.underlying9 (zeroS _) ⟨nM.toArray⟩ (by decide)).1,
   (h.out.ms.lookup Tryd.underlying9 Tryd.underlying46 Tryd.underlying9 (zeroS _) ⟨nP.toArray⟩ (by decide)).1⟩
theorem IsTold.lower {w : World} {base base' B bm bv n : Nat} {T : Told} {md : ByteArray} {ln : Int} (h : IsTold w base B bm bv n T md ln) (hb : base' ≤ base) : IsTold w base' B bm bv n T md ln :=
  { h with b1 := Nat.le_trans hb h.b1, b2 := Nat.le_trans hb h.b2, b3 := Nat.le_trans hb h.b3 }
theorem IsTold.far {w : World} {base B bm bv n : Nat} {T : Told} {md : ByteArray} {ln : Int} (h : IsTold w base B bm bv n T md ln) {g : Nat} (h1 : B ≠ g) (h2 : bm ≠ g) (h3 : bv ≠ g) (i : Nat) (v : Value) : IsTold (w.setCell ⟨g, i, none⟩ v) base B bm bv n T md ln :=
  { h with blk := (Below.heap_setCell w ⟨g, i, none⟩ v B h1).trans h.blk, mi := h.mi.setCell h2 _, ms := h.ms.setCell h3 _ }
theorem IsTold.made6 {w : World} {base B bm bv n : Nat} {T : Told} {md : ByteArray} {ln : Int} (h : IsTold w base B bm bv n T md ln) (o : Obj) (v0 v1 v2 v3 v4 v5 : Value) :
    IsTold (((((((w.alloc o).setCell ⟨w.heap.size, 0, none⟩ v0).setCell ⟨w.heap.size, 1, none⟩ v1).setCell ⟨w.heap.size, 2, none⟩ v2).setCell ⟨w.heap.size, 3, none⟩ v3).setCell ⟨w.heap.size, 4, none⟩ v4).setCell ⟨w.heap.size, 5, none⟩ v5) base B bm bv n T md ln :=
  have a := Nat.ne_of_lt (blk_lt h.blk)
  have b := Nat.ne_of_lt h.mi.lt
  have c := Nat.ne_of_lt h.ms.lt
  ((((((h.alloc o).far a b c 0 v0).far a b c 1 v1).far a b c 2 v2).far a b c 3 v3).far a b c 4 v4).far a b c 5 v5
theorem IsTold.alloc' {w : World} {base B bm bv n : Nat} {T : Told} {md : ByteArray} {ln : Int} (h : Hid (IsTold w base B bm bv n T md ln)) {o : Obj} : Hid (IsTold (w.alloc o) base B bm bv n T md ln) := Lib.hid (h.out.alloc o)
section
variable {w W : World} {g B : Nat} {t : TypeId} {u0 u1 u2 u3 u4 u5 : Value}
theorem row6 (h : W.heap[g]? = some (.cells #[u0, u1, u2, u3, u4, u5] t (0, 0))) : W.cell? ⟨g, 0, none⟩ = some u0 ∧ W.cell? ⟨g, 1, none⟩ = some u1 ∧ W.cell? ⟨g, 2, none⟩ = some u2 ∧ W.cell? ⟨g, 3, none⟩ = some u3 ∧ W.cell? ⟨g, 4, none⟩ = some u4 ∧ W.cell? ⟨g, 5, none⟩ = some u5 :=
  ⟨blk_cell h 0, blk_cell h 1, blk_cell h 2, blk_cell h 3, blk_cell h 4, blk_cell h 5⟩
theorem put6 (h : W.heap[g]? = some (.cells #[u0, u1, u2, u3, u4, u5] t (0, 0))) (v0 v1 v2 v3 v4 v5 : Value) :
    ((((((W.setCell ⟨g, 0, none⟩ v0).setCell ⟨g, 1, none⟩ v1).setCell ⟨g, 2, none⟩ v2).setCell ⟨g, 3, none⟩ v3).setCell ⟨g, 4, none⟩ v4).setCell ⟨g, 5, none⟩ v5).heap[g]? = some (.cells #[v0, v1, v2, v3, v4, v5] t (0, 0)) :=
  blk_put (blk_put (blk_put (blk_put (blk_put (blk_put h 0 v0 rfl) 1 v1 rfl) 2 v2 rfl) 3 v3 rfl) 4 v4 rfl) 5 v5 rfl
theorem below6 (h : Below B w W) (hB : B ≤ g) (v0 v1 v2 v3 v4 v5 : Value) :
    Below B w ((((((W.setCell ⟨g, 0, none⟩ v0).setCell ⟨g, 1, none⟩ v1).setCell ⟨g, 2, none⟩ v2).setCell ⟨g, 3, none⟩ v3).setCell ⟨g, 4, none⟩ v4).setCell ⟨g, 5, none⟩ v5) :=
  (((((h.setCell (p := ⟨g, 0, none⟩) hB v0).setCell (p := ⟨g, 1, none⟩) hB v1).setCell (p := ⟨g, 2, none⟩) hB v2).setCell (p := ⟨g, 3, none⟩) hB v3).setCell (p := ⟨g, 4, none⟩) hB v4).setCell (p := ⟨g, 5, none⟩) hB v5
end
set_option maxRecDepth 100000
set_option maxHeartbeats 4000000 in
theorem head_Request.calls (A0 : Option Addr) (c0 : Nat) (l0 : List S32) (r1 r2 r3 r4 : ByteArray) (r5 : Bool) (r6 r7 : Int) (w : World) (hr0 : Kd.C k32 w A0 l0.length l0) (hc0 : l0.length ≤ c0) (h : head_Request.f l0 = some (r1, r2, r3, r4, r5, r6, r7)) :
    Calls Tryd.prog 8 #[.slice A0 l0.length c0] w fun e w' => e = .returned (.tuple #[.agg #[.string r1, .string r2, .string r3, .string r4, .bool r5, .int .i64 r6], .int .i64 r7]) ∧ Below w.heap.size w w' := by
  unfold head_Request.f at h
  split at h
  · rename_i hok
    have h := Option.some.inj h
    cases hh : headT l0 with
    | none =>
      rw [hh] at h
      unfold reqT at h
      simp only [Prod.mk.injEq] at h
      obtain ⟨rfl, rfl, rfl, rfl, rfl, rfl, rfl⟩ := h
      have HC := Lib.hid (fun W hr => head_calls A0 c0 l0 W hr hc0 hok.1 hok.2 _ hh)
      have HR := Lib.hid hr0
      clear hh hok hr0 hc0
      go_enter Tryd.func8, Tryd.ntmps8
      go_wp2_with (go_at_call 12; refine (HC.out _ (Kd.C_below HR.out (below_alloc (Below.refl _ _) _))).mono ?_; rintro e w2 ⟨hb2, rfl⟩; have KB := Lib.hid (blk_below (blk_new w _) hb2); have HB := Lib.hid (below_step (below_alloc (Below.refl _ w) _) hb2); clear hb2)
      go_quiet (fail)
      have KB := Lib.hid (show (w2.drewN nq).heap[w.heap.size]? = _ from KB.out)
      have HB := Lib.hid (pw_below_drewN HB.out nq)
      generalize w2.drewN nq = W at KB HB ⊢
      obtain ⟨c0, c1, c2, c3, c4, c5⟩ := row6 KB.out
      have cf := fun i => blk_frozen KB.out i
      go_wp2
      clear c0 c1 c2 c3 c4 c5 cf
      refine bodyPost_ret (results_ct rfl _ _ w.heap.size 26 #[.string ⟨#[]⟩, .string ⟨#[]⟩, .string ⟨#[]⟩, .string ⟨#[]⟩, .bool false, .int .i64 0] (0, 0) _ rfl (put6 KB.out _ _ _ _ _ _) Tryd.underlying26 rfl (by kernel_rfl)) rfl ?_
      exact ⟨rfl, below6 HB.out (Nat.le_refl _) _ _ _ _ _ _⟩
    | some q =>
      obtain ⟨T, md, ln⟩ := q
      rw [hh] at h
      unfold reqT at h
      simp only at h
      have HC := Lib.hid (fun W hr => head_calls A0 c0 l0 W hr hc0 hok.1 hok.2 _ hh)
      have HR := Lib.hid hr0
      have HH := Lib.hid h
      have hlen := hok.2
      clear hh hok hr0 hc0 h
      go_enter Tryd.func8, Tryd.ntmps8
      go_wp2_with (go_at_call 12; refine (HC.out _ (Kd.C_below HR.out (below_alloc (Below.refl _ _) _))).mono ?_; rintro e w2 ⟨hb2, B, bm, bv, rfl, ht⟩; have KB := Lib.hid (blk_below (blk_new w _) hb2); have HB := Lib.hid (below_step (below_alloc (Below.refl _ w) _) hb2); have HT := Lib.hid (ht.lower (below_alloc (Below.refl _ w) _).size); clear hb2 ht)
      have lkM := fun n => (HT.out.mi.drawn n).lookup Tryd.underlying9 Tryd.underlying45 Tryd.underlying3 (zeroI _) ⟨nM.toArray⟩ (by decide)
      have lkS := fun n => (HT.out.mi.drawn n).lookup Tryd.underlying9 Tryd.underlying45 Tryd.underlying3 (zeroI _) ⟨nS.toArray⟩ (by decide)
      have lkP := fun n => (HT.out.mi.drawn n).lookup Tryd.underlying9 Tryd.underlying45 Tryd.underlying3 (zeroI _) ⟨nP.toArray⟩ (by decide)
      have lkA := fun n => (HT.out.mi.drawn n).lookup Tryd.underlying9 Tryd.underlying45 Tryd.underlying3 (zeroI _) ⟨nA.toArray⟩ (by decide)
      have bM := HT.out.bi nM
      have bS := HT.out.bi nS
      have bP := HT.out.bi nP
      have bA := HT.out.bi nA
      have bp := HT.out.bp
      unfold nM at lkM bM
      unfold nS at lkS bS
      unfold nP at lkP bP
      unfold nA at lkA bA
      unfold nM nS nP nA at HH
      simp only at lkM lkS lkP lkA
      generalize T.ft [58, 109, 101, 116, 104, 111, 100] = cM at lkM bM HH
      generalize T.ft [58, 115, 99, 104, 101, 109, 101] = cS at lkS bS HH
      generalize T.ft [58, 112, 97, 116, 104] = cP at lkP bP HH
      generalize T.ft [58, 97, 117, 116, 104, 111, 114, 105, 116, 121] = cA at lkA bA HH
      obtain ⟨t0, t1, t2, t3⟩ := HT.out.cells
      generalize hps : T.ps = ps at t2 bp HH
      clear hps
      by_cases h3 : cM + cS + cP = 3
      · by_cases h4 : ps = 3 + cA
        · have d3 : (cM + cS + cP != 3) = false := by simp [h3]
          have d4 : (ps != 3 + cA) = false := by simp [h4]
          go_quiet (fail)
          have HT := Lib.hid (show IsTold (w2.drewN nq) _ B bm bv _ T md ln from { HT.out with blk := HT.out.blk, mi := HT.out.mi.drawn nq, ms := HT.out.ms.drawn nq })
          have KB := Lib.hid (show (w2.drewN nq).heap[w.heap.size]? = _ from KB.out)
          have HB := Lib.hid (pw_below_drewN HB.out nq)
          generalize w2.drewN nq = W at KB HB HT ⊢
          clear lkM lkS lkP lkA t0 t1 t2 t3 bM bS bP bA bp d3 d4
          go_wp2
          go_region_held3 (fun w' => Hid (IsTold w' w.heap.size B bm bv (3 * l0.length) T md ln) ∧ w'.cell? ⟨B, 1, none⟩ = some (.map (some bv)) ∧ w'.cell? ⟨B, 3, none⟩ = some (.string md) ∧ w'.cell? ⟨B, 4, none⟩ = some (.int .i64 ln) ∧
            (Instr.lookup 46 (.map (some bv)) (.string ⟨#[58, 109, 101, 116, 104, 111, 100]⟩) false).run Tryd.prog w' = .ok (.string (T.fv [58, 109, 101, 116, 104, 111, 100])) w' ∧
            (Instr.lookup 46 (.map (some bv)) (.string ⟨#[58, 112, 97, 116, 104]⟩) false).run Tryd.prog w' = .ok (.string (T.fv [58, 112, 97, 116, 104])) w')
             (first | exact held_told (Lib.hid HT.out.drew) | exact held_told (Lib.hid (HT.out.alloc _).drew) | exact held_told (Lib.hid (HT.out.made6 _ _ _ _ _ _ _).drew)) (fail)
          all_goals
            have hne : (w.heap.size = W.heap.size) = False := eq_false (Nat.ne_of_lt (blk_lt KB.out))
            have hV : ∃ V, V = World.drew (W.alloc (.cells #[.string (T.fv [58, 109, 101, 116, 104, 111, 100]), .string (T.fv [58, 112, 97, 116, 104]), .string ⟨#[]⟩, .string md, .bool false, .int .i64 ln] 26)) := ⟨_, rfl⟩
            obtain ⟨V, hV⟩ := hV
            have K6 : Hid (V.heap[W.heap.size]? = some (.cells #[.string (T.fv [58, 109, 101, 116, 104, 111, 100]), .string (T.fv [58, 112, 97, 116, 104]), .string ⟨#[]⟩, .string md, .bool false, .int .i64 ln] 26 (0, 0))) := Lib.hid (hV ▸ blk_new W _)
            have HT : Hid (IsTold V w.heap.size B bm bv (3 * l0.length) T md ln) := Lib.hid (by rw [hV]; exact (HT.out.alloc _).drew)
            have KB : Hid (V.heap[w.heap.size]? = some (.cells #[.string ⟨#[]⟩, .string ⟨#[]⟩, .string ⟨#[]⟩, .string ⟨#[]⟩, .bool false, .int .i64 0] 26 (0, 0))) := Lib.hid (hV ▸ ((below_alloc (Below.refl _ W) _).block _ (blk_lt KB.out)).trans KB.out)
            have HB : Hid (Below w.heap.size w V) := Lib.hid (by rw [hV]; exact (below_alloc HB.out _).drew)
            rw [← hV]
            clear hV
            obtain ⟨m0, m1, m2, m3, m4, m5⟩ := row6 K6.out
            obtain ⟨t0, t1, t2, t3⟩ := HT.out.cells
            have lS := (HT.out.ms.lookup Tryd.underlying9 Tryd.underlying46 Tryd.underlying9 (zeroS _) ⟨nS.toArray⟩ (by decide)).1
            unfold nS at lS
            simp only at lS
            generalize T.fv [58, 109, 101, 116, 104, 111, 100] = vM at m0 HH
            generalize T.fv [58, 115, 99, 104, 101, 109, 101] = vS at lS HH
            generalize T.fv [58, 112, 97, 116, 104] = vP at m1 HH
            cases eM : vM.toList.isEmpty with
            | true =>
              have nlM := nil_of eM
              obtain ⟨c0, c1, c2, c3, c4, c5⟩ := row6 KB.out
              have cf := fun i => blk_frozen KB.out i
              have h := HH.out
              rw [if_neg (by rintro ⟨-, -, q1, q2, q3⟩; simp_all)] at h
              simp only [Prod.mk.injEq] at h
              obtain ⟨rfl, rfl, rfl, rfl, rfl, rfl, rfl⟩ := h
              go_wp2
              clear c0 c1 c2 c3 c4 c5 cf
              refine bodyPost_ret (results_ct rfl _ _ w.heap.size 26 #[.string ⟨#[]⟩, .string ⟨#[]⟩, .string ⟨#[]⟩, .string ⟨#[]⟩, .bool false, .int .i64 0] (0, 0) _ rfl (put6 KB.out _ _ _ _ _ _) Tryd.underlying26 rfl (by kernel_rfl)) rfl ?_
              exact ⟨rfl, below6 HB.out (Nat.le_refl _) _ _ _ _ _ _⟩
            | false =>
              have nlM := nil_of eM
              cases eP : vP.toList.isEmpty with
              | true =>
                have nlP := nil_of eP
                obtain ⟨c0, c1, c2, c3, c4, c5⟩ := row6 KB.out
                have cf := fun i => blk_frozen KB.out i
                have h := HH.out
                rw [if_neg (by rintro ⟨-, -, q1, q2, q3⟩; simp_all)] at h
                simp only [Prod.mk.injEq] at h
                obtain ⟨rfl, rfl, rfl, rfl, rfl, rfl, rfl⟩ := h
                go_wp2
                clear c0 c1 c2 c3 c4 c5 cf
                refine bodyPost_ret (results_ct rfl _ _ w.heap.size 26 #[.string ⟨#[]⟩, .string ⟨#[]⟩, .string ⟨#[]⟩, .string ⟨#[]⟩, .bool false, .int .i64 0] (0, 0) _ rfl (put6 KB.out _ _ _ _ _ _) Tryd.underlying26 rfl (by kernel_rfl)) rfl ?_
                exact ⟨rfl, below6 HB.out (Nat.le_refl _) _ _ _ _ _ _⟩
              | false =>
                have nlP := nil_of eP
                cases eS : vS.toList.isEmpty with
                | true =>
                  have nlS := nil_of eS
                  obtain ⟨c0, c1, c2, c3, c4, c5⟩ := row6 KB.out
                  have cf := fun i => blk_frozen KB.out i
                  have h := HH.out
                  rw [if_neg (by rintro ⟨-, -, q1, q2, q3⟩; simp_all)] at h
                  simp only [Prod.mk.injEq] at h
                  obtain ⟨rfl, rfl, rfl, rfl, rfl, rfl, rfl⟩ := h
                  go_wp2
                  clear c0 c1 c2 c3 c4 c5 cf
                  refine bodyPost_ret (results_ct rfl _ _ w.heap.size 26 #[.string ⟨#[]⟩, .string ⟨#[]⟩, .string ⟨#[]⟩, .string ⟨#[]⟩, .bool false, .int .i64 0] (0, 0) _ rfl (put6 KB.out _ _ _ _ _ _) Tryd.underlying26 rfl (by kernel_rfl)) rfl ?_
                  exact ⟨rfl, below6 HB.out (Nat.le_refl _) _ _ _ _ _ _⟩
                | false =>
                  have nlS := nil_of eS
                  obtain ⟨c0, c1, c2, c3, c4, c5⟩ := row6 KB.out
                  have cf := fun i => blk_frozen KB.out i
                  have h := HH.out
                  rw [if_pos ⟨h3, h4, eM, eP, eS⟩] at h
                  simp only [Prod.mk.injEq] at h
                  obtain ⟨rfl, rfl, rfl, rfl, rfl, rfl, rfl⟩ := h
                  go_wp2
                  clear c0 c1 c2 c3 c4 c5 cf
                  refine bodyPost_ret (results_ct rfl _ _ w.heap.size 26 #[.string vM, .string vP, .string ⟨#[]⟩, .string md, .bool false, .int .i64 ln] (0, 0) _ rfl (put6 KB.out _ _ _ _ _ _) Tryd.underlying26 rfl (by kernel_rfl)) rfl ?_
                  exact ⟨rfl, below6 HB.out (Nat.le_refl _) _ _ _ _ _ _⟩
        · have d3 : (cM + cS + cP != 3) = false := by simp [h3]
          have d4 : (ps != 3 + cA) = true := by simp [h4]
          have h := HH.out
          rw [if_neg (fun q => h4 q.2.1)] at h
          simp only [Prod.mk.injEq] at h
          obtain ⟨rfl, rfl, rfl, rfl, rfl, rfl, rfl⟩ := h
          go_quiet (fail)
          have KB := Lib.hid (show (w2.drewN nq).heap[w.heap.size]? = _ from KB.out)
          have HB := Lib.hid (pw_below_drewN HB.out nq)
          generalize w2.drewN nq = W at KB HB ⊢
          obtain ⟨c0, c1, c2, c3, c4, c5⟩ := row6 KB.out
          have cf := fun i => blk_frozen KB.out i
          go_wp2
          clear c0 c1 c2 c3 c4 c5 cf
          refine bodyPost_ret (results_ct rfl _ _ w.heap.size 26 #[.string ⟨#[]⟩, .string ⟨#[]⟩, .string ⟨#[]⟩, .string ⟨#[]⟩, .bool false, .int .i64 0] (0, 0) _ rfl (put6 KB.out _ _ _ _ _ _) Tryd.underlying26 rfl (by kernel_rfl)) rfl ?_
          exact ⟨rfl, below6 HB.out (Nat.le_refl _) _ _ _ _ _ _⟩
      · have d3 : (cM + cS + cP != 3) = true := by simp [h3]
        have h := HH.out
        rw [if_neg (fun q => h3 q.1)] at h
        simp only [Prod.mk.injEq] at h
        obtain ⟨rfl, rfl, rfl, rfl, rfl, rfl, rfl⟩ := h
        go_quiet (fail)
        have KB := Lib.hid (show (w2.drewN nq).heap[w.heap.size]? = _ from KB.out)
        have HB := Lib.hid (pw_below_drewN HB.out nq)
        generalize w2.drewN nq = W at KB HB ⊢
        obtain ⟨c0, c1, c2, c3, c4, c5⟩ := row6 KB.out
        have cf := fun i => blk_frozen KB.out i
        go_wp2
        clear c0 c1 c2 c3 c4 c5 cf
        refine bodyPost_ret (results_ct rfl _ _ w.heap.size 26 #[.string ⟨#[]⟩, .string ⟨#[]⟩, .string ⟨#[]⟩, .string ⟨#[]⟩, .bool false, .int .i64 0] (0, 0) _ rfl (put6 KB.out _ _ _ _ _ _) Tryd.underlying26 rfl (by kernel_rfl)) rfl ?_
        exact ⟨rfl, below6 HB.out (Nat.le_refl _) _ _ _ _ _ _⟩
  · cases h

end Go.Proofs.YtgfdmaohnngpjaaDoor.P
