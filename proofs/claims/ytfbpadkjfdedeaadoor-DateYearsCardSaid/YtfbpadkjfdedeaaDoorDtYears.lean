/-
  Lemmas on the way to the date laws (DtYears): what each function does, walked once, and plain laws of dates.
-/
import Derived.Test.YtfbpadkjfdedeaaDoorDtAwake
import Derived.Test.YtfbpadkjfdedeaaDoorDtLaw
set_option linter.unusedVariables false
set_option linter.unusedSimpArgs false
namespace Go.Proofs.YtfbpadkjfdedeaaDoor
open Go.RowKit
set_option maxRecDepth 100000
theorem days_first (y : Int) (w : World) (h0 : 1970 ≤ y) (h1 : y ≤ 9999) :
    Calls Tryd.prog 9 #[.agg #[.int .i64 y, .int .i64 1, .int .i64 1]] w fun e w' => e = .returned (.tuple #[.int .i64 (DtCal.dby y - 719162), .int .i64 0]) ∧ Below w.heap.size w w' := by
  have := days_any y 1 1 w
  have hl := DtCal.len_lo y 1 (by omega) (by omega)
  rw [DtCal.days_val (DtCal.right_iff.2 ⟨h0, h1, by omega, by omega, by omega⟩)] at this
  have e : DtCal.dby y - 719162 + DtCal.cum y ((1 : Int).toNat - 1) + 1 - 1 = DtCal.dby y - 719162 := by
    have : DtCal.cum y ((1 : Int).toNat - 1) = 0 := rfl
    omega
  rwa [e] at this
theorem leap_is (y : Int) (b : Bool) (hb : DtCal.leap y = b) (w : World) :
    Calls Tryd.prog 17 #[.int .i64 y] w fun e w' => e = .returned (.bool b) ∧ w' = w := hb ▸ leap_any y w
set_option maxHeartbeats 4000000 in
theorem years_in (y : Int) (w : World) (ht : Tab w) (h0 : 1970 ≤ y) (h1 : y ≤ 9599) (l : Bool) (hl : DtCal.leap y = l) (hl4 : DtCal.leap (y + 400) = l) (c : Int) (hc : c = if l = true then 366 else 365)
    (hs : DtCal.dby (y + 1) - DtCal.dby y = c) (h4 : DtCal.dby (y + 400) - DtCal.dby y = 146097) (h12 : DtCal.cum y 12 = c) :
    Calls Tryd.prog 7 #[.int .i64 y] w fun e w' => e = .returned (.bool true) ∧ Below w.heap.size w w' := by
  have bd := DtCal.dby_bd y (by omega) (by omega)
  have bd1 := DtCal.dby_bd (y + 1) (by omega) (by omega)
  have bd4 := DtCal.dby_bd (y + 400) (by omega) (by omega)
  have H12 := Lib.hid h12
  have g1 : DtCal.dby (y + 1) - DtCal.dby y ≤ c := by omega
  have g2 : c ≤ DtCal.dby (y + 1) - DtCal.dby y := by omega
  have g3 : DtCal.dby (y + 400) - DtCal.dby y ≤ 146097 := by omega
  have g4 : 146097 ≤ DtCal.dby (y + 400) - DtCal.dby y := by omega
  have HL := Lib.hid hl
  have HL4 := Lib.hid hl4
  clear hl hl4 hs h4 h12
  go_enter Tryd.func7, Tryd.ntmps7
  go_wp2_with (go_at_call 8; refine (awake_any _ ht).mono ?_; rintro e w1 ⟨rfl, hb1⟩)
  go_loopw [3, 4] (fun n i wr => ∃ m : Nat, 1 ≤ m ∧ m ≤ 13 ∧ i = .int .i64 m ∧ n = .int .i64 (DtCal.cum y (m - 1)) ∧ Below w.heap.size w wr) (fun _ i _ => 13 - (intOf i).toNat)
  case atStart => exact ⟨1, by omega, by omega, rfl, rfl, by assumption⟩
  case round =>
    obtain ⟨m, hm1, hm2, rfl, rfl, hbw⟩ := hrel
    have hcb := DtCal.cum_bd y (m - 1)
    have hlb := DtCal.len_bd y m
    by_cases hlt : m ≤ 12
    · have HC : Hid (DtCal.cum y (m + 1 - 1) = DtCal.cum y (m - 1) + DtCal.len y m) := by
        obtain ⟨j, rfl⟩ : ∃ j, m = j + 1 := ⟨m - 1, by omega⟩
        simp [Hid, DtCal.cum]
      go_wp2_with (go_at_call 19; refine (len_any _ _ _).mono ?_; rintro e w2 ⟨rfl, hb2⟩)
      go_roundw
      case rel => exact ⟨m + 1, by omega, by omega, by simp, by rw [HC.out], Below.next hbw (by assumption) (Nat.le_refl _)⟩
      case measure => simp [intOf]; omega
    · obtain rfl : m = 13 := by omega
      have e12 : DtCal.cum y (13 - 1) = c := H12.out
      clear hcb
      have hcc : Hid (c = if l = true then 366 else 365) := hc
      cases l
      · obtain rfl : c = 365 := hc
        clear hcc
        go_wp2_with (first
          | (go_at_call 9; refine (days_first _ _ (by omega) (by omega)).mono ?_; rintro e w2 ⟨rfl, hb2⟩; have hbw := Below.next hbw hb2 (Nat.le_refl _))
          | (go_at_call 17; refine (leap_is _ false (by first | exact HL.out | exact HL4.out) _).mono ?_; rintro e w2 ⟨rfl, rfl⟩))
        go_ret
        exact ⟨rfl, hbw⟩
      · obtain rfl : c = 366 := hc
        clear hcc
        go_wp2_with (first
          | (go_at_call 9; refine (days_first _ _ (by omega) (by omega)).mono ?_; rintro e w2 ⟨rfl, hb2⟩; have hbw := Below.next hbw hb2 (Nat.le_refl _))
          | (go_at_call 17; refine (leap_is _ true (by first | exact HL.out | exact HL4.out) _).mono ?_; rintro e w2 ⟨rfl, rfl⟩))
        go_ret
        exact ⟨rfl, hbw⟩
theorem years_any (y : Int) (_wf : (Lit.int .i64 y).wf = true) (w : World) (ht : Tab w) :
    Calls Tryd.prog 7 #[.int .i64 y] w fun e w' => e = .returned (.bool true) ∧ Below w.heap.size w w' := by
  by_cases h0 : 1970 ≤ y
  · by_cases h1 : y ≤ 9599
    · have e1 : DtCal.leap (y + 400) = DtCal.leap y := by
        rw [Bool.eq_iff_iff, DtCal.leap_iff (by omega), DtCal.leap_iff (by omega)]
        omega
      have e2 := DtCal.dby_succ y (by omega)
      have e3 := (DtCal.cum_all y).2.2.2.2.2.2.2.2.2.2.2.2
      have e4 : 365 + DtCal.lp y = if DtCal.leap y = true then 366 else 365 := by unfold DtCal.lp; split <;> rfl
      exact years_in y w ht h0 h1 _ rfl e1 (365 + DtCal.lp y) e4 (by omega) (by unfold DtCal.dby; omega) e3
    · go_enter Tryd.func7, Tryd.ntmps7
      go_wp2_with (go_at_call 8; refine (awake_any _ ht).mono ?_; rintro e w1 ⟨rfl, hb1⟩)
      go_ret
      exact ⟨rfl, by assumption⟩
  · go_enter Tryd.func7, Tryd.ntmps7
    go_wp2_with (go_at_call 8; refine (awake_any _ ht).mono ?_; rintro e w1 ⟨rfl, hb1⟩)
    go_ret
    exact ⟨rfl, by assumption⟩
end Go.Proofs.YtfbpadkjfdedeaaDoor
