/-
  Lemmas on the way to the date laws (DtDay2): what each function does, walked once, and plain laws of dates.
-/
import Derived.Test.YtfbpadkjfdedeaaDoorDtDays
import Derived.IntWalk
set_option linter.unusedVariables false
set_option linter.unusedSimpArgs false
namespace Go.Proofs.YtfbpadkjfdedeaaDoor
open Go.RowKit
set_option maxRecDepth 100000
set_option maxHeartbeats 2000000 in
theorem days_no (y m d : Int) (w : World) (h : DtCal.right y m d = false) :
    Calls Tryd.prog 9 #[.agg #[.int .i64 y, .int .i64 m, .int .i64 d]] w fun e w' => e = .returned (.tuple #[.int .i64 0, .int .i64 1]) ∧ Below w.heap.size w w' := by
  go_enter Tryd.func9, Tryd.ntmps9
  go_wp2_with (go_at_call 22; refine (right_any _ _ _ _).mono ?_; rintro e w' ⟨rfl, hb⟩)
  go_ret2
  exact ⟨rfl, Below.next ((Below.refl _ _).alloc (Nat.le_refl _) _) (by assumption) (Nat.le_refl _)⟩
set_option maxHeartbeats 2000000 in
theorem days_yes (y : Int) (M : Nat) (d : Int) (w : World) (h : DtCal.right y M d = true) :
    Calls Tryd.prog 9 #[.agg #[.int .i64 y, .int .i64 M, .int .i64 d]] w fun e w' => e = .returned (.tuple #[.int .i64 (DtCal.dby y - 719162 + DtCal.cum y (M - 1) + d - 1), .int .i64 0]) ∧ Below w.heap.size w w' := by
  have hm := DtCal.right_month h
  obtain ⟨h1, h2, h3, h4, h5⟩ := DtCal.right_iff.1 h
  have hl := DtCal.len_bd y M
  have hb := DtCal.dby_bd y (by omega) (by omega)
  have hmo := DtCal.dby_mono 1970 y (by omega) (by omega)
  have h1970 : DtCal.dby 1970 = 719162 := by decide
  have i1 : IntKind.i64.wrap (DtCal.dby y - DtCal.dby 1970) = DtCal.dby y - DtCal.dby 1970 := IntWalk.i64_in _ (by omega)
  have i2 : IntKind.i64.wrap (DtCal.dby y - DtCal.dby 1970 + d) = DtCal.dby y - DtCal.dby 1970 + d := IntWalk.i64_in _ (by omega)
  have i3 : IntKind.i64.wrap (DtCal.dby y - DtCal.dby 1970 + d - 1) = DtCal.dby y - DtCal.dby 1970 + d - 1 := IntWalk.i64_in _ (by omega)
  rw [h1970] at hmo
  have l70 : DtCal.dby 1970 ≤ 719162 := by omega
  have g70 : 719162 ≤ DtCal.dby 1970 := by omega
  have H70 := Lib.hid h1970
  clear h1970
  go_enter Tryd.func9, Tryd.ntmps9
  go_wp2_with (go_at_call 22; refine (right_any _ _ _ _).mono ?_; rintro e w1 ⟨rfl, hb1⟩; have c0 := cell_next hb1 (a := ⟨w.heap.size, 0, none⟩) (v := .int .i64 y) (by go_simp); have c1 := cell_next hb1 (a := ⟨w.heap.size, 1, none⟩) (v := .int .i64 M) (by go_simp); have c2 := cell_next hb1 (a := ⟨w.heap.size, 2, none⟩) (v := .int .i64 d) (by go_simp))
  go_quiet ((go_at_call 23; exact Calls.quiet_of_same (before_any _ _ (by omega) (by omega))))
  clear i1 i2 i3
  go_wp2
  have hM : 1 ≤ M := by omega
  have HB0 : Below w.heap.size w (w1.drewN nq) := pw_below_drewN (Below.next ((Below.refl _ _).alloc (Nat.le_refl _) _) (by assumption) (Nat.le_refl _)) _
  go_loopw [4, 5] (fun n i wr => ∃ k : Nat, 1 ≤ k ∧ k ≤ M ∧ i = .int .i64 k ∧ n = .int .i64 (DtCal.dby y - DtCal.dby 1970 + d - 1 + DtCal.cum y (k - 1)) ∧
      Aside (wr.cell? ⟨w.heap.size, 0, none⟩ = some (.int .i64 y)) ∧ Aside (wr.cell? ⟨w.heap.size, 1, none⟩ = some (.int .i64 M)) ∧ Below w.heap.size w wr)
    (fun _ i _ => M - (intOf i).toNat)
  case atStart => exact ⟨1, by omega, hM, rfl, by simp [DtCal.cum], ⟨by simpa using c0⟩, ⟨by simpa using c1⟩, HB0⟩
  case round =>
    obtain ⟨k, hk1, hkM, rfl, rfl, ⟨d0⟩, ⟨d1⟩, hbw⟩ := hrel
    have hc := DtCal.cum_bd y (k - 1)
    have hlk := DtCal.len_bd y k
    by_cases hlt : k < M
    · have HC : Hid (DtCal.cum y (k + 1 - 1) = DtCal.cum y (k - 1) + DtCal.len y k) := by
        obtain ⟨j, rfl⟩ : ∃ j, k = j + 1 := ⟨k - 1, by omega⟩
        simp [Hid, DtCal.cum]
      go_wp2_with (go_at_call 19; refine (len_any _ _ _).mono ?_; rintro e w2 ⟨rfl, hb2⟩)
      go_roundw
      case rel => exact ⟨k + 1, by omega, by omega, by simp, by rw [HC.out]; congr 1; omega, ⟨cell_next (by assumption) d0⟩, ⟨cell_next (by assumption) d1⟩, Below.next hbw (by assumption) (Nat.le_refl _)⟩
      case measure => simp [intOf]; omega
    · have hkM' : k = M := by omega
      subst hkM'
      go_wp2
      go_ret2
      exact ⟨by rw [show DtCal.dby y - DtCal.dby 1970 + d - 1 + DtCal.cum y (k - 1) = DtCal.dby y - 719162 + DtCal.cum y (k - 1) + d - 1 by omega]; rfl, hbw⟩
theorem days_any (y m d : Int) (w : World) :
    Calls Tryd.prog 9 #[.agg #[.int .i64 y, .int .i64 m, .int .i64 d]] w fun e w' => e = .returned (.tuple #[.int .i64 (DtCal.days y m d).1, .int .i64 (DtCal.days y m d).2]) ∧ Below w.heap.size w w' := by
  unfold DtCal.days
  by_cases h : DtCal.right y m d = true
  · rw [if_pos h]
    obtain ⟨M, rfl⟩ : ∃ M : Nat, m = M := ⟨m.toNat, by have := (DtCal.right_iff.1 h).2.2.1; omega⟩
    exact days_yes y M d w h
  · rw [if_neg h]
    exact days_no y m d w (by simpa using h)
end Go.Proofs.YtfbpadkjfdedeaaDoor
