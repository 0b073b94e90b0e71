/-
  Lemmas on the way to the date laws (DtOf): what each function does, walked once, and plain laws of dates.
-/
import Derived.Test.YtfbpadkjfdedeaaDoorDtDay2
set_option linter.unusedVariables false
set_option linter.unusedSimpArgs false
namespace Go.Proofs.YtfbpadkjfdedeaaDoor
open Go.RowKit
set_option maxRecDepth 100000
set_option maxHeartbeats 2000000 in
theorem of_no (n : Int) (w : World) (h : n < 0 ∨ 2932896 < n) :
    Calls Tryd.prog 11 #[.int .i64 n] w fun e w' => e = .returned (.tuple #[.agg #[.int .i64 0, .int .i64 0, .int .i64 0], .int .i64 1]) ∧ Below w.heap.size w w' := by
  rcases h with h | h
  · go_enter Tryd.func11, Tryd.ntmps11
    go_wp2
    exact bodyPost_ret (v := .tuple #[.agg #[.int .i64 0, .int .i64 0, .int .i64 0], .int .i64 1]) (by simp [results, Tryd.results11, go_sem]) rfl ⟨rfl, (Below.refl _ _).alloc (Nat.le_refl _) _⟩
  · go_enter Tryd.func11, Tryd.ntmps11
    go_wp2
    exact bodyPost_ret (v := .tuple #[.agg #[.int .i64 0, .int .i64 0, .int .i64 0], .int .i64 1]) (by simp [results, Tryd.results11, go_sem]) rfl ⟨rfl, (Below.refl _ _).alloc (Nat.le_refl _) _⟩
set_option maxHeartbeats 2000000 in
theorem of_yes (n : Int) (w : World) (h0 : 0 ≤ n) (h1 : n ≤ 2932896) :
    Calls Tryd.prog 11 #[.int .i64 n] w fun e w' => e = .returned (.tuple #[.agg #[.int .i64 (DtCal.ofD n).1, .int .i64 (DtCal.ofD n).2.1, .int .i64 (DtCal.ofD n).2.2], .int .i64 0]) ∧ DtCal.IsDate n (DtCal.ofD n) ∧ Below w.heap.size w w' := by
  have hg := DtCal.guess n h0 h1
  have h1970 : DtCal.dby 1970 = 719162 := by decide
  have l70 : DtCal.dby 1970 ≤ 719162 := by omega
  have g70 : 719162 ≤ DtCal.dby 1970 := by omega
  clear h1970
  go_enter Tryd.func11, Tryd.ntmps11
  go_wp2
  go_loop [4] (fun t => ∃ y : Int, 1970 ≤ y ∧ y ≤ 9999 ∧ DtCal.dby y - 719162 ≤ n ∧ t = .int .i64 y) (fun t => (9999 - intOf t).toNat)
  case atStart => exact ⟨_, by omega, by omega, hg, rfl⟩
  case round =>
    obtain ⟨y, hy1, hy2, hy3, rfl⟩ := hrel
    have bd := DtCal.dby_bd y (by omega) (by omega)
    have bd2 := DtCal.dby_bd (y + 1) (by omega) (by omega)
    by_cases hc : DtCal.dby (y + 1) - DtCal.dby 1970 ≤ n
    · have hlt : y < 9999 := by
        rcases Int.lt_or_le y 9998 with h | h
        · omega
        · by_cases h' : y = 9998
          · omega
          obtain rfl : y = 9999 := by omega
          have : DtCal.dby (9999 + 1) = 3652059 := by decide
          omega
      go_wp2_with (go_at_call 23; refine (before_any _ _ (by omega) (by omega)).mono ?_; rintro e w' ⟨rfl, rfl⟩)
      go_round
      case rel => exact ⟨y + 1, by omega, by omega, by omega, rfl⟩
      case measure => simp [intOf]; omega
    · have hs := DtCal.dby_succ y (by omega)
      have hlp := DtCal.lp_01 y
      have HS := Lib.hid hs
      have hz : n + 719162 < DtCal.dby y + 365 + DtCal.lp y := by omega
      clear hs
      go_wp2_with (go_at_call 23; refine (before_any _ _ (by omega) (by omega)).mono ?_; rintro e w' ⟨rfl, rfl⟩)
      have hyear := DtCal.cum_all y
      go_loopw [0] (fun t wr => ∃ m : Nat, 1 ≤ m ∧ m ≤ 12 ∧ 0 ≤ n - (DtCal.dby y - DtCal.dby 1970) - DtCal.cum y (m - 1) ∧ t = .int .i64 (n - (DtCal.dby y - DtCal.dby 1970) - DtCal.cum y (m - 1)) ∧
          Aside (Blk wr w.heap.size #[.int .i64 0, .int .i64 0, .int .i64 0] 23) ∧ Aside (Blk wr (w.heap.size + 1) #[.int .i64 y, .int .i64 m, .int .i64 0] 23) ∧ Below w.heap.size w wr)
        (fun t _ => (intOf t).toNat)
      case atStart =>
        refine ⟨1, by omega, by omega, by simp [DtCal.cum]; omega, by simp [DtCal.cum], ⟨Blk.old (Blk.new _ _) _⟩, ⟨?_⟩, ((Below.refl _ _).alloc (Nat.le_refl _) _).alloc (by simp) _⟩
        have := Blk.new (w := w.alloc (.cells #[.int .i64 0, .int .i64 0, .int .i64 0] 23)) #[.int .i64 y, .int .i64 ((1 : Nat) : Int), .int .i64 0] 23
        simpa using this
      case round =>
        obtain ⟨m, hm1, hm2, hm3, rfl, ⟨b0⟩, ⟨b1⟩, hbw⟩ := hrel
        have hcb := DtCal.cum_bd y (m - 1)
        have hlb := DtCal.len_bd y m
        have hll := DtCal.len_lo y m (by omega) (by omega)
        have c1 := b1.cell 1 _ rfl
        have f1 := b1.free 1
        by_cases hd : DtCal.len y m ≤ n - (DtCal.dby y - DtCal.dby 1970) - DtCal.cum y (m - 1)
        · have hm12 : m < 12 := by
            rcases Nat.lt_or_ge m 12 with h | h
            · exact h
            · obtain rfl : m = 12 := by omega
              have e1 : DtCal.cum y 12 = DtCal.cum y (12 - 1) + DtCal.len y (12 : Nat) := rfl
              have := HS.out
              omega
          have HC : Hid (DtCal.cum y (m + 1 - 1) = DtCal.cum y (m - 1) + DtCal.len y m) := by
            obtain ⟨j, rfl⟩ : ∃ j, m = j + 1 := ⟨m - 1, by omega⟩
            simp [Hid, DtCal.cum]
          clear hyear
          go_wp2_with (go_at_call 19; refine (len_any _ _ _).mono ?_; rintro e w2 ⟨rfl, hb2⟩; have b0 := Blk.below b0 hb2; have b1 := Blk.below b1 hb2; have hbw := Below.next hbw hb2 (Nat.le_refl _); have c1 := Blk.cell b1 1 _ rfl; have f1 := Blk.free b1 1)
          go_roundw
          case rel =>
            refine ⟨m + 1, by omega, by omega, by rw [HC.out]; omega, by rw [HC.out]; congr 1; omega, ⟨b0.setOther _ (by simp)⟩, ⟨?_⟩, hbw.setCell (by simp) _⟩
            have := b1.set 1 (.int .i64 ((m : Int) + 1))
            simpa using this
          case measure => simp [intOf]; omega
        · clear hyear
          go_wp2_with (go_at_call 19; refine (len_any _ _ _).mono ?_; rintro e w2 ⟨rfl, hb2⟩; have b0 := Blk.below b0 hb2; have b1 := Blk.below b1 hb2; have hbw := Below.next hbw hb2 (Nat.le_refl _); have c1 := Blk.cell b1 1 _ rfl; have f1 := Blk.free b1 1; have c0 := Blk.cell b1 0 _ rfl; have c2 := Blk.cell b1 2 _ rfl; have f2 := Blk.free b1 2; have z0 := Blk.cell b0 0 _ rfl; have z1 := Blk.cell b0 1 _ rfl; have z2 := Blk.cell b0 2 _ rfl; have y0 := Blk.free b0 0; have y1 := Blk.free b0 1; have y2 := Blk.free b0 2)
          have hr : DtCal.right y m (n - (DtCal.dby y - DtCal.dby 1970) - DtCal.cum y (m - 1) + 1) = true := DtCal.right_iff.2 ⟨by omega, by omega, by omega, by omega, by omega⟩
          have hD : DtCal.IsDate n (y, (m : Int), n - (DtCal.dby y - DtCal.dby 1970) - DtCal.cum y (m - 1) + 1) := ⟨hr, by rw [DtCal.days_val hr]; simp only [Int.toNat_natCast]; omega⟩
          rw [DtCal.ofD_eq hD]
          refine bodyPost_ret (v := .tuple #[.agg #[.int .i64 y, .int .i64 m, .int .i64 (n - (DtCal.dby y - DtCal.dby 1970) - DtCal.cum y (m - 1) + 1)], .int .i64 0]) (by simp [results, Tryd.results11, go_sem, z0, z1, z2]) rfl ⟨rfl, hD, ?_⟩
          exact (((hbw.setCell (by simp) _).setCell (Nat.le_refl _) _).setCell (Nat.le_refl _) _).setCell (Nat.le_refl _) _
end Go.Proofs.YtfbpadkjfdedeaaDoor
