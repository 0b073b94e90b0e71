/-
  Lemmas on the way to DateTells (RfOf): the reference's date of so many days.
-/
import Derived.Test.YtfffdbjfhdkheaaGreatDoorQRfLen
import Derived.Test.YtfffdbjfhdkheaaGreatDoorQDtLaw
import Derived.IntWalk
set_option linter.unusedVariables false
set_option linter.unusedSimpArgs false
namespace Go.Proofs.YtfffdbjfhdkheaaGreatDoor
open Go.RowKit
set_option maxRecDepth 100000
set_option maxHeartbeats 2000000 in
theorem rf_of_neg (n : Int) (w : World) (h : n < 0) :
    Calls Tryz.prog 71 #[.int .i64 n] w fun e w' => e = .returned (.tuple #[.agg #[.int .i64 0, .int .i64 0, .int .i64 0], .int .i64 1]) ∧ Below w.heap.size w w' := by
  go_enter Tryz.func71, Tryz.ntmps71
  go_wp2
  exact bodyPost_ret (v := .tuple #[.agg #[.int .i64 0, .int .i64 0, .int .i64 0], .int .i64 1]) (by simp [results, Tryz.results71, go_sem]) rfl ⟨rfl, (Below.refl _ _).alloc (Nat.le_refl _) _⟩
set_option maxHeartbeats 2000000 in
theorem rf_of_far (n : Int) (w : World) (h : 2932896 < n) (hw : n ≤ 9223372036854775807) :
    Calls Tryz.prog 71 #[.int .i64 n] w fun e w' => e = .returned (.tuple #[.agg #[.int .i64 0, .int .i64 0, .int .i64 0], .int .i64 1]) ∧ Below w.heap.size w w' := by
  go_enter Tryz.func71, Tryz.ntmps71
  go_wp2
  go_loop [0, 4] (fun t y => ∃ k : Int, 1970 ≤ k ∧ k ≤ 10000 ∧ t = .int .i64 (n - (DtCal.dby k - 719162)) ∧ y = .int .i64 k) (fun _ y => (10000 - intOf y).toNat)
  case atStart => exact ⟨1970, by omega, by omega, by rw [show DtCal.dby 1970 = 719162 by decide]; congr 1; omega, rfl⟩
  case round =>
    obtain ⟨k, hk1, hk2, rfl, rfl⟩ := hrel
    have bd := DtCal.dby_bd k (by omega) (by omega)
    have hlp := DtCal.lp_01 k
    have h1970 := DtCal.dby_mono 1970 k (by omega) (by omega)
    rw [show DtCal.dby 1970 = 719162 by decide] at h1970
    by_cases hlt : k ≤ 9999
    · have HS := Lib.hid (DtCal.dby_succ k (by omega))
      have hm := DtCal.dby_mono (k + 1) 10000 (by omega) (by omega)
      rw [show DtCal.dby 10000 = 3652059 by decide, HS.out] at hm
      go_wp2_with (go_at_call 92; refine (rf_year _ _).mono ?_; rintro e w' ⟨rfl, rfl⟩)
      go_round
      case rel => exact ⟨k + 1, by omega, by omega, by rw [HS.out]; congr 1; omega, rfl⟩
      case measure => simp [intOf]; omega
    · go_wp2
      exact bodyPost_ret (v := .tuple #[.agg #[.int .i64 0, .int .i64 0, .int .i64 0], .int .i64 1]) (by simp [results, Tryz.results71, go_sem]) rfl ⟨rfl, (Below.refl _ _).alloc (Nat.le_refl _) _⟩
set_option maxHeartbeats 2000000 in
theorem rf_of_yes (n : Int) (w : World) (h0 : 0 ≤ n) (h1 : n ≤ 2932896) :
    Calls Tryz.prog 71 #[.int .i64 n] w fun e w' => e = .returned (.tuple #[.agg #[.int .i64 (DtCal.ofD n).1, .int .i64 (DtCal.ofD n).2.1, .int .i64 (DtCal.ofD n).2.2], .int .i64 0]) ∧ Below w.heap.size w w' := by
  have HB : Below w.heap.size w (w.alloc (.cells #[.int .i64 0, .int .i64 0, .int .i64 0] 107)) := (Below.refl _ _).alloc (Nat.le_refl _) _
  go_enter Tryz.func71, Tryz.ntmps71
  go_wp2
  go_loop [0, 4] (fun t y => ∃ k : Int, 1970 ≤ k ∧ k ≤ 9999 ∧ 0 ≤ n - (DtCal.dby k - 719162) ∧ t = .int .i64 (n - (DtCal.dby k - 719162)) ∧ y = .int .i64 k) (fun _ y => (10000 - intOf y).toNat)
  case atStart => exact ⟨1970, by omega, by omega, by rw [show DtCal.dby 1970 = 719162 by decide]; omega, by rw [show DtCal.dby 1970 = 719162 by decide]; congr 1; omega, rfl⟩
  case round =>
    obtain ⟨k, hk1, hk2, hk3, rfl, rfl⟩ := hrel
    have bd := DtCal.dby_bd k (by omega) (by omega)
    have hlp := DtCal.lp_01 k
    have HS := Lib.hid (DtCal.dby_succ k (by omega))
    by_cases hc : 365 + DtCal.lp k ≤ n - (DtCal.dby k - 719162)
    · have hlt : k < 9999 := by
        rcases Int.lt_or_le k 9999 with h | h
        · exact h
        · obtain rfl : k = 9999 := by omega
          have e1 : DtCal.dby (9999 + 1) = 3652059 := by decide
          have e2 := HS.out
          omega
      go_wp2_with (go_at_call 92; refine (rf_year _ _).mono ?_; rintro e w' ⟨rfl, rfl⟩)
      go_round
      case rel => exact ⟨k + 1, by omega, by omega, by rw [HS.out]; omega, by rw [HS.out]; congr 1; omega, rfl⟩
      case measure => simp [intOf]; omega
    · have hyear := Lib.hid (DtCal.cum_all k)
      go_wp2_with (go_at_call 92; refine (rf_year _ _).mono ?_; rintro e w' ⟨rfl, rfl⟩)
      go_loop [0, 5] (fun t i => ∃ m : Nat, 1 ≤ m ∧ m ≤ 12 ∧ 0 ≤ n - (DtCal.dby k - 719162) - DtCal.cum k (m - 1) ∧ i = .int .i64 m ∧ t = .int .i64 (n - (DtCal.dby k - 719162) - DtCal.cum k (m - 1))) (fun _ i => 13 - (intOf i).toNat)
      case atStart => exact ⟨1, by omega, by omega, by simp [DtCal.cum]; omega, rfl, by simp [DtCal.cum]⟩
      case round =>
        obtain ⟨m, hm1, hm2, hm3, rfl, rfl⟩ := hrel
        have hcb := DtCal.cum_bd k (m - 1)
        have hlb := DtCal.len_bd k m
        have hll := DtCal.len_lo k m (by omega) (by omega)
        by_cases hd : DtCal.len k m ≤ n - (DtCal.dby k - 719162) - DtCal.cum k (m - 1)
        · have hm12 : m < 12 := by
            rcases Nat.lt_or_ge m 12 with h | h
            · exact h
            · obtain rfl : m = 12 := by omega
              have e1 : DtCal.cum k 12 = DtCal.cum k (12 - 1) + DtCal.len k (12 : Nat) := rfl
              have := hyear.out
              omega
          have HC : Hid (DtCal.cum k (m + 1 - 1) = DtCal.cum k (m - 1) + DtCal.len k m) := by
            obtain ⟨j, rfl⟩ : ∃ j, m = j + 1 := ⟨m - 1, by omega⟩
            simp [Hid, DtCal.cum]
          go_wp2_with (go_at_call 93; refine (rf_len _ _ _).mono ?_; rintro e w2 ⟨rfl, rfl⟩)
          go_round
          case rel => exact ⟨m + 1, by omega, by omega, by rw [HC.out]; omega, by go_num, by rw [HC.out]; congr 1; omega⟩
          case measure => simp [intOf]; omega
        · have hr : Hid (DtCal.right k m (n - (DtCal.dby k - 719162) - DtCal.cum k (m - 1) + 1) = true) := Lib.hid (DtCal.right_iff.2 ⟨by omega, by omega, by omega, by omega, by omega⟩)
          go_wp2_with (go_at_call 93; refine (rf_len _ _ _).mono ?_; rintro e w2 ⟨rfl, rfl⟩)
          have hD : DtCal.IsDate n (k, (m : Int), n - (DtCal.dby k - 719162) - DtCal.cum k (m - 1) + 1) := ⟨hr.out, by rw [DtCal.days_val hr.out]; simp only [Int.toNat_natCast]; omega⟩
          rw [DtCal.ofD_eq hD]
          refine bodyPost_ret (v := .tuple #[.agg #[.int .i64 k, .int .i64 m, .int .i64 (n - (DtCal.dby k - 719162) - DtCal.cum k (m - 1) + 1)], .int .i64 0]) (by simp [results, Tryz.results71, go_sem]) rfl ⟨rfl, ?_⟩
          exact (Below.refl _ _).alloc (Nat.le_refl _) _
end Go.Proofs.YtfffdbjfhdkheaaGreatDoor
