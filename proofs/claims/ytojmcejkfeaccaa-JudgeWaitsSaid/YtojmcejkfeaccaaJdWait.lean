/-
  Walks of the package judge: plans and waits.
-/
import Derived.Test.YtojmcejkfeaccaaMem2
import Derived.Test.YtojmcejkfeaccaaJdCal
import Derived.Test.YtojmcejkfeaccaaRows
import Derived.Deep.QuietTactic
import Derived.BigQuiet
import Derived.Deep.RegionHeld3
set_option linter.unusedVariables false
set_option linter.unusedSimpArgs false
namespace Go.Proofs.Ytojmcejkfeaccaa
open Go.RowKit
set_option maxRecDepth 100000
set_option maxHeartbeats 2000000 in
theorem wait_any (b m l a t : Int) (w : World) (hb : 1 ≤ b) (hm : b ≤ m) (hm2 : m ≤ 1048576) (ht : t ≤ 9223372036854775806) :
    Calls Try.prog 6 #[.agg #[.int .i64 b, .int .i64 m, .int .i64 l, .int .i64 a], .int .i64 t] w fun e w' => e = .returned (.int .i64 (JdCal.wait b m t)) ∧ w' = w.alloc (.cells #[.int .i64 b, .int .i64 m, .int .i64 l, .int .i64 a] 23) := by
  go_enter Try.func6, Try.ntmps6
  go_wp2
  go_loop [5, 6] (fun x i => ∃ k : Nat, (k = 0 ∨ (k : Int) + 1 ≤ t) ∧ i = .int .i64 ((k : Int) + 1) ∧ x = .int .i64 (JdCal.wt b m k)) (fun x _ => (m - intOf x).toNat)
  case atStart => exact ⟨0, .inl rfl, rfl, rfl⟩
  case round =>
    obtain ⟨k, hk, rfl, rfl⟩ := hrel
    have h1 := JdCal.wt_pos b m hb k
    have h2 := JdCal.wt_lt b m hb hm k
    by_cases hlt : (k : Int) + 1 < t
    · by_cases hw : JdCal.wt b m k < m
      · have HN : Hid (JdCal.wt b m (k + 1) = 2 * JdCal.wt b m k) := by show _ = _; rw [JdCal.wt, if_pos hw]
        have hd : decide (JdCal.wt b m k < m) = true := by simpa using hw
        go_wp2
        go_round
        case rel => exact ⟨k + 1, .inr (by omega), by simp, by rw [HN.out]; congr 1; omega⟩
        case measure => simp [intOf]; omega
      · have hd : decide (JdCal.wt b m k < m) = false := by simpa using hw
        have HW : Hid (JdCal.wait b m t = min (JdCal.wt b m k) m) := by
          show _ = _
          unfold JdCal.wait
          have e : (t - 1).toNat = k + ((t - 1).toNat - k) := by omega
          rw [e, JdCal.wt_stop b m k _ (by omega)]
        go_wp2
        all_goals
          go_ret
          exact ⟨ret_int (by rw [HW.out]; omega), rfl⟩
    · have HW : Hid (JdCal.wait b m t = min (JdCal.wt b m k) m) := by
        show _ = _
        unfold JdCal.wait
        have e : (t - 1).toNat = k := by omega
        rw [e]
      go_wp2
      all_goals
        go_ret
        exact ⟨ret_int (by rw [HW.out]; omega), rfl⟩
set_option maxHeartbeats 2000000 in
theorem right_any (b m l a : Int) (w : World) :
    Calls Try.prog 5 #[.agg #[.int .i64 b, .int .i64 m, .int .i64 l, .int .i64 a]] w fun e w' => e = .returned (.int .i64 (if JdCal.right b m l a = true then 0 else 1)) ∧ Below w.heap.size w w' := by
  by_cases h : JdCal.right b m l a = true
  · rw [if_pos h]
    simp only [JdCal.right, decide_eq_true_eq] at h
    obtain ⟨h1, h2, h3, h4, h5, h6, h7⟩ := h
    go_enter Try.func5, Try.ntmps5
    go_wp2
    go_ret
    exact ⟨rfl, (Below.refl _ _).alloc (Nat.le_refl _) _⟩
  · rw [if_neg h]
    have h' : b < 1 ∨ m < b ∨ 1048576 < m ∨ l < 1 ∨ 1073741824 < l ∨ a < 1 ∨ 1073741824 < a := by
      simp only [JdCal.right, decide_eq_true_eq] at h
      omega
    clear h
    go_enter Try.func5, Try.ntmps5
    go_wp2
    all_goals first
      | (go_ret; exact ⟨rfl, (Below.refl _ _).alloc (Nat.le_refl _) _⟩)
      | (exfalso; omega)
end Go.Proofs.Ytojmcejkfeaccaa
