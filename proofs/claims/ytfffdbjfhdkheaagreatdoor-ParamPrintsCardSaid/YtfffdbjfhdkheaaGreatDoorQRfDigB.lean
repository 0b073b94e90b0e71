/-
  Lemmas on the way to DateTells (RfDig): the reference's digits of a number.
-/
import Derived.Test.YtfffdbjfhdkheaaGreatDoorQDtLen
import Derived.Test.YtfffdbjfhdkheaaGreatDoorQDtLaw
import Derived.Lib.ConvBytes
set_option linter.unusedVariables false
set_option linter.unusedSimpArgs false
namespace DtCal
/-- The last k digits of a number. -/
def digs (n : Int) : Nat → List UInt8
  | 0 => []
  | k + 1 => digs (n / 10) k ++ [dg n]
theorem digs_len (n : Int) (k : Nat) : (digs n k).length = k := by
  induction k generalizing n with
  | zero => rfl
  | succ k ih => simp [digs, ih]
/-- What the rounds have laid: the last k digits. -/
theorem digs_cons (n : Int) (k : Nat) (h : 0 ≤ n) : digs n (k + 1) = dg (n / 10 ^ k) :: digs n k := by
  induction k generalizing n with
  | zero => simp [digs]
  | succ k ih =>
    rw [digs, ih (n / 10) (by omega), digs, List.cons_append]
    congr 2
    rw [Int.pow_succ, Int.mul_comm, Int.ediv_ediv_of_nonneg (by omega)]
theorem digs2 (n : Int) : digs n 2 = [dg (n / 10), dg n] := rfl
theorem digs4 (n : Int) : digs n 4 = [dg (n / 1000), dg (n / 100), dg (n / 10), dg n] := by
  simp only [digs, List.nil_append, List.cons_append]
  rw [show n / 10 / 10 / 10 = n / 1000 by omega, show n / 10 / 10 = n / 100 by omega]
end DtCal
namespace Go.Proofs.YtfffdbjfhdkheaaGreatDoor
open Go.RowKit
set_option maxRecDepth 100000
theorem one_text (q : Int) (W : World) :
    (convert 84 9 (.slice (some ⟨W.heap.size, 0, none⟩) 1 1)).run Tryz.prog (W.alloc (.cells #[.int .u8 (48 + q % 10)] 5)) =
      .ok (.string ⟨#[DtCal.dg q]⟩) (W.alloc (.cells #[.int .u8 (48 + q % 10)] 5)) := by
  have e2 : ((DtCal.dg q).toNat : Int) = 48 + q % 10 := DtCal.dg_val q
  rw [run_convert_bytes_arg (W.alloc (.cells #[.int .u8 (48 + q % 10)] 5)) 84 5 Tryz.underlying84 Tryz.underlying5 W.heap.size 0 1 1 [48 + q % 10] rfl
    (fun i hi => by match i, hi with
                    | 0, _ => simp) 9 Tryz.underlying9]
  rw [← e2]
  simp [strOfNums]
set_option maxHeartbeats 2000000 in
theorem rf_digits (n : Int) (size : Nat) (w : World) (h0 : 0 ≤ n) (h1 : n ≤ 99999) (hs : size ≤ 9) :
    Calls Tryz.prog 72 #[.int .i64 n, .int .i64 size] w fun e w' => e = .returned (.string ⟨(DtCal.digs n size).toArray⟩) ∧ Below w.heap.size w w' := by
  go_enter Tryz.func72, Tryz.ntmps72
  go_wp2
  go_loopw [0, 5, 6] (fun t s i wr => ∃ k : Nat, k ≤ size ∧ i = .int .i64 k ∧ t = .int .i64 (n / 10 ^ k) ∧ s = .string ⟨(DtCal.digs n k).toArray⟩ ∧ Below w.heap.size w wr) (fun _ _ i _ => size - (intOf i).toNat)
  case atStart => exact ⟨0, Nat.zero_le _, rfl, by simp, rfl, Below.refl _ _⟩
  case round =>
    obtain ⟨k, hk, rfl, rfl, rfl, hbw⟩ := hrel
    have hq0 : 0 ≤ n / 10 ^ k := Int.ediv_nonneg h0 (Int.le_of_lt (Int.pow_pos (by omega)))
    have hq1 : n / 10 ^ k ≤ 99999 := Int.le_trans (Int.ediv_le_self _ h0) h1
    have HC := Lib.hid (DtCal.digs_cons n k h0)
    have HP : Hid (n / 10 ^ (k + 1) = n / 10 ^ k / 10) := Lib.hid (by rw [Int.pow_succ, Int.ediv_ediv_of_nonneg (by exact Int.le_of_lt (Int.pow_pos (by omega)))])
    have hlen := DtCal.digs_len n k
    generalize n / 10 ^ k = q at *
    have HR : Int.tmod q 10 = q % 10 := Int.tmod_eq_emod_of_nonneg hq0
    have HQ : Int.tdiv q 10 = q / 10 := Int.tdiv_eq_ediv_of_nonneg hq0
    have kc := one_text q wr
    by_cases hlt : k < size
    · go_wp2
      all_goals
        go_roundw
        case rel => exact ⟨k + 1, by omega, by go_num, by rw [HP.out], by rw [HC.out]; exact congrArg Value.string (ByteArray.ext (by simp)), hbw.alloc hbw.size _⟩
        case measure => simp [intOf]; omega
    · go_wp2
      go_ret
      exact ⟨ret_str (by rw [show k = size by omega]), hbw⟩
end Go.Proofs.YtfffdbjfhdkheaaGreatDoor
