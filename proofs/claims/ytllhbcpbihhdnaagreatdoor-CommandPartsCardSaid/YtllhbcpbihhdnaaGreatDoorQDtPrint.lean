/-
  Lemmas on the way to the date laws (DtPrint): what each function does, walked once, and plain laws of dates.
-/
import Derived.Test.YtllhbcpbihhdnaaGreatDoorQ3
import Derived.Test.YtllhbcpbihhdnaaGreatDoorQ1
import Derived.IntWalk
set_option linter.unusedVariables false
set_option linter.unusedSimpArgs false
namespace Go.Proofs.YtllhbcpbihhdnaaGreatDoor
open Go.RowKit
set_option maxRecDepth 100000
set_option maxHeartbeats 2000000 in
theorem pad_any (n : Int) (size : Nat) (w : World) (h0 : 0 ≤ n) (h1 : n ≤ 99999) (hs : size ≤ 9) (ht : Tab w) :
    Calls Tryz.prog 105 #[.int .i64 n, .int .i64 size] w fun e w' => e = .returned (.string ⟨(DtCal.pad n size).toArray⟩) ∧ Below w.heap.size w w' := by
  have hl : (Lib.itoa n).length ≤ 5 := DtCal.itoa_len n h0 h1
  go_enter Tryz.func105, Tryz.ntmps105
  go_wp2_with (first | (go_at_call 73; refine (itoa_any _ _ (by omega) (by omega) ht).mono ?_; rintro e w1 ⟨rfl, hb1⟩) | (go_at_call 131; refine (repeat_any _ _ _ (by omega) (by omega)).mono ?_; rintro e w2 ⟨rfl, hb2⟩))
  all_goals first | omega | skip
  go_ret
  refine ⟨ret_str ?_, Below.next hb1 hb2 (Nat.le_refl _)⟩
  have e1 : (max 0 ((size : Int) - ((Lib.itoa n).length : Int))).toNat = size - (Lib.itoa n).length := by omega
  rw [e1]
  apply ByteArray.ext
  simp [DtCal.pad]
theorem pad4_any (n : Int) (w : World) (h0 : 1000 ≤ n) (h1 : n ≤ 9999) (ht : Tab w) :
    Calls Tryz.prog 105 #[.int .i64 n, .int .i64 4] w fun e w' => e = .returned (.string ⟨#[DtCal.dg (n / 1000), DtCal.dg (n / 100), DtCal.dg (n / 10), DtCal.dg n]⟩) ∧ Below w.heap.size w w' := by
  have := pad_any n 4 w (by omega) (by omega) (by omega) ht
  rwa [DtCal.pad_four n h0 h1] at this
theorem pad2_any (n : Int) (w : World) (h0 : 0 ≤ n) (h1 : n ≤ 99) (ht : Tab w) :
    Calls Tryz.prog 105 #[.int .i64 n, .int .i64 2] w fun e w' => e = .returned (.string ⟨#[DtCal.dg (n / 10), DtCal.dg n]⟩) ∧ Below w.heap.size w w' := by
  have := pad_any n 2 w (by omega) (by omega) (by omega) ht
  rwa [DtCal.pad_two n h0 h1] at this
set_option maxHeartbeats 2000000 in
theorem print_no (t : Int) (w : World) (h : t < 0 ∨ 253402300800 ≤ t) :
    Calls Tryz.prog 72 #[.int .i64 t] w fun e w' => e = .returned (.tuple #[.string ⟨#[]⟩, .int .i64 1]) ∧ w' = w := by
  rcases h with h | h
  · go_enter Tryz.func72, Tryz.ntmps72
    go_wp2
    go_ret2
    exact ⟨rfl, rfl⟩
  · go_enter Tryz.func72, Tryz.ntmps72
    go_wp2
    go_ret2
    exact ⟨rfl, rfl⟩
set_option maxHeartbeats 1000000 in
theorem print_yes (t : Int) (w : World) (h0 : 0 ≤ t) (h1 : t < 253402300800) (ht : Tab w) :
    Calls Tryz.prog 72 #[.int .i64 t] w fun e w' => e = .returned (.tuple #[.string ⟨(DtCal.text t).toArray⟩, .int .i64 0]) ∧ Below w.heap.size w w' := by
  go_enter Tryz.func72, Tryz.ntmps72
  go_wp2_with (first | (go_at_call 104; refine (of_yes _ _ (by omega) (by omega)).mono ?_; rintro e w1 ⟨rfl, hD, hb1⟩))
  have hR := DtCal.right_iff.1 hD.1
  have hm12 := DtCal.right_month hD.1
  have hl31 := DtCal.len_bd (DtCal.ofD (t / 86400)).1 (DtCal.ofD (t / 86400)).2.1
  clear hD
  have HT : Hid (DtCal.text t = DtCal.textOf (DtCal.ofD (t / 86400)) (t % 86400)) := rfl
  generalize hp : DtCal.ofD (t / 86400) = p at *
  obtain ⟨y, m, d⟩ := p
  clear hp
  generalize hs : t % 86400 = s at *
  have hs0 : 0 ≤ s := by omega
  have hs1 : s < 86400 := by omega
  clear hs
  simp only at hR hm12 hl31
  obtain ⟨r1, r2, r3, r4, r5⟩ := hR
  have q1 : IntKind.i64.wrap (s.tdiv 3600) = s / 3600 := by rw [Int.tdiv_eq_ediv_of_nonneg hs0]; exact IntWalk.i64_in _ (by omega)
  have q2 : IntKind.i64.wrap (s.tdiv 60) = s / 60 := by rw [Int.tdiv_eq_ediv_of_nonneg hs0]; exact IntWalk.i64_in _ (by omega)
  have q3 : (s / 60).tmod 60 = s / 60 % 60 := Int.tmod_eq_emod_of_nonneg (by omega)
  have q4 : s.tmod 60 = s % 60 := Int.tmod_eq_emod_of_nonneg hs0
  have b3 : 0 ≤ s / 3600 ∧ s / 3600 ≤ 99999 := by omega
  have b4 : 0 ≤ s / 60 % 60 ∧ s / 60 % 60 ≤ 99999 := by omega
  have b5 : 0 ≤ s % 60 ∧ s % 60 ≤ 99999 := by omega
  have Q1 := Lib.hid q1
  have hsz := hb1.size
  have hB : Below w.heap.size w (w1.alloc (.cells #[.int .i64 y, .int .i64 m, .int .i64 d] 124)).drew := (hb1.alloc hsz _).drew
  have hT : Tab (w1.alloc (.cells #[.int .i64 y, .int .i64 m, .int .i64 d] 124)).drew := (ht.next hB)
  go_region_held3 (fun w' => w'.cell? ⟨w1.heap.size, 0, none⟩ = some (.int .i64 y) ∧ w'.cell? ⟨w1.heap.size, 1, none⟩ = some (.int .i64 m) ∧ w'.cell? ⟨w1.heap.size, 2, none⟩ = some (.int .i64 d) ∧ Below w.heap.size w w' ∧ Tab w')
    (first | exact ⟨by go_simp, by go_simp, by go_simp, hB, hT⟩ | assumption | exact ⟨cell_next hb2 (‹_ ∧ _ ∧ _ ∧ Below _ _ _ ∧ Tab _›).1, cell_next hb2 (‹_ ∧ _ ∧ _ ∧ Below _ _ _ ∧ Tab _›).2.1, cell_next hb2 (‹_ ∧ _ ∧ _ ∧ Below _ _ _ ∧ Tab _›).2.2.1, Below.next (‹_ ∧ _ ∧ _ ∧ Below _ _ _ ∧ Tab _›).2.2.2.1 hb2 (Nat.le_refl _), Tab.next (‹_ ∧ _ ∧ _ ∧ Below _ _ _ ∧ Tab _›).2.2.2.2 hb2⟩)
    (first | (go_at_call 105; (with_reducible refine (pad2_any _ _ (by omega) (by omega) (‹_ ∧ _ ∧ _ ∧ Below _ _ _ ∧ Tab _›).2.2.2.2).mono ?_); rintro e w2 ⟨rfl, hb2⟩) | (go_at_call 105; (with_reducible refine (pad4_any _ _ (by omega) (by omega) (‹_ ∧ _ ∧ _ ∧ Below _ _ _ ∧ Tab _›).2.2.2.2).mono ?_); rintro e w2 ⟨rfl, hb2⟩))
  go_wp2
  go_ret2
  refine ⟨?_, (‹_ ∧ _ ∧ _ ∧ Below _ _ _ ∧ Tab _›).2.2.2.1⟩
  rw [HT.out]
  refine congrArg (fun z => Ending.returned (.tuple #[.string z, .int .i64 0])) (a₁ := _ ++ _) ?_
  apply ByteArray.ext
  simp
  rfl
theorem print_any (t : Int) (w : World) (ht : Tab w) :
    Calls Tryz.prog 72 #[.int .i64 t] w fun e w' => e = .returned (.tuple #[.string ⟨(if 0 ≤ t ∧ t < 253402300800 then DtCal.text t else []).toArray⟩, .int .i64 (if 0 ≤ t ∧ t < 253402300800 then 0 else 1)]) ∧ Below w.heap.size w w' := by
  by_cases h : 0 ≤ t ∧ t < 253402300800
  · rw [if_pos h, if_pos h]; exact print_yes t w h.1 h.2 ht
  · rw [if_neg h, if_neg h]; exact (print_no t w (by omega)).mono fun e w' ⟨a, b⟩ => ⟨a, b ▸ Below.refl _ _⟩
end Go.Proofs.YtllhbcpbihhdnaaGreatDoor
