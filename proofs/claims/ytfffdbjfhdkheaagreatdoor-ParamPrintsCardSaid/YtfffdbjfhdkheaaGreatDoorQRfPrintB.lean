/-
  Lemmas on the way to DateTells (RfPrint): the reference's text of a time.
-/
import Derived.Test.YtfffdbjfhdkheaaGreatDoorQRfOf
import Derived.Test.YtfffdbjfhdkheaaGreatDoorQRfDigB
import Derived.IntWalk
set_option linter.unusedVariables false
set_option linter.unusedSimpArgs false
namespace Go.Proofs.YtfffdbjfhdkheaaGreatDoor
open Go.RowKit
set_option maxRecDepth 100000
theorem rf_dig4 (n : Int) (w : World) (h0 : 0 ≤ n) (h1 : n ≤ 99999) :
    Calls Tryz.prog 72 #[.int .i64 n, .int .i64 4] w fun e w' => e = .returned (.string ⟨#[DtCal.dg (n / 1000), DtCal.dg (n / 100), DtCal.dg (n / 10), DtCal.dg n]⟩) ∧ Below w.heap.size w w' := by
  have := rf_digits n 4 w h0 h1 (by omega)
  rwa [DtCal.digs4 n] at this
theorem rf_dig2 (n : Int) (w : World) (h0 : 0 ≤ n) (h1 : n ≤ 99999) :
    Calls Tryz.prog 72 #[.int .i64 n, .int .i64 2] w fun e w' => e = .returned (.string ⟨#[DtCal.dg (n / 10), DtCal.dg n]⟩) ∧ Below w.heap.size w w' := by
  have := rf_digits n 2 w h0 h1 (by omega)
  rwa [DtCal.digs2 n] at this
set_option maxHeartbeats 2000000 in
theorem rf_print_no (t : Int) (w : World) (h : t < 0 ∨ 253402300800 ≤ t) :
    Calls Tryz.prog 28 #[.int .i64 t] w fun e w' => e = .returned (.tuple #[.string ⟨#[]⟩, .int .i64 1]) ∧ w' = w := by
  rcases h with h | h
  · go_enter Tryz.func28, Tryz.ntmps28
    go_wp2
    go_ret2
    exact ⟨rfl, rfl⟩
  · go_enter Tryz.func28, Tryz.ntmps28
    go_wp2
    go_ret2
    exact ⟨rfl, rfl⟩
set_option maxHeartbeats 1000000 in
theorem rf_print_yes (t : Int) (w : World) (h0 : 0 ≤ t) (h1 : t < 253402300800) :
    Calls Tryz.prog 28 #[.int .i64 t] w fun e w' => e = .returned (.tuple #[.string ⟨(DtCal.text t).toArray⟩, .int .i64 0]) ∧ Below w.heap.size w w' := by
  have hD := DtCal.ofD_is (t / 86400) (by omega) (by omega)
  go_enter Tryz.func28, Tryz.ntmps28
  go_wp2_with (first | (go_at_call 71; refine (rf_of_yes _ _ (by omega) (by omega)).mono ?_; rintro e w1 ⟨rfl, hb1⟩))
  have hR := DtCal.right_iff.1 hD.1
  have hm12 := DtCal.right_month hD.1
  have hl31 := DtCal.len_bd (DtCal.ofD (t / 86400)).1 (DtCal.ofD (t / 86400)).2.1
  clear hD
  have HT : Hid (DtCal.text t = DtCal.textOf (DtCal.ofD (t / 86400)) (t % 86400)) := rfl
  generalize hp : DtCal.ofD (t / 86400) = p at *
  obtain ⟨y, m, d⟩ := p
  clear hp
  generalize hs : t % 86400 = s at *
  have hs0 : 0 ≤ s := by omega
  have hs1 : s < 86400 := by omega
  clear hs
  simp only at hR hm12 hl31
  obtain ⟨r1, r2, r3, r4, r5⟩ := hR
  have q1 : IntKind.i64.wrap (s.tdiv 3600) = s / 3600 := by rw [Int.tdiv_eq_ediv_of_nonneg hs0]; exact IntWalk.i64_in _ (by omega)
  have q3 : s.tmod 3600 = s % 3600 := Int.tmod_eq_emod_of_nonneg hs0
  have q2 : IntKind.i64.wrap ((s % 3600).tdiv 60) = s / 60 % 60 := by rw [Int.tdiv_eq_ediv_of_nonneg (by omega), show s % 3600 / 60 = s / 60 % 60 by omega]; exact IntWalk.i64_in _ (by omega)
  have q4 : s.tmod 60 = s % 60 := Int.tmod_eq_emod_of_nonneg hs0
  have b3 : 0 ≤ s / 3600 ∧ s / 3600 ≤ 99999 := by omega
  have b4 : 0 ≤ s / 60 % 60 ∧ s / 60 % 60 ≤ 99999 := by omega
  have b5 : 0 ≤ s % 60 ∧ s % 60 ≤ 99999 := by omega
  have hsz := hb1.size
  have hB : Below w.heap.size w (w1.alloc (.cells #[.int .i64 y, .int .i64 m, .int .i64 d] 107)).drew := (hb1.alloc hsz _).drew
  go_region_held3 (fun w' => w'.cell? ⟨w1.heap.size, 0, none⟩ = some (.int .i64 y) ∧ w'.cell? ⟨w1.heap.size, 1, none⟩ = some (.int .i64 m) ∧ w'.cell? ⟨w1.heap.size, 2, none⟩ = some (.int .i64 d) ∧ Below w.heap.size w w')
    (first | exact ⟨by go_simp, by go_simp, by go_simp, hB⟩ | assumption | exact ⟨cell_next hb2 (‹_ ∧ _ ∧ _ ∧ Below _ _ _›).1, cell_next hb2 (‹_ ∧ _ ∧ _ ∧ Below _ _ _›).2.1, cell_next hb2 (‹_ ∧ _ ∧ _ ∧ Below _ _ _›).2.2.1, Below.next (‹_ ∧ _ ∧ _ ∧ Below _ _ _›).2.2.2 hb2 (Nat.le_refl _)⟩)
    (first | (go_at_call 72; (with_reducible refine (rf_dig2 _ _ (by omega) (by omega)).mono ?_); rintro e w2 ⟨rfl, hb2⟩) | (go_at_call 72; (with_reducible refine (rf_dig4 _ _ (by omega) (by omega)).mono ?_); rintro e w2 ⟨rfl, hb2⟩))
  go_wp2
  go_ret2
  refine ⟨?_, (‹_ ∧ _ ∧ _ ∧ Below _ _ _›).2.2.2⟩
  rw [HT.out]
  refine congrArg (fun z => Ending.returned (.tuple #[.string z, .int .i64 0])) (a₁ := _ ++ _) ?_
  apply ByteArray.ext
  simp
  rfl
theorem rf_print (t : Int) (w : World) :
    Calls Tryz.prog 28 #[.int .i64 t] w fun e w' => e = .returned (.tuple #[.string ⟨(if 0 ≤ t ∧ t < 253402300800 then DtCal.text t else []).toArray⟩, .int .i64 (if 0 ≤ t ∧ t < 253402300800 then 0 else 1)]) ∧ Below w.heap.size w w' := by
  by_cases h : 0 ≤ t ∧ t < 253402300800
  · rw [if_pos h, if_pos h]; exact rf_print_yes t w h.1 h.2
  · rw [if_neg h, if_neg h]; exact (rf_print_no t w (by omega)).mono fun e w' ⟨a, b⟩ => ⟨a, b ▸ Below.refl _ _⟩
end Go.Proofs.YtfffdbjfhdkheaaGreatDoor
