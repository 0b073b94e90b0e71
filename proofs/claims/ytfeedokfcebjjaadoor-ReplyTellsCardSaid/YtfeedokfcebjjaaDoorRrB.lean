/-
  Walks of the package reply: the reference's word, fits, shown, code.
-/
import Derived.Test.YtfeedokfcebjjaaDoorRrA
import Derived.Test.YtfeedokfcebjjaaDoorRpLine
import Derived.Test.YtfeedokfcebjjaaDoorRpEnh
import Derived.Test.YtfeedokfcebjjaaDoorQuiet2
import Derived.Test.YtfeedokfcebjjaaDoorMem3
set_option linter.unusedVariables false
set_option linter.unusedSimpArgs false
namespace Go.Proofs.YtfeedokfcebjjaaDoor
open Go.RowKit
set_option maxRecDepth 100000
attribute [local go_sem] equal3
set_option maxHeartbeats 4000000 in
theorem word_any (a b c : Int) (w : World) (a0 : 0 ≤ a) (a1 : a ≤ 9223372036854775807) (b0 : 0 ≤ b) (b1 : b ≤ 9223372036854775807) (c0 : 0 ≤ c) (c1 : c ≤ 9223372036854775807) : Calls Tryd.prog 34 #[.agg #[.int .i64 a, .int .i64 b, .int .i64 c]] w fun e w' => e = .returned (.string ⟨(Rp.enh a b c).toArray⟩) ∧ Below w.heap.size w w' := by
  have M : Aside (Mine w [(w.heap.size, #[.int .i64 a, .int .i64 b, .int .i64 c], 23)] (w.alloc (.cells #[.int .i64 a, .int .i64 b, .int .i64 c] 23))) := ⟨(Mine.start w).alloc _ _⟩
  unfold Rp.enh
  cases h : Rp.none3 a b c with
  | true =>
    rw [if_pos rfl]
    go_enter Tryd.func34, Tryd.ntmps34
    go_wp2_with (go_at_call 52; (with_reducible refine (rnone_any a b c _).mono ?_); rintro e w1 ⟨rfl, hb⟩; rw [h]; replace M := Aside.mk (M.out.next hb); clear hb; have z0 := Mine.at M.out 0 _ rfl; have z1 := Mine.at M.out 1 _ rfl; have z2 := Mine.at M.out 2 _ rfl; have zl := Mine.lt M.out)
    go_ret
    exact ⟨rfl, M.out.low⟩
  | false =>
    rw [if_neg (by simp)]
    have la := Lib.itoa_length_le a (by omega) a1
    have lb := Lib.itoa_length_le b (by omega) b1
    have lc := Lib.itoa_length_le c (by omega) c1
    go_enter Tryd.func34, Tryd.ntmps34
    go_wp2_with (go_at_call 52; (with_reducible refine (rnone_any a b c _).mono ?_); rintro e w1 ⟨rfl, hb⟩; rw [h]; replace M := Aside.mk (M.out.next hb); clear hb; have z0 := Mine.at M.out 0 _ rfl; have z1 := Mine.at M.out 1 _ rfl; have z2 := Mine.at M.out 2 _ rfl; have zl := Mine.lt M.out)
    refine region_class (C := (fun w' => w'.cell? ⟨w.heap.size, 0, none⟩ = some (.int .i64 a) ∧ w'.cell? ⟨w.heap.size, 1, none⟩ = some (.int .i64 b) ∧ w'.cell? ⟨w.heap.size, 2, none⟩ = some (.int .i64 c) ∧ Below w.heap.size w w')) (by kernel_rfl) (by kernel_rfl) ⟨(M.out.drewN 1).at 0 _ rfl, (M.out.drewN 1).at 1 _ rfl, (M.out.drewN 1).at 2 _ rfl, (M.out.drewN 1).low⟩ ?_
    refine q_run ?_ ?_ ?_ ?_
    · kernel_rfl
    rotate_left
    · intro w_ hw_
      obtain ⟨c0, c1, c2, cb⟩ := hw_
      first | (go_simp; done) | (go_simp; with_reducible rfl) | (go_simp; rw [if_neg (by first | omega | (simp; omega))])
    try simp only [Act.put, List.setIfInBounds_toArray, List.set_cons_zero, List.set_cons_succ]
    refine q_run ?_ ?_ ?_ ?_
    · kernel_rfl
    rotate_left
    · intro w_ hw_
      obtain ⟨c0, c1, c2, cb⟩ := hw_
      first | (go_simp; done) | (go_simp; with_reducible rfl) | (go_simp; rw [if_neg (by first | omega | (simp; omega))])
    try simp only [Act.put, List.setIfInBounds_toArray, List.set_cons_zero, List.set_cons_succ]
    refine q_call ?_ ((.string ⟨(Lib.itoa a).toArray⟩)) ?_ ?_ ?_ ?_ ?_
    · kernel_rfl
    rotate_left 2
    · intro w_ hw_
      go_simp
      refine ⟨?_, ?_⟩ <;> with_reducible rfl
    · intro w_ hw_
      obtain ⟨c0, c1, c2, cb⟩ := hw_
      exact (digits_any a (by omega) (by omega) _).mono fun _ _ ⟨h1_, h2_⟩ => ⟨h1_, cell_next h2_ c0, cell_next h2_ c1, cell_next h2_ c2, Below.next cb h2_ (Nat.le_refl _)⟩
    try simp only [Act.put, List.setIfInBounds_toArray, List.set_cons_zero, List.set_cons_succ]
    refine q_run ?_ ?_ ?_ ?_
    · kernel_rfl
    rotate_left
    · intro w_ hw_
      obtain ⟨c0, c1, c2, cb⟩ := hw_
      first | (go_simp; done) | (go_simp; with_reducible rfl) | (go_simp; rw [if_neg (by first | omega | (simp; omega))])
    try simp only [Act.put, List.setIfInBounds_toArray, List.set_cons_zero, List.set_cons_succ]
    refine q_run ?_ ?_ ?_ ?_
    · kernel_rfl
    rotate_left
    · intro w_ hw_
      obtain ⟨c0, c1, c2, cb⟩ := hw_
      first | (go_simp; done) | (go_simp; with_reducible rfl) | (go_simp; rw [if_neg (by first | omega | (simp; omega))])
    try simp only [Act.put, List.setIfInBounds_toArray, List.set_cons_zero, List.set_cons_succ]
    refine q_run ?_ ?_ ?_ ?_
    · kernel_rfl
    rotate_left
    · intro w_ hw_
      obtain ⟨c0, c1, c2, cb⟩ := hw_
      first | (go_simp; done) | (go_simp; with_reducible rfl) | (go_simp; rw [if_neg (by first | omega | (simp; omega))])
    try simp only [Act.put, List.setIfInBounds_toArray, List.set_cons_zero, List.set_cons_succ]
    refine q_call ?_ ((.string ⟨(Lib.itoa b).toArray⟩)) ?_ ?_ ?_ ?_ ?_
    · kernel_rfl
    rotate_left 2
    · intro w_ hw_
      go_simp
      refine ⟨?_, ?_⟩ <;> with_reducible rfl
    · intro w_ hw_
      obtain ⟨c0, c1, c2, cb⟩ := hw_
      exact (digits_any b (by omega) (by omega) _).mono fun _ _ ⟨h1_, h2_⟩ => ⟨h1_, cell_next h2_ c0, cell_next h2_ c1, cell_next h2_ c2, Below.next cb h2_ (Nat.le_refl _)⟩
    try simp only [Act.put, List.setIfInBounds_toArray, List.set_cons_zero, List.set_cons_succ]
    refine q_run ?_ ?_ ?_ ?_
    · kernel_rfl
    rotate_left
    · intro w_ hw_
      obtain ⟨c0, c1, c2, cb⟩ := hw_
      first | (go_simp; done) | (go_simp; with_reducible rfl) | (go_simp; rw [if_neg (by first | omega | (simp; omega))])
    try simp only [Act.put, List.setIfInBounds_toArray, List.set_cons_zero, List.set_cons_succ]
    refine q_run ?_ ?_ ?_ ?_
    · kernel_rfl
    rotate_left
    · intro w_ hw_
      obtain ⟨c0, c1, c2, cb⟩ := hw_
      first | (go_simp; done) | (go_simp; with_reducible rfl) | (go_simp; rw [if_neg (by first | omega | (simp; omega))])
    try simp only [Act.put, List.setIfInBounds_toArray, List.set_cons_zero, List.set_cons_succ]
    refine q_run ?_ ?_ ?_ ?_
    · kernel_rfl
    rotate_left
    · intro w_ hw_
      obtain ⟨c0, c1, c2, cb⟩ := hw_
      first | (go_simp; done) | (go_simp; with_reducible rfl) | (go_simp; rw [if_neg (by first | omega | (simp; omega))])
    try simp only [Act.put, List.setIfInBounds_toArray, List.set_cons_zero, List.set_cons_succ]
    refine q_run ?_ ?_ ?_ ?_
    · kernel_rfl
    rotate_left
    · intro w_ hw_
      obtain ⟨c0, c1, c2, cb⟩ := hw_
      first | (go_simp; done) | (go_simp; with_reducible rfl) | (go_simp; rw [if_neg (by first | omega | (simp; omega))])
    try simp only [Act.put, List.setIfInBounds_toArray, List.set_cons_zero, List.set_cons_succ]
    refine q_call ?_ ((.string ⟨(Lib.itoa c).toArray⟩)) ?_ ?_ ?_ ?_ ?_
    · kernel_rfl
    rotate_left 2
    · intro w_ hw_
      go_simp
      refine ⟨?_, ?_⟩ <;> with_reducible rfl
    · intro w_ hw_
      obtain ⟨c0, c1, c2, cb⟩ := hw_
      exact (digits_any c (by omega) (by omega) _).mono fun _ _ ⟨h1_, h2_⟩ => ⟨h1_, cell_next h2_ c0, cell_next h2_ c1, cell_next h2_ c2, Below.next cb h2_ (Nat.le_refl _)⟩
    try simp only [Act.put, List.setIfInBounds_toArray, List.set_cons_zero, List.set_cons_succ]
    refine q_run ?_ ?_ ?_ ?_
    · kernel_rfl
    rotate_left
    · intro w_ hw_
      obtain ⟨c0, c1, c2, cb⟩ := hw_
      first | (go_simp; done) | (go_simp; with_reducible rfl) | (go_simp; rw [if_neg (by first | omega | (simp; omega))])
    try simp only [Act.put, List.setIfInBounds_toArray, List.set_cons_zero, List.set_cons_succ]
    refine q_run ?_ ?_ ?_ ?_
    · kernel_rfl
    rotate_left
    · intro w_ hw_
      obtain ⟨c0, c1, c2, cb⟩ := hw_
      first | (go_simp; done) | (go_simp; with_reducible rfl) | (go_simp; rw [if_neg (by first | omega | (simp; omega))])
    try simp only [Act.put, List.setIfInBounds_toArray, List.set_cons_zero, List.set_cons_succ]
    refine q_run ?_ ?_ ?_ ?_
    · kernel_rfl
    rotate_left
    · intro w_ hw_
      obtain ⟨c0, c1, c2, cb⟩ := hw_
      first | (go_simp; done) | (go_simp; with_reducible rfl) | (go_simp; rw [if_neg (by first | omega | (simp; omega))])
    try simp only [Act.put, List.setIfInBounds_toArray, List.set_cons_zero, List.set_cons_succ]
    refine q_nil ?_
    intro W_ hC_
    go_wp2
    go_ret
    exact ⟨ret_str (ByteArray.ext (by simp)), hC_.2.2.2⟩
set_option maxHeartbeats 4000000 in
theorem rfits_g0k0 (code a b c : Int) (h : Rp.none3 a b c = false) (p0 : (a == 2) = true) (h0 : ((a : Int) == Rp.cls code) = false) (w : World) : Calls Tryd.prog 37 #[.int .i64 code, .agg #[.int .i64 a, .int .i64 b, .int .i64 c]] w fun e w' => e = .returned (.bool false) ∧ Below w.heap.size w w' := by
  have M : Aside (Mine w [(w.heap.size, #[.int .i64 a, .int .i64 b, .int .i64 c], 23)] (w.alloc (.cells #[.int .i64 a, .int .i64 b, .int .i64 c] 23))) := ⟨(Mine.start w).alloc _ _⟩
  go_enter Tryd.func37, Tryd.ntmps37
  go_wp2_with (go_at_call 52; (with_reducible refine (rnone_any a b c _).mono ?_); rintro e w1 ⟨rfl, hb⟩; rw [h]; replace M := Aside.mk (M.out.next hb); clear hb; have z0 := Mine.at M.out 0 _ rfl; have z1 := Mine.at M.out 1 _ rfl; have z2 := Mine.at M.out 2 _ rfl; have zl := Mine.lt M.out)
  refine region_class (C := (fun w' => w'.cell? ⟨w.heap.size, 0, none⟩ = some (.int .i64 a) ∧ w'.cell? ⟨w.heap.size, 1, none⟩ = some (.int .i64 b) ∧ w'.cell? ⟨w.heap.size, 2, none⟩ = some (.int .i64 c) ∧ Below w.heap.size w w')) (by kernel_rfl) (by kernel_rfl) ⟨(M.out.drewN 1).at 0 _ rfl, (M.out.drewN 1).at 1 _ rfl, (M.out.drewN 1).at 2 _ rfl, (M.out.drewN 1).low⟩ ?_
  refine q_run ?_ ?_ ?_ ?_
  · kernel_rfl
  rotate_left
  · intro w_ hw_
    obtain ⟨c0, c1, c2, cb⟩ := hw_
    first | (go_simp; done) | (go_simp; with_reducible rfl) | (go_simp; rw [if_neg (by first | omega | (simp; omega))])
  try simp only [Act.put, List.setIfInBounds_toArray, List.set_cons_zero, List.set_cons_succ]
  try simp only [p0, h0]
  refine q_run ?_ ?_ ?_ ?_
  · kernel_rfl
  rotate_left
  · intro w_ hw_
    obtain ⟨c0, c1, c2, cb⟩ := hw_
    first | (go_simp; done) | (go_simp; with_reducible rfl) | (go_simp; rw [if_neg (by first | omega | (simp; omega))])
  try simp only [Act.put, List.setIfInBounds_toArray, List.set_cons_zero, List.set_cons_succ]
  try simp only [p0, h0]
  refine q_run ?_ ?_ ?_ ?_
  · kernel_rfl
  rotate_left
  · intro w_ hw_
    obtain ⟨c0, c1, c2, cb⟩ := hw_
    first | (go_simp; done) | (go_simp; with_reducible rfl) | (go_simp; rw [if_neg (by first | omega | (simp; omega))])
  try simp only [Act.put, List.setIfInBounds_toArray, List.set_cons_zero, List.set_cons_succ]
  try simp only [p0, h0]
  refine q_run ?_ ?_ ?_ ?_
  · kernel_rfl
  rotate_left
  · intro w_ hw_
    obtain ⟨c0, c1, c2, cb⟩ := hw_
    first | (go_simp; done) | (go_simp; with_reducible rfl) | (go_simp; rw [if_neg (by first | omega | (simp; omega))])
  try simp only [Act.put, List.setIfInBounds_toArray, List.set_cons_zero, List.set_cons_succ]
  try simp only [p0, h0]
  first
   | (refine q_skip ?_ ?_
      · rfl)
   | (refine q_run ?_ ?_ ?_ ?_
      · kernel_rfl
      rotate_left
      · intro w_ hw_
        obtain ⟨c0, c1, c2, cb⟩ := hw_
        first | (go_simp; done) | (go_simp; with_reducible rfl) | (go_simp; rw [if_neg (by first | omega | (simp; omega))]))
  try simp only [Act.put, List.setIfInBounds_toArray, List.set_cons_zero, List.set_cons_succ]
  try simp only [p0, h0]
  first
   | (refine q_skip ?_ ?_
      · rfl)
   | (refine q_run ?_ ?_ ?_ ?_
      · kernel_rfl
      rotate_left
      · intro w_ hw_
        obtain ⟨c0, c1, c2, cb⟩ := hw_
        first | (go_simp; done) | (go_simp; with_reducible rfl) | (go_simp; rw [if_neg (by first | omega | (simp; omega))]))
  try simp only [Act.put, List.setIfInBounds_toArray, List.set_cons_zero, List.set_cons_succ]
  try simp only [p0, h0]
  first
   | (refine q_skip ?_ ?_
      · rfl)
   | (refine q_run ?_ ?_ ?_ ?_
      · kernel_rfl
      rotate_left
      · intro w_ hw_
        obtain ⟨c0, c1, c2, cb⟩ := hw_
        first | (go_simp; done) | (go_simp; with_reducible rfl) | (go_simp; rw [if_neg (by first | omega | (simp; omega))]))
  try simp only [Act.put, List.setIfInBounds_toArray, List.set_cons_zero, List.set_cons_succ]
  try simp only [p0, h0]
  refine q_run ?_ ?_ ?_ ?_
  · kernel_rfl
  rotate_left
  · intro w_ hw_
    obtain ⟨c0, c1, c2, cb⟩ := hw_
    first | (go_simp; done) | (go_simp; with_reducible rfl) | (go_simp; rw [if_neg (by first | omega | (simp; omega))])
  try simp only [Act.put, List.setIfInBounds_toArray, List.set_cons_zero, List.set_cons_succ]
  try simp only [p0, h0]
  refine q_run ?_ ?_ ?_ ?_
  · kernel_rfl
  rotate_left
  · intro w_ hw_
    obtain ⟨c0, c1, c2, cb⟩ := hw_
    first | (go_simp; done) | (go_simp; with_reducible rfl) | (go_simp; rw [if_neg (by first | omega | (simp; omega))])
  try simp only [Act.put, List.setIfInBounds_toArray, List.set_cons_zero, List.set_cons_succ]
  try simp only [p0, h0]
  first
   | (refine q_skip ?_ ?_
      · rfl)
   | (refine q_run ?_ ?_ ?_ ?_
      · kernel_rfl
      rotate_left
      · intro w_ hw_
        obtain ⟨c0, c1, c2, cb⟩ := hw_
        first | (go_simp; done) | (go_simp; with_reducible rfl) | (go_simp; rw [if_neg (by first | omega | (simp; omega))]))
  try simp only [Act.put, List.setIfInBounds_toArray, List.set_cons_zero, List.set_cons_succ]
  try simp only [p0, h0]
  first
   | (refine q_skip ?_ ?_
      · rfl)
   | (refine q_run ?_ ?_ ?_ ?_
      · kernel_rfl
      rotate_left
      · intro w_ hw_
        obtain ⟨c0, c1, c2, cb⟩ := hw_
        first | (go_simp; done) | (go_simp; with_reducible rfl) | (go_simp; rw [if_neg (by first | omega | (simp; omega))]))
  try simp only [Act.put, List.setIfInBounds_toArray, List.set_cons_zero, List.set_cons_succ]
  try simp only [p0, h0]
  first
   | (refine q_skip ?_ ?_
      · rfl)
   | (refine q_run ?_ ?_ ?_ ?_
      · kernel_rfl
      rotate_left
      · intro w_ hw_
        obtain ⟨c0, c1, c2, cb⟩ := hw_
        first | (go_simp; done) | (go_simp; with_reducible rfl) | (go_simp; rw [if_neg (by first | omega | (simp; omega))]))
  try simp only [Act.put, List.setIfInBounds_toArray, List.set_cons_zero, List.set_cons_succ]
  try simp only [p0, h0]
  refine q_run ?_ ?_ ?_ ?_
  · kernel_rfl
  rotate_left
  · intro w_ hw_
    obtain ⟨c0, c1, c2, cb⟩ := hw_
    first | (go_simp; done) | (go_simp; with_reducible rfl) | (go_simp; rw [if_neg (by first | omega | (simp; omega))])
  try simp only [Act.put, List.setIfInBounds_toArray, List.set_cons_zero, List.set_cons_succ]
  try simp only [p0, h0]
  refine q_run ?_ ?_ ?_ ?_
  · kernel_rfl
  rotate_left
  · intro w_ hw_
    obtain ⟨c0, c1, c2, cb⟩ := hw_
    first | (go_simp; done) | (go_simp; with_reducible rfl) | (go_simp; rw [if_neg (by first | omega | (simp; omega))])
  try simp only [Act.put, List.setIfInBounds_toArray, List.set_cons_zero, List.set_cons_succ]
  try simp only [p0, h0]
  first
   | (refine q_skip ?_ ?_
      · rfl)
   | (refine q_run ?_ ?_ ?_ ?_
      · kernel_rfl
      rotate_left
      · intro w_ hw_
        obtain ⟨c0, c1, c2, cb⟩ := hw_
        first | (go_simp; done) | (go_simp; with_reducible rfl) | (go_simp; rw [if_neg (by first | omega | (simp; omega))]))
  try simp only [Act.put, List.setIfInBounds_toArray, List.set_cons_zero, List.set_cons_succ]
  try simp only [p0, h0]
  first
   | (refine q_skip ?_ ?_
      · rfl)
   | (refine q_run ?_ ?_ ?_ ?_
      · kernel_rfl
      rotate_left
      · intro w_ hw_
        obtain ⟨c0, c1, c2, cb⟩ := hw_
        first | (go_simp; done) | (go_simp; with_reducible rfl) | (go_simp; rw [if_neg (by first | omega | (simp; omega))]))
  try simp only [Act.put, List.setIfInBounds_toArray, List.set_cons_zero, List.set_cons_succ]
  try simp only [p0, h0]
  first
   | (refine q_skip ?_ ?_
      · rfl)
   | (refine q_run ?_ ?_ ?_ ?_
      · kernel_rfl
      rotate_left
      · intro w_ hw_
        obtain ⟨c0, c1, c2, cb⟩ := hw_
        first | (go_simp; done) | (go_simp; with_reducible rfl) | (go_simp; rw [if_neg (by first | omega | (simp; omega))]))
  try simp only [Act.put, List.setIfInBounds_toArray, List.set_cons_zero, List.set_cons_succ]
  try simp only [p0, h0]
  first
   | (refine q_skip ?_ ?_
      · rfl)
   | (refine q_call ?_ (.int .i64 (Rp.cls code)) ?_ ?_ ?_ ?_ ?_
      · kernel_rfl
      rotate_left 2
      · intro w_ hw_
        go_simp
        refine ⟨?_, ?_⟩ <;> with_reducible rfl
      · intro w_ hw_
        obtain ⟨c0, c1, c2, cb⟩ := hw_
        exact ((rclass_any _ _).mono fun _ _ ⟨h1, h2⟩ => ⟨h1, h2 ▸ ⟨c0, c1, c2, cb⟩⟩))
  try simp only [Act.put, List.setIfInBounds_toArray, List.set_cons_zero, List.set_cons_succ]
  try simp only [p0, h0]
  first
   | (refine q_skip ?_ ?_
      · rfl)
   | (refine q_run ?_ ?_ ?_ ?_
      · kernel_rfl
      rotate_left
      · intro w_ hw_
        obtain ⟨c0, c1, c2, cb⟩ := hw_
        first | (go_simp; done) | (go_simp; with_reducible rfl) | (go_simp; rw [if_neg (by first | omega | (simp; omega))]))
  try simp only [Act.put, List.setIfInBounds_toArray, List.set_cons_zero, List.set_cons_succ]
  try simp only [p0, h0]
  refine q_run ?_ ?_ ?_ ?_
  · kernel_rfl
  rotate_left
  · intro w_ hw_
    obtain ⟨c0, c1, c2, cb⟩ := hw_
    first | (go_simp; done) | (go_simp; with_reducible rfl) | (go_simp; rw [if_neg (by first | omega | (simp; omega))])
  try simp only [Act.put, List.setIfInBounds_toArray, List.set_cons_zero, List.set_cons_succ]
  try simp only [p0, h0]
  refine q_run ?_ ?_ ?_ ?_
  · kernel_rfl
  rotate_left
  · intro w_ hw_
    obtain ⟨c0, c1, c2, cb⟩ := hw_
    first | (go_simp; done) | (go_simp; with_reducible rfl) | (go_simp; rw [if_neg (by first | omega | (simp; omega))])
  try simp only [Act.put, List.setIfInBounds_toArray, List.set_cons_zero, List.set_cons_succ]
  try simp only [p0, h0]
  first
   | (refine q_skip ?_ ?_
      · rfl)
   | (refine q_run ?_ ?_ ?_ ?_
      · kernel_rfl
      rotate_left
      · intro w_ hw_
        obtain ⟨c0, c1, c2, cb⟩ := hw_
        first | (go_simp; done) | (go_simp; with_reducible rfl) | (go_simp; rw [if_neg (by first | omega | (simp; omega))]))
  try simp only [Act.put, List.setIfInBounds_toArray, List.set_cons_zero, List.set_cons_succ]
  try simp only [p0, h0]
  first
   | (refine q_skip ?_ ?_
      · rfl)
   | (refine q_run ?_ ?_ ?_ ?_
      · kernel_rfl
      rotate_left
      · intro w_ hw_
        obtain ⟨c0, c1, c2, cb⟩ := hw_
        first | (go_simp; done) | (go_simp; with_reducible rfl) | (go_simp; rw [if_neg (by first | omega | (simp; omega))]))
  try simp only [Act.put, List.setIfInBounds_toArray, List.set_cons_zero, List.set_cons_succ]
  try simp only [p0, h0]
  first
   | (refine q_skip ?_ ?_
      · rfl)
   | (refine q_run ?_ ?_ ?_ ?_
      · kernel_rfl
      rotate_left
      · intro w_ hw_
        obtain ⟨c0, c1, c2, cb⟩ := hw_
        first | (go_simp; done) | (go_simp; with_reducible rfl) | (go_simp; rw [if_neg (by first | omega | (simp; omega))]))
  try simp only [Act.put, List.setIfInBounds_toArray, List.set_cons_zero, List.set_cons_succ]
  try simp only [p0, h0]
  refine q_run ?_ ?_ ?_ ?_
  · kernel_rfl
  rotate_left
  · intro w_ hw_
    obtain ⟨c0, c1, c2, cb⟩ := hw_
    first | (go_simp; done) | (go_simp; with_reducible rfl) | (go_simp; rw [if_neg (by first | omega | (simp; omega))])
  try simp only [Act.put, List.setIfInBounds_toArray, List.set_cons_zero, List.set_cons_succ]
  try simp only [p0, h0]
  refine q_run ?_ ?_ ?_ ?_
  · kernel_rfl
  rotate_left
  · intro w_ hw_
    obtain ⟨c0, c1, c2, cb⟩ := hw_
    first | (go_simp; done) | (go_simp; with_reducible rfl) | (go_simp; rw [if_neg (by first | omega | (simp; omega))])
  try simp only [Act.put, List.setIfInBounds_toArray, List.set_cons_zero, List.set_cons_succ]
  try simp only [p0, h0]
  first
   | (refine q_skip ?_ ?_
      · rfl)
   | (refine q_run ?_ ?_ ?_ ?_
      · kernel_rfl
      rotate_left
      · intro w_ hw_
        obtain ⟨c0, c1, c2, cb⟩ := hw_
        first | (go_simp; done) | (go_simp; with_reducible rfl) | (go_simp; rw [if_neg (by first | omega | (simp; omega))]))
  try simp only [Act.put, List.setIfInBounds_toArray, List.set_cons_zero, List.set_cons_succ]
  try simp only [p0, h0]
  first
   | (refine q_skip ?_ ?_
      · rfl)
   | (refine q_run ?_ ?_ ?_ ?_
      · kernel_rfl
      rotate_left
      · intro w_ hw_
        obtain ⟨c0, c1, c2, cb⟩ := hw_
        first | (go_simp; done) | (go_simp; with_reducible rfl) | (go_simp; rw [if_neg (by first | omega | (simp; omega))]))
  try simp only [Act.put, List.setIfInBounds_toArray, List.set_cons_zero, List.set_cons_succ]
  try simp only [p0, h0]
  first
   | (refine q_skip ?_ ?_
      · rfl)
   | (refine q_run ?_ ?_ ?_ ?_
      · kernel_rfl
      rotate_left
      · intro w_ hw_
        obtain ⟨c0, c1, c2, cb⟩ := hw_
        first | (go_simp; done) | (go_simp; with_reducible rfl) | (go_simp; rw [if_neg (by first | omega | (simp; omega))]))
  try simp only [Act.put, List.setIfInBounds_toArray, List.set_cons_zero, List.set_cons_succ]
  try simp only [p0, h0]
  refine q_run ?_ ?_ ?_ ?_
  · kernel_rfl
  rotate_left
  · intro w_ hw_
    obtain ⟨c0, c1, c2, cb⟩ := hw_
    first | (go_simp; done) | (go_simp; with_reducible rfl) | (go_simp; rw [if_neg (by first | omega | (simp; omega))])
  try simp only [Act.put, List.setIfInBounds_toArray, List.set_cons_zero, List.set_cons_succ]
  try simp only [p0, h0]
  refine q_run ?_ ?_ ?_ ?_
  · kernel_rfl
  rotate_left
  · intro w_ hw_
    obtain ⟨c0, c1, c2, cb⟩ := hw_
    first | (go_simp; done) | (go_simp; with_reducible rfl) | (go_simp; rw [if_neg (by first | omega | (simp; omega))])
  try simp only [Act.put, List.setIfInBounds_toArray, List.set_cons_zero, List.set_cons_succ]
  try simp only [p0, h0]
  first
   | (refine q_skip ?_ ?_
      · rfl)
   | (refine q_run ?_ ?_ ?_ ?_
      · kernel_rfl
      rotate_left
      · intro w_ hw_
        obtain ⟨c0, c1, c2, cb⟩ := hw_
        first | (go_simp; done) | (go_simp; with_reducible rfl) | (go_simp; rw [if_neg (by first | omega | (simp; omega))]))
  try simp only [Act.put, List.setIfInBounds_toArray, List.set_cons_zero, List.set_cons_succ]
  try simp only [p0, h0]
  first
   | (refine q_skip ?_ ?_
      · rfl)
   | (refine q_run ?_ ?_ ?_ ?_
      · kernel_rfl
      rotate_left
      · intro w_ hw_
        obtain ⟨c0, c1, c2, cb⟩ := hw_
        first | (go_simp; done) | (go_simp; with_reducible rfl) | (go_simp; rw [if_neg (by first | omega | (simp; omega))]))
  try simp only [Act.put, List.setIfInBounds_toArray, List.set_cons_zero, List.set_cons_succ]
  try simp only [p0, h0]
  first
   | (refine q_skip ?_ ?_
      · rfl)
   | (refine q_run ?_ ?_ ?_ ?_
      · kernel_rfl
      rotate_left
      · intro w_ hw_
        obtain ⟨c0, c1, c2, cb⟩ := hw_
        first | (go_simp; done) | (go_simp; with_reducible rfl) | (go_simp; rw [if_neg (by first | omega | (simp; omega))]))
  try simp only [Act.put, List.setIfInBounds_toArray, List.set_cons_zero, List.set_cons_succ]
  try simp only [p0, h0]
  refine q_run ?_ ?_ ?_ ?_
  · kernel_rfl
  rotate_left
  · intro w_ hw_
    obtain ⟨c0, c1, c2, cb⟩ := hw_
    first | (go_simp; done) | (go_simp; with_reducible rfl) | (go_simp; rw [if_neg (by first | omega | (simp; omega))])
  try simp only [Act.put, List.setIfInBounds_toArray, List.set_cons_zero, List.set_cons_succ]
  try simp only [p0, h0]
  refine q_run ?_ ?_ ?_ ?_
  · kernel_rfl
  rotate_left
  · intro w_ hw_
    obtain ⟨c0, c1, c2, cb⟩ := hw_
    first | (go_simp; done) | (go_simp; with_reducible rfl) | (go_simp; rw [if_neg (by first | omega | (simp; omega))])
  try simp only [Act.put, List.setIfInBounds_toArray, List.set_cons_zero, List.set_cons_succ]
  try simp only [p0, h0]
  first
   | (refine q_skip ?_ ?_
      · rfl)
   | (refine q_run ?_ ?_ ?_ ?_
      · kernel_rfl
      rotate_left
      · intro w_ hw_
        obtain ⟨c0, c1, c2, cb⟩ := hw_
        first | (go_simp; done) | (go_simp; with_reducible rfl) | (go_simp; rw [if_neg (by first | omega | (simp; omega))]))
  try simp only [Act.put, List.setIfInBounds_toArray, List.set_cons_zero, List.set_cons_succ]
  try simp only [p0, h0]
  first
   | (refine q_skip ?_ ?_
      · rfl)
   | (refine q_run ?_ ?_ ?_ ?_
      · kernel_rfl
      rotate_left
      · intro w_ hw_
        obtain ⟨c0, c1, c2, cb⟩ := hw_
        first | (go_simp; done) | (go_simp; with_reducible rfl) | (go_simp; rw [if_neg (by first | omega | (simp; omega))]))
  try simp only [Act.put, List.setIfInBounds_toArray, List.set_cons_zero, List.set_cons_succ]
  try simp only [p0, h0]
  first
   | (refine q_skip ?_ ?_
      · rfl)
   | (refine q_run ?_ ?_ ?_ ?_
      · kernel_rfl
      rotate_left
      · intro w_ hw_
        obtain ⟨c0, c1, c2, cb⟩ := hw_
        first | (go_simp; done) | (go_simp; with_reducible rfl) | (go_simp; rw [if_neg (by first | omega | (simp; omega))]))
  try simp only [Act.put, List.setIfInBounds_toArray, List.set_cons_zero, List.set_cons_succ]
  try simp only [p0, h0]
  refine q_run ?_ ?_ ?_ ?_
  · kernel_rfl
  rotate_left
  · intro w_ hw_
    obtain ⟨c0, c1, c2, cb⟩ := hw_
    first | (go_simp; done) | (go_simp; with_reducible rfl) | (go_simp; rw [if_neg (by first | omega | (simp; omega))])
  try simp only [Act.put, List.setIfInBounds_toArray, List.set_cons_zero, List.set_cons_succ]
  try simp only [p0, h0]
  refine q_run ?_ ?_ ?_ ?_
  · kernel_rfl
  rotate_left
  · intro w_ hw_
    obtain ⟨c0, c1, c2, cb⟩ := hw_
    first | (go_simp; done) | (go_simp; with_reducible rfl) | (go_simp; rw [if_neg (by first | omega | (simp; omega))])
  try simp only [Act.put, List.setIfInBounds_toArray, List.set_cons_zero, List.set_cons_succ]
  try simp only [p0, h0]
  refine q_nil ?_
  intro W_ hC_
  go_wp2
  go_ret
  exact ⟨rfl, hC_.2.2.2⟩
set_option maxHeartbeats 4000000 in
theorem rfits_g0k1 (code a b c : Int) (h : Rp.none3 a b c = false) (p0 : (a == 2) = true) (h0 : ((a : Int) == Rp.cls code) = true) (h1 : decide (0 ≤ b) = false) (w : World) : Calls Tryd.prog 37 #[.int .i64 code, .agg #[.int .i64 a, .int .i64 b, .int .i64 c]] w fun e w' => e = .returned (.bool false) ∧ Below w.heap.size w w' := by
  have M : Aside (Mine w [(w.heap.size, #[.int .i64 a, .int .i64 b, .int .i64 c], 23)] (w.alloc (.cells #[.int .i64 a, .int .i64 b, .int .i64 c] 23))) := ⟨(Mine.start w).alloc _ _⟩
  go_enter Tryd.func37, Tryd.ntmps37
  go_wp2_with (go_at_call 52; (with_reducible refine (rnone_any a b c _).mono ?_); rintro e w1 ⟨rfl, hb⟩; rw [h]; replace M := Aside.mk (M.out.next hb); clear hb; have z0 := Mine.at M.out 0 _ rfl; have z1 := Mine.at M.out 1 _ rfl; have z2 := Mine.at M.out 2 _ rfl; have zl := Mine.lt M.out)
  refine region_class (C := (fun w' => w'.cell? ⟨w.heap.size, 0, none⟩ = some (.int .i64 a) ∧ w'.cell? ⟨w.heap.size, 1, none⟩ = some (.int .i64 b) ∧ w'.cell? ⟨w.heap.size, 2, none⟩ = some (.int .i64 c) ∧ Below w.heap.size w w')) (by kernel_rfl) (by kernel_rfl) ⟨(M.out.drewN 1).at 0 _ rfl, (M.out.drewN 1).at 1 _ rfl, (M.out.drewN 1).at 2 _ rfl, (M.out.drewN 1).low⟩ ?_
  refine q_run ?_ ?_ ?_ ?_
  · kernel_rfl
  rotate_left
  · intro w_ hw_
    obtain ⟨c0, c1, c2, cb⟩ := hw_
    first | (go_simp; done) | (go_simp; with_reducible rfl) | (go_simp; rw [if_neg (by first | omega | (simp; omega))])
  try simp only [Act.put, List.setIfInBounds_toArray, List.set_cons_zero, List.set_cons_succ]
  try simp only [p0, h0, h1]
  refine q_run ?_ ?_ ?_ ?_
  · kernel_rfl
  rotate_left
  · intro w_ hw_
    obtain ⟨c0, c1, c2, cb⟩ := hw_
    first | (go_simp; done) | (go_simp; with_reducible rfl) | (go_simp; rw [if_neg (by first | omega | (simp; omega))])
  try simp only [Act.put, List.setIfInBounds_toArray, List.set_cons_zero, List.set_cons_succ]
  try simp only [p0, h0, h1]
  refine q_run ?_ ?_ ?_ ?_
  · kernel_rfl
  rotate_left
  · intro w_ hw_
    obtain ⟨c0, c1, c2, cb⟩ := hw_
    first | (go_simp; done) | (go_simp; with_reducible rfl) | (go_simp; rw [if_neg (by first | omega | (simp; omega))])
  try simp only [Act.put, List.setIfInBounds_toArray, List.set_cons_zero, List.set_cons_succ]
  try simp only [p0, h0, h1]
  refine q_run ?_ ?_ ?_ ?_
  · kernel_rfl
  rotate_left
  · intro w_ hw_
    obtain ⟨c0, c1, c2, cb⟩ := hw_
    first | (go_simp; done) | (go_simp; with_reducible rfl) | (go_simp; rw [if_neg (by first | omega | (simp; omega))])
  try simp only [Act.put, List.setIfInBounds_toArray, List.set_cons_zero, List.set_cons_succ]
  try simp only [p0, h0, h1]
  first
   | (refine q_skip ?_ ?_
      · rfl)
   | (refine q_run ?_ ?_ ?_ ?_
      · kernel_rfl
      rotate_left
      · intro w_ hw_
        obtain ⟨c0, c1, c2, cb⟩ := hw_
        first | (go_simp; done) | (go_simp; with_reducible rfl) | (go_simp; rw [if_neg (by first | omega | (simp; omega))]))
  try simp only [Act.put, List.setIfInBounds_toArray, List.set_cons_zero, List.set_cons_succ]
  try simp only [p0, h0, h1]
  first
   | (refine q_skip ?_ ?_
      · rfl)
   | (refine q_run ?_ ?_ ?_ ?_
      · kernel_rfl
      rotate_left
      · intro w_ hw_
        obtain ⟨c0, c1, c2, cb⟩ := hw_
        first | (go_simp; done) | (go_simp; with_reducible rfl) | (go_simp; rw [if_neg (by first | omega | (simp; omega))]))
  try simp only [Act.put, List.setIfInBounds_toArray, List.set_cons_zero, List.set_cons_succ]
  try simp only [p0, h0, h1]
  first
   | (refine q_skip ?_ ?_
      · rfl)
   | (refine q_run ?_ ?_ ?_ ?_
      · kernel_rfl
      rotate_left
      · intro w_ hw_
        obtain ⟨c0, c1, c2, cb⟩ := hw_
        first | (go_simp; done) | (go_simp; with_reducible rfl) | (go_simp; rw [if_neg (by first | omega | (simp; omega))]))
  try simp only [Act.put, List.setIfInBounds_toArray, List.set_cons_zero, List.set_cons_succ]
  try simp only [p0, h0, h1]
  refine q_run ?_ ?_ ?_ ?_
  · kernel_rfl
  rotate_left
  · intro w_ hw_
    obtain ⟨c0, c1, c2, cb⟩ := hw_
    first | (go_simp; done) | (go_simp; with_reducible rfl) | (go_simp; rw [if_neg (by first | omega | (simp; omega))])
  try simp only [Act.put, List.setIfInBounds_toArray, List.set_cons_zero, List.set_cons_succ]
  try simp only [p0, h0, h1]
  refine q_run ?_ ?_ ?_ ?_
  · kernel_rfl
  rotate_left
  · intro w_ hw_
    obtain ⟨c0, c1, c2, cb⟩ := hw_
    first | (go_simp; done) | (go_simp; with_reducible rfl) | (go_simp; rw [if_neg (by first | omega | (simp; omega))])
  try simp only [Act.put, List.setIfInBounds_toArray, List.set_cons_zero, List.set_cons_succ]
  try simp only [p0, h0, h1]
  first
   | (refine q_skip ?_ ?_
      · rfl)
   | (refine q_run ?_ ?_ ?_ ?_
      · kernel_rfl
      rotate_left
      · intro w_ hw_
        obtain ⟨c0, c1, c2, cb⟩ := hw_
        first | (go_simp; done) | (go_simp; with_reducible rfl) | (go_simp; rw [if_neg (by first | omega | (simp; omega))]))
  try simp only [Act.put, List.setIfInBounds_toArray, List.set_cons_zero, List.set_cons_succ]
  try simp only [p0, h0, h1]
  first
   | (refine q_skip ?_ ?_
      · rfl)
   | (refine q_run ?_ ?_ ?_ ?_
      · kernel_rfl
      rotate_left
      · intro w_ hw_
        obtain ⟨c0, c1, c2, cb⟩ := hw_
        first | (go_simp; done) | (go_simp; with_reducible rfl) | (go_simp; rw [if_neg (by first | omega | (simp; omega))]))
  try simp only [Act.put, List.setIfInBounds_toArray, List.set_cons_zero, List.set_cons_succ]
  try simp only [p0, h0, h1]
  first
   | (refine q_skip ?_ ?_
      · rfl)
   | (refine q_run ?_ ?_ ?_ ?_
      · kernel_rfl
      rotate_left
      · intro w_ hw_
        obtain ⟨c0, c1, c2, cb⟩ := hw_
        first | (go_simp; done) | (go_simp; with_reducible rfl) | (go_simp; rw [if_neg (by first | omega | (simp; omega))]))
  try simp only [Act.put, List.setIfInBounds_toArray, List.set_cons_zero, List.set_cons_succ]
  try simp only [p0, h0, h1]
  refine q_run ?_ ?_ ?_ ?_
  · kernel_rfl
  rotate_left
  · intro w_ hw_
    obtain ⟨c0, c1, c2, cb⟩ := hw_
    first | (go_simp; done) | (go_simp; with_reducible rfl) | (go_simp; rw [if_neg (by first | omega | (simp; omega))])
  try simp only [Act.put, List.setIfInBounds_toArray, List.set_cons_zero, List.set_cons_succ]
  try simp only [p0, h0, h1]
  refine q_run ?_ ?_ ?_ ?_
  · kernel_rfl
  rotate_left
  · intro w_ hw_
    obtain ⟨c0, c1, c2, cb⟩ := hw_
    first | (go_simp; done) | (go_simp; with_reducible rfl) | (go_simp; rw [if_neg (by first | omega | (simp; omega))])
  try simp only [Act.put, List.setIfInBounds_toArray, List.set_cons_zero, List.set_cons_succ]
  try simp only [p0, h0, h1]
  first
   | (refine q_skip ?_ ?_
      · rfl)
   | (refine q_run ?_ ?_ ?_ ?_
      · kernel_rfl
      rotate_left
      · intro w_ hw_
        obtain ⟨c0, c1, c2, cb⟩ := hw_
        first | (go_simp; done) | (go_simp; with_reducible rfl) | (go_simp; rw [if_neg (by first | omega | (simp; omega))]))
  try simp only [Act.put, List.setIfInBounds_toArray, List.set_cons_zero, List.set_cons_succ]
  try simp only [p0, h0, h1]
  first
   | (refine q_skip ?_ ?_
      · rfl)
   | (refine q_run ?_ ?_ ?_ ?_
      · kernel_rfl
      rotate_left
      · intro w_ hw_
        obtain ⟨c0, c1, c2, cb⟩ := hw_
        first | (go_simp; done) | (go_simp; with_reducible rfl) | (go_simp; rw [if_neg (by first | omega | (simp; omega))]))
  try simp only [Act.put, List.setIfInBounds_toArray, List.set_cons_zero, List.set_cons_succ]
  try simp only [p0, h0, h1]
  first
   | (refine q_skip ?_ ?_
      · rfl)
   | (refine q_run ?_ ?_ ?_ ?_
      · kernel_rfl
      rotate_left
      · intro w_ hw_
        obtain ⟨c0, c1, c2, cb⟩ := hw_
        first | (go_simp; done) | (go_simp; with_reducible rfl) | (go_simp; rw [if_neg (by first | omega | (simp; omega))]))
  try simp only [Act.put, List.setIfInBounds_toArray, List.set_cons_zero, List.set_cons_succ]
  try simp only [p0, h0, h1]
  first
   | (refine q_skip ?_ ?_
      · rfl)
   | (refine q_call ?_ (.int .i64 (Rp.cls code)) ?_ ?_ ?_ ?_ ?_
      · kernel_rfl
      rotate_left 2
      · intro w_ hw_
        go_simp
        refine ⟨?_, ?_⟩ <;> with_reducible rfl
      · intro w_ hw_
        obtain ⟨c0, c1, c2, cb⟩ := hw_
        exact ((rclass_any _ _).mono fun _ _ ⟨h1, h2⟩ => ⟨h1, h2 ▸ ⟨c0, c1, c2, cb⟩⟩))
  try simp only [Act.put, List.setIfInBounds_toArray, List.set_cons_zero, List.set_cons_succ]
  try simp only [p0, h0, h1]
  first
   | (refine q_skip ?_ ?_
      · rfl)
   | (refine q_run ?_ ?_ ?_ ?_
      · kernel_rfl
      rotate_left
      · intro w_ hw_
        obtain ⟨c0, c1, c2, cb⟩ := hw_
        first | (go_simp; done) | (go_simp; with_reducible rfl) | (go_simp; rw [if_neg (by first | omega | (simp; omega))]))
  try simp only [Act.put, List.setIfInBounds_toArray, List.set_cons_zero, List.set_cons_succ]
  try simp only [p0, h0, h1]
  refine q_run ?_ ?_ ?_ ?_
  · kernel_rfl
  rotate_left
  · intro w_ hw_
    obtain ⟨c0, c1, c2, cb⟩ := hw_
    first | (go_simp; done) | (go_simp; with_reducible rfl) | (go_simp; rw [if_neg (by first | omega | (simp; omega))])
  try simp only [Act.put, List.setIfInBounds_toArray, List.set_cons_zero, List.set_cons_succ]
  try simp only [p0, h0, h1]
  refine q_run ?_ ?_ ?_ ?_
  · kernel_rfl
  rotate_left
  · intro w_ hw_
    obtain ⟨c0, c1, c2, cb⟩ := hw_
    first | (go_simp; done) | (go_simp; with_reducible rfl) | (go_simp; rw [if_neg (by first | omega | (simp; omega))])
  try simp only [Act.put, List.setIfInBounds_toArray, List.set_cons_zero, List.set_cons_succ]
  try simp only [p0, h0, h1]
  first
   | (refine q_skip ?_ ?_
      · rfl)
   | (refine q_run ?_ ?_ ?_ ?_
      · kernel_rfl
      rotate_left
      · intro w_ hw_
        obtain ⟨c0, c1, c2, cb⟩ := hw_
        first | (go_simp; done) | (go_simp; with_reducible rfl) | (go_simp; rw [if_neg (by first | omega | (simp; omega))]))
  try simp only [Act.put, List.setIfInBounds_toArray, List.set_cons_zero, List.set_cons_succ]
  try simp only [p0, h0, h1]
  first
   | (refine q_skip ?_ ?_
      · rfl)
   | (refine q_run ?_ ?_ ?_ ?_
      · kernel_rfl
      rotate_left
      · intro w_ hw_
        obtain ⟨c0, c1, c2, cb⟩ := hw_
        first | (go_simp; done) | (go_simp; with_reducible rfl) | (go_simp; rw [if_neg (by first | omega | (simp; omega))]))
  try simp only [Act.put, List.setIfInBounds_toArray, List.set_cons_zero, List.set_cons_succ]
  try simp only [p0, h0, h1]
  first
   | (refine q_skip ?_ ?_
      · rfl)
   | (refine q_run ?_ ?_ ?_ ?_
      · kernel_rfl
      rotate_left
      · intro w_ hw_
        obtain ⟨c0, c1, c2, cb⟩ := hw_
        first | (go_simp; done) | (go_simp; with_reducible rfl) | (go_simp; rw [if_neg (by first | omega | (simp; omega))]))
  try simp only [Act.put, List.setIfInBounds_toArray, List.set_cons_zero, List.set_cons_succ]
  try simp only [p0, h0, h1]
  refine q_run ?_ ?_ ?_ ?_
  · kernel_rfl
  rotate_left
  · intro w_ hw_
    obtain ⟨c0, c1, c2, cb⟩ := hw_
    first | (go_simp; done) | (go_simp; with_reducible rfl) | (go_simp; rw [if_neg (by first | omega | (simp; omega))])
  try simp only [Act.put, List.setIfInBounds_toArray, List.set_cons_zero, List.set_cons_succ]
  try simp only [p0, h0, h1]
  refine q_run ?_ ?_ ?_ ?_
  · kernel_rfl
  rotate_left
  · intro w_ hw_
    obtain ⟨c0, c1, c2, cb⟩ := hw_
    first | (go_simp; done) | (go_simp; with_reducible rfl) | (go_simp; rw [if_neg (by first | omega | (simp; omega))])
  try simp only [Act.put, List.setIfInBounds_toArray, List.set_cons_zero, List.set_cons_succ]
  try simp only [p0, h0, h1]
  first
   | (refine q_skip ?_ ?_
      · rfl)
   | (refine q_run ?_ ?_ ?_ ?_
      · kernel_rfl
      rotate_left
      · intro w_ hw_
        obtain ⟨c0, c1, c2, cb⟩ := hw_
        first | (go_simp; done) | (go_simp; with_reducible rfl) | (go_simp; rw [if_neg (by first | omega | (simp; omega))]))
  try simp only [Act.put, List.setIfInBounds_toArray, List.set_cons_zero, List.set_cons_succ]
  try simp only [p0, h0, h1]
  first
   | (refine q_skip ?_ ?_
      · rfl)
   | (refine q_run ?_ ?_ ?_ ?_
      · kernel_rfl
      rotate_left
      · intro w_ hw_
        obtain ⟨c0, c1, c2, cb⟩ := hw_
        first | (go_simp; done) | (go_simp; with_reducible rfl) | (go_simp; rw [if_neg (by first | omega | (simp; omega))]))
  try simp only [Act.put, List.setIfInBounds_toArray, List.set_cons_zero, List.set_cons_succ]
  try simp only [p0, h0, h1]
  first
   | (refine q_skip ?_ ?_
      · rfl)
   | (refine q_run ?_ ?_ ?_ ?_
      · kernel_rfl
      rotate_left
      · intro w_ hw_
        obtain ⟨c0, c1, c2, cb⟩ := hw_
        first | (go_simp; done) | (go_simp; with_reducible rfl) | (go_simp; rw [if_neg (by first | omega | (simp; omega))]))
  try simp only [Act.put, List.setIfInBounds_toArray, List.set_cons_zero, List.set_cons_succ]
  try simp only [p0, h0, h1]
  refine q_run ?_ ?_ ?_ ?_
  · kernel_rfl
  rotate_left
  · intro w_ hw_
    obtain ⟨c0, c1, c2, cb⟩ := hw_
    first | (go_simp; done) | (go_simp; with_reducible rfl) | (go_simp; rw [if_neg (by first | omega | (simp; omega))])
  try simp only [Act.put, List.setIfInBounds_toArray, List.set_cons_zero, List.set_cons_succ]
  try simp only [p0, h0, h1]
  refine q_run ?_ ?_ ?_ ?_
  · kernel_rfl
  rotate_left
  · intro w_ hw_
    obtain ⟨c0, c1, c2, cb⟩ := hw_
    first | (go_simp; done) | (go_simp; with_reducible rfl) | (go_simp; rw [if_neg (by first | omega | (simp; omega))])
  try simp only [Act.put, List.setIfInBounds_toArray, List.set_cons_zero, List.set_cons_succ]
  try simp only [p0, h0, h1]
  first
   | (refine q_skip ?_ ?_
      · rfl)
   | (refine q_run ?_ ?_ ?_ ?_
      · kernel_rfl
      rotate_left
      · intro w_ hw_
        obtain ⟨c0, c1, c2, cb⟩ := hw_
        first | (go_simp; done) | (go_simp; with_reducible rfl) | (go_simp; rw [if_neg (by first | omega | (simp; omega))]))
  try simp only [Act.put, List.setIfInBounds_toArray, List.set_cons_zero, List.set_cons_succ]
  try simp only [p0, h0, h1]
  first
   | (refine q_skip ?_ ?_
      · rfl)
   | (refine q_run ?_ ?_ ?_ ?_
      · kernel_rfl
      rotate_left
      · intro w_ hw_
        obtain ⟨c0, c1, c2, cb⟩ := hw_
        first | (go_simp; done) | (go_simp; with_reducible rfl) | (go_simp; rw [if_neg (by first | omega | (simp; omega))]))
  try simp only [Act.put, List.setIfInBounds_toArray, List.set_cons_zero, List.set_cons_succ]
  try simp only [p0, h0, h1]
  first
   | (refine q_skip ?_ ?_
      · rfl)
   | (refine q_run ?_ ?_ ?_ ?_
      · kernel_rfl
      rotate_left
      · intro w_ hw_
        obtain ⟨c0, c1, c2, cb⟩ := hw_
        first | (go_simp; done) | (go_simp; with_reducible rfl) | (go_simp; rw [if_neg (by first | omega | (simp; omega))]))
  try simp only [Act.put, List.setIfInBounds_toArray, List.set_cons_zero, List.set_cons_succ]
  try simp only [p0, h0, h1]
  refine q_run ?_ ?_ ?_ ?_
  · kernel_rfl
  rotate_left
  · intro w_ hw_
    obtain ⟨c0, c1, c2, cb⟩ := hw_
    first | (go_simp; done) | (go_simp; with_reducible rfl) | (go_simp; rw [if_neg (by first | omega | (simp; omega))])
  try simp only [Act.put, List.setIfInBounds_toArray, List.set_cons_zero, List.set_cons_succ]
  try simp only [p0, h0, h1]
  refine q_run ?_ ?_ ?_ ?_
  · kernel_rfl
  rotate_left
  · intro w_ hw_
    obtain ⟨c0, c1, c2, cb⟩ := hw_
    first | (go_simp; done) | (go_simp; with_reducible rfl) | (go_simp; rw [if_neg (by first | omega | (simp; omega))])
  try simp only [Act.put, List.setIfInBounds_toArray, List.set_cons_zero, List.set_cons_succ]
  try simp only [p0, h0, h1]
  first
   | (refine q_skip ?_ ?_
      · rfl)
   | (refine q_run ?_ ?_ ?_ ?_
      · kernel_rfl
      rotate_left
      · intro w_ hw_
        obtain ⟨c0, c1, c2, cb⟩ := hw_
        first | (go_simp; done) | (go_simp; with_reducible rfl) | (go_simp; rw [if_neg (by first | omega | (simp; omega))]))
  try simp only [Act.put, List.setIfInBounds_toArray, List.set_cons_zero, List.set_cons_succ]
  try simp only [p0, h0, h1]
  first
   | (refine q_skip ?_ ?_
      · rfl)
   | (refine q_run ?_ ?_ ?_ ?_
      · kernel_rfl
      rotate_left
      · intro w_ hw_
        obtain ⟨c0, c1, c2, cb⟩ := hw_
        first | (go_simp; done) | (go_simp; with_reducible rfl) | (go_simp; rw [if_neg (by first | omega | (simp; omega))]))
  try simp only [Act.put, List.setIfInBounds_toArray, List.set_cons_zero, List.set_cons_succ]
  try simp only [p0, h0, h1]
  first
   | (refine q_skip ?_ ?_
      · rfl)
   | (refine q_run ?_ ?_ ?_ ?_
      · kernel_rfl
      rotate_left
      · intro w_ hw_
        obtain ⟨c0, c1, c2, cb⟩ := hw_
        first | (go_simp; done) | (go_simp; with_reducible rfl) | (go_simp; rw [if_neg (by first | omega | (simp; omega))]))
  try simp only [Act.put, List.setIfInBounds_toArray, List.set_cons_zero, List.set_cons_succ]
  try simp only [p0, h0, h1]
  refine q_run ?_ ?_ ?_ ?_
  · kernel_rfl
  rotate_left
  · intro w_ hw_
    obtain ⟨c0, c1, c2, cb⟩ := hw_
    first | (go_simp; done) | (go_simp; with_reducible rfl) | (go_simp; rw [if_neg (by first | omega | (simp; omega))])
  try simp only [Act.put, List.setIfInBounds_toArray, List.set_cons_zero, List.set_cons_succ]
  try simp only [p0, h0, h1]
  refine q_run ?_ ?_ ?_ ?_
  · kernel_rfl
  rotate_left
  · intro w_ hw_
    obtain ⟨c0, c1, c2, cb⟩ := hw_
    first | (go_simp; done) | (go_simp; with_reducible rfl) | (go_simp; rw [if_neg (by first | omega | (simp; omega))])
  try simp only [Act.put, List.setIfInBounds_toArray, List.set_cons_zero, List.set_cons_succ]
  try simp only [p0, h0, h1]
  refine q_nil ?_
  intro W_ hC_
  go_wp2
  go_ret
  exact ⟨rfl, hC_.2.2.2⟩
set_option maxHeartbeats 4000000 in
theorem rfits_g0k2 (code a b c : Int) (h : Rp.none3 a b c = false) (p0 : (a == 2) = true) (h0 : ((a : Int) == Rp.cls code) = true) (h1 : decide (0 ≤ b) = true) (h2 : decide (b < 1000) = false) (w : World) : Calls Tryd.prog 37 #[.int .i64 code, .agg #[.int .i64 a, .int .i64 b, .int .i64 c]] w fun e w' => e = .returned (.bool false) ∧ Below w.heap.size w w' := by
  have M : Aside (Mine w [(w.heap.size, #[.int .i64 a, .int .i64 b, .int .i64 c], 23)] (w.alloc (.cells #[.int .i64 a, .int .i64 b, .int .i64 c] 23))) := ⟨(Mine.start w).alloc _ _⟩
  go_enter Tryd.func37, Tryd.ntmps37
  go_wp2_with (go_at_call 52; (with_reducible refine (rnone_any a b c _).mono ?_); rintro e w1 ⟨rfl, hb⟩; rw [h]; replace M := Aside.mk (M.out.next hb); clear hb; have z0 := Mine.at M.out 0 _ rfl; have z1 := Mine.at M.out 1 _ rfl; have z2 := Mine.at M.out 2 _ rfl; have zl := Mine.lt M.out)
  refine region_class (C := (fun w' => w'.cell? ⟨w.heap.size, 0, none⟩ = some (.int .i64 a) ∧ w'.cell? ⟨w.heap.size, 1, none⟩ = some (.int .i64 b) ∧ w'.cell? ⟨w.heap.size, 2, none⟩ = some (.int .i64 c) ∧ Below w.heap.size w w')) (by kernel_rfl) (by kernel_rfl) ⟨(M.out.drewN 1).at 0 _ rfl, (M.out.drewN 1).at 1 _ rfl, (M.out.drewN 1).at 2 _ rfl, (M.out.drewN 1).low⟩ ?_
  refine q_run ?_ ?_ ?_ ?_
  · kernel_rfl
  rotate_left
  · intro w_ hw_
    obtain ⟨c0, c1, c2, cb⟩ := hw_
    first | (go_simp; done) | (go_simp; with_reducible rfl) | (go_simp; rw [if_neg (by first | omega | (simp; omega))])
  try simp only [Act.put, List.setIfInBounds_toArray, List.set_cons_zero, List.set_cons_succ]
  try simp only [p0, h0, h1, h2]
  refine q_run ?_ ?_ ?_ ?_
  · kernel_rfl
  rotate_left
  · intro w_ hw_
    obtain ⟨c0, c1, c2, cb⟩ := hw_
    first | (go_simp; done) | (go_simp; with_reducible rfl) | (go_simp; rw [if_neg (by first | omega | (simp; omega))])
  try simp only [Act.put, List.setIfInBounds_toArray, List.set_cons_zero, List.set_cons_succ]
  try simp only [p0, h0, h1, h2]
  refine q_run ?_ ?_ ?_ ?_
  · kernel_rfl
  rotate_left
  · intro w_ hw_
    obtain ⟨c0, c1, c2, cb⟩ := hw_
    first | (go_simp; done) | (go_simp; with_reducible rfl) | (go_simp; rw [if_neg (by first | omega | (simp; omega))])
  try simp only [Act.put, List.setIfInBounds_toArray, List.set_cons_zero, List.set_cons_succ]
  try simp only [p0, h0, h1, h2]
  refine q_run ?_ ?_ ?_ ?_
  · kernel_rfl
  rotate_left
  · intro w_ hw_
    obtain ⟨c0, c1, c2, cb⟩ := hw_
    first | (go_simp; done) | (go_simp; with_reducible rfl) | (go_simp; rw [if_neg (by first | omega | (simp; omega))])
  try simp only [Act.put, List.setIfInBounds_toArray, List.set_cons_zero, List.set_cons_succ]
  try simp only [p0, h0, h1, h2]
  first
   | (refine q_skip ?_ ?_
      · rfl)
   | (refine q_run ?_ ?_ ?_ ?_
      · kernel_rfl
      rotate_left
      · intro w_ hw_
        obtain ⟨c0, c1, c2, cb⟩ := hw_
        first | (go_simp; done) | (go_simp; with_reducible rfl) | (go_simp; rw [if_neg (by first | omega | (simp; omega))]))
  try simp only [Act.put, List.setIfInBounds_toArray, List.set_cons_zero, List.set_cons_succ]
  try simp only [p0, h0, h1, h2]
  first
   | (refine q_skip ?_ ?_
      · rfl)
   | (refine q_run ?_ ?_ ?_ ?_
      · kernel_rfl
      rotate_left
      · intro w_ hw_
        obtain ⟨c0, c1, c2, cb⟩ := hw_
        first | (go_simp; done) | (go_simp; with_reducible rfl) | (go_simp; rw [if_neg (by first | omega | (simp; omega))]))
  try simp only [Act.put, List.setIfInBounds_toArray, List.set_cons_zero, List.set_cons_succ]
  try simp only [p0, h0, h1, h2]
  first
   | (refine q_skip ?_ ?_
      · rfl)
   | (refine q_run ?_ ?_ ?_ ?_
      · kernel_rfl
      rotate_left
      · intro w_ hw_
        obtain ⟨c0, c1, c2, cb⟩ := hw_
        first | (go_simp; done) | (go_simp; with_reducible rfl) | (go_simp; rw [if_neg (by first | omega | (simp; omega))]))
  try simp only [Act.put, List.setIfInBounds_toArray, List.set_cons_zero, List.set_cons_succ]
  try simp only [p0, h0, h1, h2]
  refine q_run ?_ ?_ ?_ ?_
  · kernel_rfl
  rotate_left
  · intro w_ hw_
    obtain ⟨c0, c1, c2, cb⟩ := hw_
    first | (go_simp; done) | (go_simp; with_reducible rfl) | (go_simp; rw [if_neg (by first | omega | (simp; omega))])
  try simp only [Act.put, List.setIfInBounds_toArray, List.set_cons_zero, List.set_cons_succ]
  try simp only [p0, h0, h1, h2]
  refine q_run ?_ ?_ ?_ ?_
  · kernel_rfl
  rotate_left
  · intro w_ hw_
    obtain ⟨c0, c1, c2, cb⟩ := hw_
    first | (go_simp; done) | (go_simp; with_reducible rfl) | (go_simp; rw [if_neg (by first | omega | (simp; omega))])
  try simp only [Act.put, List.setIfInBounds_toArray, List.set_cons_zero, List.set_cons_succ]
  try simp only [p0, h0, h1, h2]
  first
   | (refine q_skip ?_ ?_
      · rfl)
   | (refine q_run ?_ ?_ ?_ ?_
      · kernel_rfl
      rotate_left
      · intro w_ hw_
        obtain ⟨c0, c1, c2, cb⟩ := hw_
        first | (go_simp; done) | (go_simp; with_reducible rfl) | (go_simp; rw [if_neg (by first | omega | (simp; omega))]))
  try simp only [Act.put, List.setIfInBounds_toArray, List.set_cons_zero, List.set_cons_succ]
  try simp only [p0, h0, h1, h2]
  first
   | (refine q_skip ?_ ?_
      · rfl)
   | (refine q_run ?_ ?_ ?_ ?_
      · kernel_rfl
      rotate_left
      · intro w_ hw_
        obtain ⟨c0, c1, c2, cb⟩ := hw_
        first | (go_simp; done) | (go_simp; with_reducible rfl) | (go_simp; rw [if_neg (by first | omega | (simp; omega))]))
  try simp only [Act.put, List.setIfInBounds_toArray, List.set_cons_zero, List.set_cons_succ]
  try simp only [p0, h0, h1, h2]
  first
   | (refine q_skip ?_ ?_
      · rfl)
   | (refine q_run ?_ ?_ ?_ ?_
      · kernel_rfl
      rotate_left
      · intro w_ hw_
        obtain ⟨c0, c1, c2, cb⟩ := hw_
        first | (go_simp; done) | (go_simp; with_reducible rfl) | (go_simp; rw [if_neg (by first | omega | (simp; omega))]))
  try simp only [Act.put, List.setIfInBounds_toArray, List.set_cons_zero, List.set_cons_succ]
  try simp only [p0, h0, h1, h2]
  refine q_run ?_ ?_ ?_ ?_
  · kernel_rfl
  rotate_left
  · intro w_ hw_
    obtain ⟨c0, c1, c2, cb⟩ := hw_
    first | (go_simp; done) | (go_simp; with_reducible rfl) | (go_simp; rw [if_neg (by first | omega | (simp; omega))])
  try simp only [Act.put, List.setIfInBounds_toArray, List.set_cons_zero, List.set_cons_succ]
  try simp only [p0, h0, h1, h2]
  refine q_run ?_ ?_ ?_ ?_
  · kernel_rfl
  rotate_left
  · intro w_ hw_
    obtain ⟨c0, c1, c2, cb⟩ := hw_
    first | (go_simp; done) | (go_simp; with_reducible rfl) | (go_simp; rw [if_neg (by first | omega | (simp; omega))])
  try simp only [Act.put, List.setIfInBounds_toArray, List.set_cons_zero, List.set_cons_succ]
  try simp only [p0, h0, h1, h2]
  first
   | (refine q_skip ?_ ?_
      · rfl)
   | (refine q_run ?_ ?_ ?_ ?_
      · kernel_rfl
      rotate_left
      · intro w_ hw_
        obtain ⟨c0, c1, c2, cb⟩ := hw_
        first | (go_simp; done) | (go_simp; with_reducible rfl) | (go_simp; rw [if_neg (by first | omega | (simp; omega))]))
  try simp only [Act.put, List.setIfInBounds_toArray, List.set_cons_zero, List.set_cons_succ]
  try simp only [p0, h0, h1, h2]
  first
   | (refine q_skip ?_ ?_
      · rfl)
   | (refine q_run ?_ ?_ ?_ ?_
      · kernel_rfl
      rotate_left
      · intro w_ hw_
        obtain ⟨c0, c1, c2, cb⟩ := hw_
        first | (go_simp; done) | (go_simp; with_reducible rfl) | (go_simp; rw [if_neg (by first | omega | (simp; omega))]))
  try simp only [Act.put, List.setIfInBounds_toArray, List.set_cons_zero, List.set_cons_succ]
  try simp only [p0, h0, h1, h2]
  first
   | (refine q_skip ?_ ?_
      · rfl)
   | (refine q_run ?_ ?_ ?_ ?_
      · kernel_rfl
      rotate_left
      · intro w_ hw_
        obtain ⟨c0, c1, c2, cb⟩ := hw_
        first | (go_simp; done) | (go_simp; with_reducible rfl) | (go_simp; rw [if_neg (by first | omega | (simp; omega))]))
  try simp only [Act.put, List.setIfInBounds_toArray, List.set_cons_zero, List.set_cons_succ]
  try simp only [p0, h0, h1, h2]
  first
   | (refine q_skip ?_ ?_
      · rfl)
   | (refine q_call ?_ (.int .i64 (Rp.cls code)) ?_ ?_ ?_ ?_ ?_
      · kernel_rfl
      rotate_left 2
      · intro w_ hw_
        go_simp
        refine ⟨?_, ?_⟩ <;> with_reducible rfl
      · intro w_ hw_
        obtain ⟨c0, c1, c2, cb⟩ := hw_
        exact ((rclass_any _ _).mono fun _ _ ⟨h1, h2⟩ => ⟨h1, h2 ▸ ⟨c0, c1, c2, cb⟩⟩))
  try simp only [Act.put, List.setIfInBounds_toArray, List.set_cons_zero, List.set_cons_succ]
  try simp only [p0, h0, h1, h2]
  first
   | (refine q_skip ?_ ?_
      · rfl)
   | (refine q_run ?_ ?_ ?_ ?_
      · kernel_rfl
      rotate_left
      · intro w_ hw_
        obtain ⟨c0, c1, c2, cb⟩ := hw_
        first | (go_simp; done) | (go_simp; with_reducible rfl) | (go_simp; rw [if_neg (by first | omega | (simp; omega))]))
  try simp only [Act.put, List.setIfInBounds_toArray, List.set_cons_zero, List.set_cons_succ]
  try simp only [p0, h0, h1, h2]
  refine q_run ?_ ?_ ?_ ?_
  · kernel_rfl
  rotate_left
  · intro w_ hw_
    obtain ⟨c0, c1, c2, cb⟩ := hw_
    first | (go_simp; done) | (go_simp; with_reducible rfl) | (go_simp; rw [if_neg (by first | omega | (simp; omega))])
  try simp only [Act.put, List.setIfInBounds_toArray, List.set_cons_zero, List.set_cons_succ]
  try simp only [p0, h0, h1, h2]
  refine q_run ?_ ?_ ?_ ?_
  · kernel_rfl
  rotate_left
  · intro w_ hw_
    obtain ⟨c0, c1, c2, cb⟩ := hw_
    first | (go_simp; done) | (go_simp; with_reducible rfl) | (go_simp; rw [if_neg (by first | omega | (simp; omega))])
  try simp only [Act.put, List.setIfInBounds_toArray, List.set_cons_zero, List.set_cons_succ]
  try simp only [p0, h0, h1, h2]
  first
   | (refine q_skip ?_ ?_
      · rfl)
   | (refine q_run ?_ ?_ ?_ ?_
      · kernel_rfl
      rotate_left
      · intro w_ hw_
        obtain ⟨c0, c1, c2, cb⟩ := hw_
        first | (go_simp; done) | (go_simp; with_reducible rfl) | (go_simp; rw [if_neg (by first | omega | (simp; omega))]))
  try simp only [Act.put, List.setIfInBounds_toArray, List.set_cons_zero, List.set_cons_succ]
  try simp only [p0, h0, h1, h2]
  first
   | (refine q_skip ?_ ?_
      · rfl)
   | (refine q_run ?_ ?_ ?_ ?_
      · kernel_rfl
      rotate_left
      · intro w_ hw_
        obtain ⟨c0, c1, c2, cb⟩ := hw_
        first | (go_simp; done) | (go_simp; with_reducible rfl) | (go_simp; rw [if_neg (by first | omega | (simp; omega))]))
  try simp only [Act.put, List.setIfInBounds_toArray, List.set_cons_zero, List.set_cons_succ]
  try simp only [p0, h0, h1, h2]
  first
   | (refine q_skip ?_ ?_
      · rfl)
   | (refine q_run ?_ ?_ ?_ ?_
      · kernel_rfl
      rotate_left
      · intro w_ hw_
        obtain ⟨c0, c1, c2, cb⟩ := hw_
        first | (go_simp; done) | (go_simp; with_reducible rfl) | (go_simp; rw [if_neg (by first | omega | (simp; omega))]))
  try simp only [Act.put, List.setIfInBounds_toArray, List.set_cons_zero, List.set_cons_succ]
  try simp only [p0, h0, h1, h2]
  refine q_run ?_ ?_ ?_ ?_
  · kernel_rfl
  rotate_left
  · intro w_ hw_
    obtain ⟨c0, c1, c2, cb⟩ := hw_
    first | (go_simp; done) | (go_simp; with_reducible rfl) | (go_simp; rw [if_neg (by first | omega | (simp; omega))])
  try simp only [Act.put, List.setIfInBounds_toArray, List.set_cons_zero, List.set_cons_succ]
  try simp only [p0, h0, h1, h2]
  refine q_run ?_ ?_ ?_ ?_
  · kernel_rfl
  rotate_left
  · intro w_ hw_
    obtain ⟨c0, c1, c2, cb⟩ := hw_
    first | (go_simp; done) | (go_simp; with_reducible rfl) | (go_simp; rw [if_neg (by first | omega | (simp; omega))])
  try simp only [Act.put, List.setIfInBounds_toArray, List.set_cons_zero, List.set_cons_succ]
  try simp only [p0, h0, h1, h2]
  first
   | (refine q_skip ?_ ?_
      · rfl)
   | (refine q_run ?_ ?_ ?_ ?_
      · kernel_rfl
      rotate_left
      · intro w_ hw_
        obtain ⟨c0, c1, c2, cb⟩ := hw_
        first | (go_simp; done) | (go_simp; with_reducible rfl) | (go_simp; rw [if_neg (by first | omega | (simp; omega))]))
  try simp only [Act.put, List.setIfInBounds_toArray, List.set_cons_zero, List.set_cons_succ]
  try simp only [p0, h0, h1, h2]
  first
   | (refine q_skip ?_ ?_
      · rfl)
   | (refine q_run ?_ ?_ ?_ ?_
      · kernel_rfl
      rotate_left
      · intro w_ hw_
        obtain ⟨c0, c1, c2, cb⟩ := hw_
        first | (go_simp; done) | (go_simp; with_reducible rfl) | (go_simp; rw [if_neg (by first | omega | (simp; omega))]))
  try simp only [Act.put, List.setIfInBounds_toArray, List.set_cons_zero, List.set_cons_succ]
  try simp only [p0, h0, h1, h2]
  first
   | (refine q_skip ?_ ?_
      · rfl)
   | (refine q_run ?_ ?_ ?_ ?_
      · kernel_rfl
      rotate_left
      · intro w_ hw_
        obtain ⟨c0, c1, c2, cb⟩ := hw_
        first | (go_simp; done) | (go_simp; with_reducible rfl) | (go_simp; rw [if_neg (by first | omega | (simp; omega))]))
  try simp only [Act.put, List.setIfInBounds_toArray, List.set_cons_zero, List.set_cons_succ]
  try simp only [p0, h0, h1, h2]
  refine q_run ?_ ?_ ?_ ?_
  · kernel_rfl
  rotate_left
  · intro w_ hw_
    obtain ⟨c0, c1, c2, cb⟩ := hw_
    first | (go_simp; done) | (go_simp; with_reducible rfl) | (go_simp; rw [if_neg (by first | omega | (simp; omega))])
  try simp only [Act.put, List.setIfInBounds_toArray, List.set_cons_zero, List.set_cons_succ]
  try simp only [p0, h0, h1, h2]
  refine q_run ?_ ?_ ?_ ?_
  · kernel_rfl
  rotate_left
  · intro w_ hw_
    obtain ⟨c0, c1, c2, cb⟩ := hw_
    first | (go_simp; done) | (go_simp; with_reducible rfl) | (go_simp; rw [if_neg (by first | omega | (simp; omega))])
  try simp only [Act.put, List.setIfInBounds_toArray, List.set_cons_zero, List.set_cons_succ]
  try simp only [p0, h0, h1, h2]
  first
   | (refine q_skip ?_ ?_
      · rfl)
   | (refine q_run ?_ ?_ ?_ ?_
      · kernel_rfl
      rotate_left
      · intro w_ hw_
        obtain ⟨c0, c1, c2, cb⟩ := hw_
        first | (go_simp; done) | (go_simp; with_reducible rfl) | (go_simp; rw [if_neg (by first | omega | (simp; omega))]))
  try simp only [Act.put, List.setIfInBounds_toArray, List.set_cons_zero, List.set_cons_succ]
  try simp only [p0, h0, h1, h2]
  first
   | (refine q_skip ?_ ?_
      · rfl)
   | (refine q_run ?_ ?_ ?_ ?_
      · kernel_rfl
      rotate_left
      · intro w_ hw_
        obtain ⟨c0, c1, c2, cb⟩ := hw_
        first | (go_simp; done) | (go_simp; with_reducible rfl) | (go_simp; rw [if_neg (by first | omega | (simp; omega))]))
  try simp only [Act.put, List.setIfInBounds_toArray, List.set_cons_zero, List.set_cons_succ]
  try simp only [p0, h0, h1, h2]
  first
   | (refine q_skip ?_ ?_
      · rfl)
   | (refine q_run ?_ ?_ ?_ ?_
      · kernel_rfl
      rotate_left
      · intro w_ hw_
        obtain ⟨c0, c1, c2, cb⟩ := hw_
        first | (go_simp; done) | (go_simp; with_reducible rfl) | (go_simp; rw [if_neg (by first | omega | (simp; omega))]))
  try simp only [Act.put, List.setIfInBounds_toArray, List.set_cons_zero, List.set_cons_succ]
  try simp only [p0, h0, h1, h2]
  refine q_run ?_ ?_ ?_ ?_
  · kernel_rfl
  rotate_left
  · intro w_ hw_
    obtain ⟨c0, c1, c2, cb⟩ := hw_
    first | (go_simp; done) | (go_simp; with_reducible rfl) | (go_simp; rw [if_neg (by first | omega | (simp; omega))])
  try simp only [Act.put, List.setIfInBounds_toArray, List.set_cons_zero, List.set_cons_succ]
  try simp only [p0, h0, h1, h2]
  refine q_run ?_ ?_ ?_ ?_
  · kernel_rfl
  rotate_left
  · intro w_ hw_
    obtain ⟨c0, c1, c2, cb⟩ := hw_
    first | (go_simp; done) | (go_simp; with_reducible rfl) | (go_simp; rw [if_neg (by first | omega | (simp; omega))])
  try simp only [Act.put, List.setIfInBounds_toArray, List.set_cons_zero, List.set_cons_succ]
  try simp only [p0, h0, h1, h2]
  first
   | (refine q_skip ?_ ?_
      · rfl)
   | (refine q_run ?_ ?_ ?_ ?_
      · kernel_rfl
      rotate_left
      · intro w_ hw_
        obtain ⟨c0, c1, c2, cb⟩ := hw_
        first | (go_simp; done) | (go_simp; with_reducible rfl) | (go_simp; rw [if_neg (by first | omega | (simp; omega))]))
  try simp only [Act.put, List.setIfInBounds_toArray, List.set_cons_zero, List.set_cons_succ]
  try simp only [p0, h0, h1, h2]
  first
   | (refine q_skip ?_ ?_
      · rfl)
   | (refine q_run ?_ ?_ ?_ ?_
      · kernel_rfl
      rotate_left
      · intro w_ hw_
        obtain ⟨c0, c1, c2, cb⟩ := hw_
        first | (go_simp; done) | (go_simp; with_reducible rfl) | (go_simp; rw [if_neg (by first | omega | (simp; omega))]))
  try simp only [Act.put, List.setIfInBounds_toArray, List.set_cons_zero, List.set_cons_succ]
  try simp only [p0, h0, h1, h2]
  first
   | (refine q_skip ?_ ?_
      · rfl)
   | (refine q_run ?_ ?_ ?_ ?_
      · kernel_rfl
      rotate_left
      · intro w_ hw_
        obtain ⟨c0, c1, c2, cb⟩ := hw_
        first | (go_simp; done) | (go_simp; with_reducible rfl) | (go_simp; rw [if_neg (by first | omega | (simp; omega))]))
  try simp only [Act.put, List.setIfInBounds_toArray, List.set_cons_zero, List.set_cons_succ]
  try simp only [p0, h0, h1, h2]
  refine q_run ?_ ?_ ?_ ?_
  · kernel_rfl
  rotate_left
  · intro w_ hw_
    obtain ⟨c0, c1, c2, cb⟩ := hw_
    first | (go_simp; done) | (go_simp; with_reducible rfl) | (go_simp; rw [if_neg (by first | omega | (simp; omega))])
  try simp only [Act.put, List.setIfInBounds_toArray, List.set_cons_zero, List.set_cons_succ]
  try simp only [p0, h0, h1, h2]
  refine q_run ?_ ?_ ?_ ?_
  · kernel_rfl
  rotate_left
  · intro w_ hw_
    obtain ⟨c0, c1, c2, cb⟩ := hw_
    first | (go_simp; done) | (go_simp; with_reducible rfl) | (go_simp; rw [if_neg (by first | omega | (simp; omega))])
  try simp only [Act.put, List.setIfInBounds_toArray, List.set_cons_zero, List.set_cons_succ]
  try simp only [p0, h0, h1, h2]
  refine q_nil ?_
  intro W_ hC_
  go_wp2
  go_ret
  exact ⟨rfl, hC_.2.2.2⟩
set_option maxHeartbeats 4000000 in
theorem rfits_g0k3 (code a b c : Int) (h : Rp.none3 a b c = false) (p0 : (a == 2) = true) (h0 : ((a : Int) == Rp.cls code) = true) (h1 : decide (0 ≤ b) = true) (h2 : decide (b < 1000) = true) (h3 : decide (0 ≤ c) = false) (w : World) : Calls Tryd.prog 37 #[.int .i64 code, .agg #[.int .i64 a, .int .i64 b, .int .i64 c]] w fun e w' => e = .returned (.bool false) ∧ Below w.heap.size w w' := by
  have M : Aside (Mine w [(w.heap.size, #[.int .i64 a, .int .i64 b, .int .i64 c], 23)] (w.alloc (.cells #[.int .i64 a, .int .i64 b, .int .i64 c] 23))) := ⟨(Mine.start w).alloc _ _⟩
  go_enter Tryd.func37, Tryd.ntmps37
  go_wp2_with (go_at_call 52; (with_reducible refine (rnone_any a b c _).mono ?_); rintro e w1 ⟨rfl, hb⟩; rw [h]; replace M := Aside.mk (M.out.next hb); clear hb; have z0 := Mine.at M.out 0 _ rfl; have z1 := Mine.at M.out 1 _ rfl; have z2 := Mine.at M.out 2 _ rfl; have zl := Mine.lt M.out)
  refine region_class (C := (fun w' => w'.cell? ⟨w.heap.size, 0, none⟩ = some (.int .i64 a) ∧ w'.cell? ⟨w.heap.size, 1, none⟩ = some (.int .i64 b) ∧ w'.cell? ⟨w.heap.size, 2, none⟩ = some (.int .i64 c) ∧ Below w.heap.size w w')) (by kernel_rfl) (by kernel_rfl) ⟨(M.out.drewN 1).at 0 _ rfl, (M.out.drewN 1).at 1 _ rfl, (M.out.drewN 1).at 2 _ rfl, (M.out.drewN 1).low⟩ ?_
  refine q_run ?_ ?_ ?_ ?_
  · kernel_rfl
  rotate_left
  · intro w_ hw_
    obtain ⟨c0, c1, c2, cb⟩ := hw_
    first | (go_simp; done) | (go_simp; with_reducible rfl) | (go_simp; rw [if_neg (by first | omega | (simp; omega))])
  try simp only [Act.put, List.setIfInBounds_toArray, List.set_cons_zero, List.set_cons_succ]
  try simp only [p0, h0, h1, h2, h3]
  refine q_run ?_ ?_ ?_ ?_
  · kernel_rfl
  rotate_left
  · intro w_ hw_
    obtain ⟨c0, c1, c2, cb⟩ := hw_
    first | (go_simp; done) | (go_simp; with_reducible rfl) | (go_simp; rw [if_neg (by first | omega | (simp; omega))])
  try simp only [Act.put, List.setIfInBounds_toArray, List.set_cons_zero, List.set_cons_succ]
  try simp only [p0, h0, h1, h2, h3]
  refine q_run ?_ ?_ ?_ ?_
  · kernel_rfl
  rotate_left
  · intro w_ hw_
    obtain ⟨c0, c1, c2, cb⟩ := hw_
    first | (go_simp; done) | (go_simp; with_reducible rfl) | (go_simp; rw [if_neg (by first | omega | (simp; omega))])
  try simp only [Act.put, List.setIfInBounds_toArray, List.set_cons_zero, List.set_cons_succ]
  try simp only [p0, h0, h1, h2, h3]
  refine q_run ?_ ?_ ?_ ?_
  · kernel_rfl
  rotate_left
  · intro w_ hw_
    obtain ⟨c0, c1, c2, cb⟩ := hw_
    first | (go_simp; done) | (go_simp; with_reducible rfl) | (go_simp; rw [if_neg (by first | omega | (simp; omega))])
  try simp only [Act.put, List.setIfInBounds_toArray, List.set_cons_zero, List.set_cons_succ]
  try simp only [p0, h0, h1, h2, h3]
  first
   | (refine q_skip ?_ ?_
      · rfl)
   | (refine q_run ?_ ?_ ?_ ?_
      · kernel_rfl
      rotate_left
      · intro w_ hw_
        obtain ⟨c0, c1, c2, cb⟩ := hw_
        first | (go_simp; done) | (go_simp; with_reducible rfl) | (go_simp; rw [if_neg (by first | omega | (simp; omega))]))
  try simp only [Act.put, List.setIfInBounds_toArray, List.set_cons_zero, List.set_cons_succ]
  try simp only [p0, h0, h1, h2, h3]
  first
   | (refine q_skip ?_ ?_
      · rfl)
   | (refine q_run ?_ ?_ ?_ ?_
      · kernel_rfl
      rotate_left
      · intro w_ hw_
        obtain ⟨c0, c1, c2, cb⟩ := hw_
        first | (go_simp; done) | (go_simp; with_reducible rfl) | (go_simp; rw [if_neg (by first | omega | (simp; omega))]))
  try simp only [Act.put, List.setIfInBounds_toArray, List.set_cons_zero, List.set_cons_succ]
  try simp only [p0, h0, h1, h2, h3]
  first
   | (refine q_skip ?_ ?_
      · rfl)
   | (refine q_run ?_ ?_ ?_ ?_
      · kernel_rfl
      rotate_left
      · intro w_ hw_
        obtain ⟨c0, c1, c2, cb⟩ := hw_
        first | (go_simp; done) | (go_simp; with_reducible rfl) | (go_simp; rw [if_neg (by first | omega | (simp; omega))]))
  try simp only [Act.put, List.setIfInBounds_toArray, List.set_cons_zero, List.set_cons_succ]
  try simp only [p0, h0, h1, h2, h3]
  refine q_run ?_ ?_ ?_ ?_
  · kernel_rfl
  rotate_left
  · intro w_ hw_
    obtain ⟨c0, c1, c2, cb⟩ := hw_
    first | (go_simp; done) | (go_simp; with_reducible rfl) | (go_simp; rw [if_neg (by first | omega | (simp; omega))])
  try simp only [Act.put, List.setIfInBounds_toArray, List.set_cons_zero, List.set_cons_succ]
  try simp only [p0, h0, h1, h2, h3]
  refine q_run ?_ ?_ ?_ ?_
  · kernel_rfl
  rotate_left
  · intro w_ hw_
    obtain ⟨c0, c1, c2, cb⟩ := hw_
    first | (go_simp; done) | (go_simp; with_reducible rfl) | (go_simp; rw [if_neg (by first | omega | (simp; omega))])
  try simp only [Act.put, List.setIfInBounds_toArray, List.set_cons_zero, List.set_cons_succ]
  try simp only [p0, h0, h1, h2, h3]
  first
   | (refine q_skip ?_ ?_
      · rfl)
   | (refine q_run ?_ ?_ ?_ ?_
      · kernel_rfl
      rotate_left
      · intro w_ hw_
        obtain ⟨c0, c1, c2, cb⟩ := hw_
        first | (go_simp; done) | (go_simp; with_reducible rfl) | (go_simp; rw [if_neg (by first | omega | (simp; omega))]))
  try simp only [Act.put, List.setIfInBounds_toArray, List.set_cons_zero, List.set_cons_succ]
  try simp only [p0, h0, h1, h2, h3]
  first
   | (refine q_skip ?_ ?_
      · rfl)
   | (refine q_run ?_ ?_ ?_ ?_
      · kernel_rfl
      rotate_left
      · intro w_ hw_
        obtain ⟨c0, c1, c2, cb⟩ := hw_
        first | (go_simp; done) | (go_simp; with_reducible rfl) | (go_simp; rw [if_neg (by first | omega | (simp; omega))]))
  try simp only [Act.put, List.setIfInBounds_toArray, List.set_cons_zero, List.set_cons_succ]
  try simp only [p0, h0, h1, h2, h3]
  first
   | (refine q_skip ?_ ?_
      · rfl)
   | (refine q_run ?_ ?_ ?_ ?_
      · kernel_rfl
      rotate_left
      · intro w_ hw_
        obtain ⟨c0, c1, c2, cb⟩ := hw_
        first | (go_simp; done) | (go_simp; with_reducible rfl) | (go_simp; rw [if_neg (by first | omega | (simp; omega))]))
  try simp only [Act.put, List.setIfInBounds_toArray, List.set_cons_zero, List.set_cons_succ]
  try simp only [p0, h0, h1, h2, h3]
  refine q_run ?_ ?_ ?_ ?_
  · kernel_rfl
  rotate_left
  · intro w_ hw_
    obtain ⟨c0, c1, c2, cb⟩ := hw_
    first | (go_simp; done) | (go_simp; with_reducible rfl) | (go_simp; rw [if_neg (by first | omega | (simp; omega))])
  try simp only [Act.put, List.setIfInBounds_toArray, List.set_cons_zero, List.set_cons_succ]
  try simp only [p0, h0, h1, h2, h3]
  refine q_run ?_ ?_ ?_ ?_
  · kernel_rfl
  rotate_left
  · intro w_ hw_
    obtain ⟨c0, c1, c2, cb⟩ := hw_
    first | (go_simp; done) | (go_simp; with_reducible rfl) | (go_simp; rw [if_neg (by first | omega | (simp; omega))])
  try simp only [Act.put, List.setIfInBounds_toArray, List.set_cons_zero, List.set_cons_succ]
  try simp only [p0, h0, h1, h2, h3]
  first
   | (refine q_skip ?_ ?_
      · rfl)
   | (refine q_run ?_ ?_ ?_ ?_
      · kernel_rfl
      rotate_left
      · intro w_ hw_
        obtain ⟨c0, c1, c2, cb⟩ := hw_
        first | (go_simp; done) | (go_simp; with_reducible rfl) | (go_simp; rw [if_neg (by first | omega | (simp; omega))]))
  try simp only [Act.put, List.setIfInBounds_toArray, List.set_cons_zero, List.set_cons_succ]
  try simp only [p0, h0, h1, h2, h3]
  first
   | (refine q_skip ?_ ?_
      · rfl)
   | (refine q_run ?_ ?_ ?_ ?_
      · kernel_rfl
      rotate_left
      · intro w_ hw_
        obtain ⟨c0, c1, c2, cb⟩ := hw_
        first | (go_simp; done) | (go_simp; with_reducible rfl) | (go_simp; rw [if_neg (by first | omega | (simp; omega))]))
  try simp only [Act.put, List.setIfInBounds_toArray, List.set_cons_zero, List.set_cons_succ]
  try simp only [p0, h0, h1, h2, h3]
  first
   | (refine q_skip ?_ ?_
      · rfl)
   | (refine q_run ?_ ?_ ?_ ?_
      · kernel_rfl
      rotate_left
      · intro w_ hw_
        obtain ⟨c0, c1, c2, cb⟩ := hw_
        first | (go_simp; done) | (go_simp; with_reducible rfl) | (go_simp; rw [if_neg (by first | omega | (simp; omega))]))
  try simp only [Act.put, List.setIfInBounds_toArray, List.set_cons_zero, List.set_cons_succ]
  try simp only [p0, h0, h1, h2, h3]
  first
   | (refine q_skip ?_ ?_
      · rfl)
   | (refine q_call ?_ (.int .i64 (Rp.cls code)) ?_ ?_ ?_ ?_ ?_
      · kernel_rfl
      rotate_left 2
      · intro w_ hw_
        go_simp
        refine ⟨?_, ?_⟩ <;> with_reducible rfl
      · intro w_ hw_
        obtain ⟨c0, c1, c2, cb⟩ := hw_
        exact ((rclass_any _ _).mono fun _ _ ⟨h1, h2⟩ => ⟨h1, h2 ▸ ⟨c0, c1, c2, cb⟩⟩))
  try simp only [Act.put, List.setIfInBounds_toArray, List.set_cons_zero, List.set_cons_succ]
  try simp only [p0, h0, h1, h2, h3]
  first
   | (refine q_skip ?_ ?_
      · rfl)
   | (refine q_run ?_ ?_ ?_ ?_
      · kernel_rfl
      rotate_left
      · intro w_ hw_
        obtain ⟨c0, c1, c2, cb⟩ := hw_
        first | (go_simp; done) | (go_simp; with_reducible rfl) | (go_simp; rw [if_neg (by first | omega | (simp; omega))]))
  try simp only [Act.put, List.setIfInBounds_toArray, List.set_cons_zero, List.set_cons_succ]
  try simp only [p0, h0, h1, h2, h3]
  refine q_run ?_ ?_ ?_ ?_
  · kernel_rfl
  rotate_left
  · intro w_ hw_
    obtain ⟨c0, c1, c2, cb⟩ := hw_
    first | (go_simp; done) | (go_simp; with_reducible rfl) | (go_simp; rw [if_neg (by first | omega | (simp; omega))])
  try simp only [Act.put, List.setIfInBounds_toArray, List.set_cons_zero, List.set_cons_succ]
  try simp only [p0, h0, h1, h2, h3]
  refine q_run ?_ ?_ ?_ ?_
  · kernel_rfl
  rotate_left
  · intro w_ hw_
    obtain ⟨c0, c1, c2, cb⟩ := hw_
    first | (go_simp; done) | (go_simp; with_reducible rfl) | (go_simp; rw [if_neg (by first | omega | (simp; omega))])
  try simp only [Act.put, List.setIfInBounds_toArray, List.set_cons_zero, List.set_cons_succ]
  try simp only [p0, h0, h1, h2, h3]
  first
   | (refine q_skip ?_ ?_
      · rfl)
   | (refine q_run ?_ ?_ ?_ ?_
      · kernel_rfl
      rotate_left
      · intro w_ hw_
        obtain ⟨c0, c1, c2, cb⟩ := hw_
        first | (go_simp; done) | (go_simp; with_reducible rfl) | (go_simp; rw [if_neg (by first | omega | (simp; omega))]))
  try simp only [Act.put, List.setIfInBounds_toArray, List.set_cons_zero, List.set_cons_succ]
  try simp only [p0, h0, h1, h2, h3]
  first
   | (refine q_skip ?_ ?_
      · rfl)
   | (refine q_run ?_ ?_ ?_ ?_
      · kernel_rfl
      rotate_left
      · intro w_ hw_
        obtain ⟨c0, c1, c2, cb⟩ := hw_
        first | (go_simp; done) | (go_simp; with_reducible rfl) | (go_simp; rw [if_neg (by first | omega | (simp; omega))]))
  try simp only [Act.put, List.setIfInBounds_toArray, List.set_cons_zero, List.set_cons_succ]
  try simp only [p0, h0, h1, h2, h3]
  first
   | (refine q_skip ?_ ?_
      · rfl)
   | (refine q_run ?_ ?_ ?_ ?_
      · kernel_rfl
      rotate_left
      · intro w_ hw_
        obtain ⟨c0, c1, c2, cb⟩ := hw_
        first | (go_simp; done) | (go_simp; with_reducible rfl) | (go_simp; rw [if_neg (by first | omega | (simp; omega))]))
  try simp only [Act.put, List.setIfInBounds_toArray, List.set_cons_zero, List.set_cons_succ]
  try simp only [p0, h0, h1, h2, h3]
  refine q_run ?_ ?_ ?_ ?_
  · kernel_rfl
  rotate_left
  · intro w_ hw_
    obtain ⟨c0, c1, c2, cb⟩ := hw_
    first | (go_simp; done) | (go_simp; with_reducible rfl) | (go_simp; rw [if_neg (by first | omega | (simp; omega))])
  try simp only [Act.put, List.setIfInBounds_toArray, List.set_cons_zero, List.set_cons_succ]
  try simp only [p0, h0, h1, h2, h3]
  refine q_run ?_ ?_ ?_ ?_
  · kernel_rfl
  rotate_left
  · intro w_ hw_
    obtain ⟨c0, c1, c2, cb⟩ := hw_
    first | (go_simp; done) | (go_simp; with_reducible rfl) | (go_simp; rw [if_neg (by first | omega | (simp; omega))])
  try simp only [Act.put, List.setIfInBounds_toArray, List.set_cons_zero, List.set_cons_succ]
  try simp only [p0, h0, h1, h2, h3]
  first
   | (refine q_skip ?_ ?_
      · rfl)
   | (refine q_run ?_ ?_ ?_ ?_
      · kernel_rfl
      rotate_left
      · intro w_ hw_
        obtain ⟨c0, c1, c2, cb⟩ := hw_
        first | (go_simp; done) | (go_simp; with_reducible rfl) | (go_simp; rw [if_neg (by first | omega | (simp; omega))]))
  try simp only [Act.put, List.setIfInBounds_toArray, List.set_cons_zero, List.set_cons_succ]
  try simp only [p0, h0, h1, h2, h3]
  first
   | (refine q_skip ?_ ?_
      · rfl)
   | (refine q_run ?_ ?_ ?_ ?_
      · kernel_rfl
      rotate_left
      · intro w_ hw_
        obtain ⟨c0, c1, c2, cb⟩ := hw_
        first | (go_simp; done) | (go_simp; with_reducible rfl) | (go_simp; rw [if_neg (by first | omega | (simp; omega))]))
  try simp only [Act.put, List.setIfInBounds_toArray, List.set_cons_zero, List.set_cons_succ]
  try simp only [p0, h0, h1, h2, h3]
  first
   | (refine q_skip ?_ ?_
      · rfl)
   | (refine q_run ?_ ?_ ?_ ?_
      · kernel_rfl
      rotate_left
      · intro w_ hw_
        obtain ⟨c0, c1, c2, cb⟩ := hw_
        first | (go_simp; done) | (go_simp; with_reducible rfl) | (go_simp; rw [if_neg (by first | omega | (simp; omega))]))
  try simp only [Act.put, List.setIfInBounds_toArray, List.set_cons_zero, List.set_cons_succ]
  try simp only [p0, h0, h1, h2, h3]
  refine q_run ?_ ?_ ?_ ?_
  · kernel_rfl
  rotate_left
  · intro w_ hw_
    obtain ⟨c0, c1, c2, cb⟩ := hw_
    first | (go_simp; done) | (go_simp; with_reducible rfl) | (go_simp; rw [if_neg (by first | omega | (simp; omega))])
  try simp only [Act.put, List.setIfInBounds_toArray, List.set_cons_zero, List.set_cons_succ]
  try simp only [p0, h0, h1, h2, h3]
  refine q_run ?_ ?_ ?_ ?_
  · kernel_rfl
  rotate_left
  · intro w_ hw_
    obtain ⟨c0, c1, c2, cb⟩ := hw_
    first | (go_simp; done) | (go_simp; with_reducible rfl) | (go_simp; rw [if_neg (by first | omega | (simp; omega))])
  try simp only [Act.put, List.setIfInBounds_toArray, List.set_cons_zero, List.set_cons_succ]
  try simp only [p0, h0, h1, h2, h3]
  first
   | (refine q_skip ?_ ?_
      · rfl)
   | (refine q_run ?_ ?_ ?_ ?_
      · kernel_rfl
      rotate_left
      · intro w_ hw_
        obtain ⟨c0, c1, c2, cb⟩ := hw_
        first | (go_simp; done) | (go_simp; with_reducible rfl) | (go_simp; rw [if_neg (by first | omega | (simp; omega))]))
  try simp only [Act.put, List.setIfInBounds_toArray, List.set_cons_zero, List.set_cons_succ]
  try simp only [p0, h0, h1, h2, h3]
  first
   | (refine q_skip ?_ ?_
      · rfl)
   | (refine q_run ?_ ?_ ?_ ?_
      · kernel_rfl
      rotate_left
      · intro w_ hw_
        obtain ⟨c0, c1, c2, cb⟩ := hw_
        first | (go_simp; done) | (go_simp; with_reducible rfl) | (go_simp; rw [if_neg (by first | omega | (simp; omega))]))
  try simp only [Act.put, List.setIfInBounds_toArray, List.set_cons_zero, List.set_cons_succ]
  try simp only [p0, h0, h1, h2, h3]
  first
   | (refine q_skip ?_ ?_
      · rfl)
   | (refine q_run ?_ ?_ ?_ ?_
      · kernel_rfl
      rotate_left
      · intro w_ hw_
        obtain ⟨c0, c1, c2, cb⟩ := hw_
        first | (go_simp; done) | (go_simp; with_reducible rfl) | (go_simp; rw [if_neg (by first | omega | (simp; omega))]))
  try simp only [Act.put, List.setIfInBounds_toArray, List.set_cons_zero, List.set_cons_succ]
  try simp only [p0, h0, h1, h2, h3]
  refine q_run ?_ ?_ ?_ ?_
  · kernel_rfl
  rotate_left
  · intro w_ hw_
    obtain ⟨c0, c1, c2, cb⟩ := hw_
    first | (go_simp; done) | (go_simp; with_reducible rfl) | (go_simp; rw [if_neg (by first | omega | (simp; omega))])
  try simp only [Act.put, List.setIfInBounds_toArray, List.set_cons_zero, List.set_cons_succ]
  try simp only [p0, h0, h1, h2, h3]
  refine q_run ?_ ?_ ?_ ?_
  · kernel_rfl
  rotate_left
  · intro w_ hw_
    obtain ⟨c0, c1, c2, cb⟩ := hw_
    first | (go_simp; done) | (go_simp; with_reducible rfl) | (go_simp; rw [if_neg (by first | omega | (simp; omega))])
  try simp only [Act.put, List.setIfInBounds_toArray, List.set_cons_zero, List.set_cons_succ]
  try simp only [p0, h0, h1, h2, h3]
  first
   | (refine q_skip ?_ ?_
      · rfl)
   | (refine q_run ?_ ?_ ?_ ?_
      · kernel_rfl
      rotate_left
      · intro w_ hw_
        obtain ⟨c0, c1, c2, cb⟩ := hw_
        first | (go_simp; done) | (go_simp; with_reducible rfl) | (go_simp; rw [if_neg (by first | omega | (simp; omega))]))
  try simp only [Act.put, List.setIfInBounds_toArray, List.set_cons_zero, List.set_cons_succ]
  try simp only [p0, h0, h1, h2, h3]
  first
   | (refine q_skip ?_ ?_
      · rfl)
   | (refine q_run ?_ ?_ ?_ ?_
      · kernel_rfl
      rotate_left
      · intro w_ hw_
        obtain ⟨c0, c1, c2, cb⟩ := hw_
        first | (go_simp; done) | (go_simp; with_reducible rfl) | (go_simp; rw [if_neg (by first | omega | (simp; omega))]))
  try simp only [Act.put, List.setIfInBounds_toArray, List.set_cons_zero, List.set_cons_succ]
  try simp only [p0, h0, h1, h2, h3]
  first
   | (refine q_skip ?_ ?_
      · rfl)
   | (refine q_run ?_ ?_ ?_ ?_
      · kernel_rfl
      rotate_left
      · intro w_ hw_
        obtain ⟨c0, c1, c2, cb⟩ := hw_
        first | (go_simp; done) | (go_simp; with_reducible rfl) | (go_simp; rw [if_neg (by first | omega | (simp; omega))]))
  try simp only [Act.put, List.setIfInBounds_toArray, List.set_cons_zero, List.set_cons_succ]
  try simp only [p0, h0, h1, h2, h3]
  refine q_run ?_ ?_ ?_ ?_
  · kernel_rfl
  rotate_left
  · intro w_ hw_
    obtain ⟨c0, c1, c2, cb⟩ := hw_
    first | (go_simp; done) | (go_simp; with_reducible rfl) | (go_simp; rw [if_neg (by first | omega | (simp; omega))])
  try simp only [Act.put, List.setIfInBounds_toArray, List.set_cons_zero, List.set_cons_succ]
  try simp only [p0, h0, h1, h2, h3]
  refine q_run ?_ ?_ ?_ ?_
  · kernel_rfl
  rotate_left
  · intro w_ hw_
    obtain ⟨c0, c1, c2, cb⟩ := hw_
    first | (go_simp; done) | (go_simp; with_reducible rfl) | (go_simp; rw [if_neg (by first | omega | (simp; omega))])
  try simp only [Act.put, List.setIfInBounds_toArray, List.set_cons_zero, List.set_cons_succ]
  try simp only [p0, h0, h1, h2, h3]
  refine q_nil ?_
  intro W_ hC_
  go_wp2
  go_ret
  exact ⟨rfl, hC_.2.2.2⟩
set_option maxHeartbeats 4000000 in
theorem rfits_g0k4 (code a b c : Int) (h : Rp.none3 a b c = false) (p0 : (a == 2) = true) (h0 : ((a : Int) == Rp.cls code) = true) (h1 : decide (0 ≤ b) = true) (h2 : decide (b < 1000) = true) (h3 : decide (0 ≤ c) = true) (h4 : decide (c < 1000) = false) (w : World) : Calls Tryd.prog 37 #[.int .i64 code, .agg #[.int .i64 a, .int .i64 b, .int .i64 c]] w fun e w' => e = .returned (.bool false) ∧ Below w.heap.size w w' := by
  have M : Aside (Mine w [(w.heap.size, #[.int .i64 a, .int .i64 b, .int .i64 c], 23)] (w.alloc (.cells #[.int .i64 a, .int .i64 b, .int .i64 c] 23))) := ⟨(Mine.start w).alloc _ _⟩
  go_enter Tryd.func37, Tryd.ntmps37
  go_wp2_with (go_at_call 52; (with_reducible refine (rnone_any a b c _).mono ?_); rintro e w1 ⟨rfl, hb⟩; rw [h]; replace M := Aside.mk (M.out.next hb); clear hb; have z0 := Mine.at M.out 0 _ rfl; have z1 := Mine.at M.out 1 _ rfl; have z2 := Mine.at M.out 2 _ rfl; have zl := Mine.lt M.out)
  refine region_class (C := (fun w' => w'.cell? ⟨w.heap.size, 0, none⟩ = some (.int .i64 a) ∧ w'.cell? ⟨w.heap.size, 1, none⟩ = some (.int .i64 b) ∧ w'.cell? ⟨w.heap.size, 2, none⟩ = some (.int .i64 c) ∧ Below w.heap.size w w')) (by kernel_rfl) (by kernel_rfl) ⟨(M.out.drewN 1).at 0 _ rfl, (M.out.drewN 1).at 1 _ rfl, (M.out.drewN 1).at 2 _ rfl, (M.out.drewN 1).low⟩ ?_
  refine q_run ?_ ?_ ?_ ?_
  · kernel_rfl
  rotate_left
  · intro w_ hw_
    obtain ⟨c0, c1, c2, cb⟩ := hw_
    first | (go_simp; done) | (go_simp; with_reducible rfl) | (go_simp; rw [if_neg (by first | omega | (simp; omega))])
  try simp only [Act.put, List.setIfInBounds_toArray, List.set_cons_zero, List.set_cons_succ]
  try simp only [p0, h0, h1, h2, h3, h4]
  refine q_run ?_ ?_ ?_ ?_
  · kernel_rfl
  rotate_left
  · intro w_ hw_
    obtain ⟨c0, c1, c2, cb⟩ := hw_
    first | (go_simp; done) | (go_simp; with_reducible rfl) | (go_simp; rw [if_neg (by first | omega | (simp; omega))])
  try simp only [Act.put, List.setIfInBounds_toArray, List.set_cons_zero, List.set_cons_succ]
  try simp only [p0, h0, h1, h2, h3, h4]
  refine q_run ?_ ?_ ?_ ?_
  · kernel_rfl
  rotate_left
  · intro w_ hw_
    obtain ⟨c0, c1, c2, cb⟩ := hw_
    first | (go_simp; done) | (go_simp; with_reducible rfl) | (go_simp; rw [if_neg (by first | omega | (simp; omega))])
  try simp only [Act.put, List.setIfInBounds_toArray, List.set_cons_zero, List.set_cons_succ]
  try simp only [p0, h0, h1, h2, h3, h4]
  refine q_run ?_ ?_ ?_ ?_
  · kernel_rfl
  rotate_left
  · intro w_ hw_
    obtain ⟨c0, c1, c2, cb⟩ := hw_
    first | (go_simp; done) | (go_simp; with_reducible rfl) | (go_simp; rw [if_neg (by first | omega | (simp; omega))])
  try simp only [Act.put, List.setIfInBounds_toArray, List.set_cons_zero, List.set_cons_succ]
  try simp only [p0, h0, h1, h2, h3, h4]
  first
   | (refine q_skip ?_ ?_
      · rfl)
   | (refine q_run ?_ ?_ ?_ ?_
      · kernel_rfl
      rotate_left
      · intro w_ hw_
        obtain ⟨c0, c1, c2, cb⟩ := hw_
        first | (go_simp; done) | (go_simp; with_reducible rfl) | (go_simp; rw [if_neg (by first | omega | (simp; omega))]))
  try simp only [Act.put, List.setIfInBounds_toArray, List.set_cons_zero, List.set_cons_succ]
  try simp only [p0, h0, h1, h2, h3, h4]
  first
   | (refine q_skip ?_ ?_
      · rfl)
   | (refine q_run ?_ ?_ ?_ ?_
      · kernel_rfl
      rotate_left
      · intro w_ hw_
        obtain ⟨c0, c1, c2, cb⟩ := hw_
        first | (go_simp; done) | (go_simp; with_reducible rfl) | (go_simp; rw [if_neg (by first | omega | (simp; omega))]))
  try simp only [Act.put, List.setIfInBounds_toArray, List.set_cons_zero, List.set_cons_succ]
  try simp only [p0, h0, h1, h2, h3, h4]
  first
   | (refine q_skip ?_ ?_
      · rfl)
   | (refine q_run ?_ ?_ ?_ ?_
      · kernel_rfl
      rotate_left
      · intro w_ hw_
        obtain ⟨c0, c1, c2, cb⟩ := hw_
        first | (go_simp; done) | (go_simp; with_reducible rfl) | (go_simp; rw [if_neg (by first | omega | (simp; omega))]))
  try simp only [Act.put, List.setIfInBounds_toArray, List.set_cons_zero, List.set_cons_succ]
  try simp only [p0, h0, h1, h2, h3, h4]
  refine q_run ?_ ?_ ?_ ?_
  · kernel_rfl
  rotate_left
  · intro w_ hw_
    obtain ⟨c0, c1, c2, cb⟩ := hw_
    first | (go_simp; done) | (go_simp; with_reducible rfl) | (go_simp; rw [if_neg (by first | omega | (simp; omega))])
  try simp only [Act.put, List.setIfInBounds_toArray, List.set_cons_zero, List.set_cons_succ]
  try simp only [p0, h0, h1, h2, h3, h4]
  refine q_run ?_ ?_ ?_ ?_
  · kernel_rfl
  rotate_left
  · intro w_ hw_
    obtain ⟨c0, c1, c2, cb⟩ := hw_
    first | (go_simp; done) | (go_simp; with_reducible rfl) | (go_simp; rw [if_neg (by first | omega | (simp; omega))])
  try simp only [Act.put, List.setIfInBounds_toArray, List.set_cons_zero, List.set_cons_succ]
  try simp only [p0, h0, h1, h2, h3, h4]
  first
   | (refine q_skip ?_ ?_
      · rfl)
   | (refine q_run ?_ ?_ ?_ ?_
      · kernel_rfl
      rotate_left
      · intro w_ hw_
        obtain ⟨c0, c1, c2, cb⟩ := hw_
        first | (go_simp; done) | (go_simp; with_reducible rfl) | (go_simp; rw [if_neg (by first | omega | (simp; omega))]))
  try simp only [Act.put, List.setIfInBounds_toArray, List.set_cons_zero, List.set_cons_succ]
  try simp only [p0, h0, h1, h2, h3, h4]
  first
   | (refine q_skip ?_ ?_
      · rfl)
   | (refine q_run ?_ ?_ ?_ ?_
      · kernel_rfl
      rotate_left
      · intro w_ hw_
        obtain ⟨c0, c1, c2, cb⟩ := hw_
        first | (go_simp; done) | (go_simp; with_reducible rfl) | (go_simp; rw [if_neg (by first | omega | (simp; omega))]))
  try simp only [Act.put, List.setIfInBounds_toArray, List.set_cons_zero, List.set_cons_succ]
  try simp only [p0, h0, h1, h2, h3, h4]
  first
   | (refine q_skip ?_ ?_
      · rfl)
   | (refine q_run ?_ ?_ ?_ ?_
      · kernel_rfl
      rotate_left
      · intro w_ hw_
        obtain ⟨c0, c1, c2, cb⟩ := hw_
        first | (go_simp; done) | (go_simp; with_reducible rfl) | (go_simp; rw [if_neg (by first | omega | (simp; omega))]))
  try simp only [Act.put, List.setIfInBounds_toArray, List.set_cons_zero, List.set_cons_succ]
  try simp only [p0, h0, h1, h2, h3, h4]
  refine q_run ?_ ?_ ?_ ?_
  · kernel_rfl
  rotate_left
  · intro w_ hw_
    obtain ⟨c0, c1, c2, cb⟩ := hw_
    first | (go_simp; done) | (go_simp; with_reducible rfl) | (go_simp; rw [if_neg (by first | omega | (simp; omega))])
  try simp only [Act.put, List.setIfInBounds_toArray, List.set_cons_zero, List.set_cons_succ]
  try simp only [p0, h0, h1, h2, h3, h4]
  refine q_run ?_ ?_ ?_ ?_
  · kernel_rfl
  rotate_left
  · intro w_ hw_
    obtain ⟨c0, c1, c2, cb⟩ := hw_
    first | (go_simp; done) | (go_simp; with_reducible rfl) | (go_simp; rw [if_neg (by first | omega | (simp; omega))])
  try simp only [Act.put, List.setIfInBounds_toArray, List.set_cons_zero, List.set_cons_succ]
  try simp only [p0, h0, h1, h2, h3, h4]
  first
   | (refine q_skip ?_ ?_
      · rfl)
   | (refine q_run ?_ ?_ ?_ ?_
      · kernel_rfl
      rotate_left
      · intro w_ hw_
        obtain ⟨c0, c1, c2, cb⟩ := hw_
        first | (go_simp; done) | (go_simp; with_reducible rfl) | (go_simp; rw [if_neg (by first | omega | (simp; omega))]))
  try simp only [Act.put, List.setIfInBounds_toArray, List.set_cons_zero, List.set_cons_succ]
  try simp only [p0, h0, h1, h2, h3, h4]
  first
   | (refine q_skip ?_ ?_
      · rfl)
   | (refine q_run ?_ ?_ ?_ ?_
      · kernel_rfl
      rotate_left
      · intro w_ hw_
        obtain ⟨c0, c1, c2, cb⟩ := hw_
        first | (go_simp; done) | (go_simp; with_reducible rfl) | (go_simp; rw [if_neg (by first | omega | (simp; omega))]))
  try simp only [Act.put, List.setIfInBounds_toArray, List.set_cons_zero, List.set_cons_succ]
  try simp only [p0, h0, h1, h2, h3, h4]
  first
   | (refine q_skip ?_ ?_
      · rfl)
   | (refine q_run ?_ ?_ ?_ ?_
      · kernel_rfl
      rotate_left
      · intro w_ hw_
        obtain ⟨c0, c1, c2, cb⟩ := hw_
        first | (go_simp; done) | (go_simp; with_reducible rfl) | (go_simp; rw [if_neg (by first | omega | (simp; omega))]))
  try simp only [Act.put, List.setIfInBounds_toArray, List.set_cons_zero, List.set_cons_succ]
  try simp only [p0, h0, h1, h2, h3, h4]
  first
   | (refine q_skip ?_ ?_
      · rfl)
   | (refine q_call ?_ (.int .i64 (Rp.cls code)) ?_ ?_ ?_ ?_ ?_
      · kernel_rfl
      rotate_left 2
      · intro w_ hw_
        go_simp
        refine ⟨?_, ?_⟩ <;> with_reducible rfl
      · intro w_ hw_
        obtain ⟨c0, c1, c2, cb⟩ := hw_
        exact ((rclass_any _ _).mono fun _ _ ⟨h1, h2⟩ => ⟨h1, h2 ▸ ⟨c0, c1, c2, cb⟩⟩))
  try simp only [Act.put, List.setIfInBounds_toArray, List.set_cons_zero, List.set_cons_succ]
  try simp only [p0, h0, h1, h2, h3, h4]
  first
   | (refine q_skip ?_ ?_
      · rfl)
   | (refine q_run ?_ ?_ ?_ ?_
      · kernel_rfl
      rotate_left
      · intro w_ hw_
        obtain ⟨c0, c1, c2, cb⟩ := hw_
        first | (go_simp; done) | (go_simp; with_reducible rfl) | (go_simp; rw [if_neg (by first | omega | (simp; omega))]))
  try simp only [Act.put, List.setIfInBounds_toArray, List.set_cons_zero, List.set_cons_succ]
  try simp only [p0, h0, h1, h2, h3, h4]
  refine q_run ?_ ?_ ?_ ?_
  · kernel_rfl
  rotate_left
  · intro w_ hw_
    obtain ⟨c0, c1, c2, cb⟩ := hw_
    first | (go_simp; done) | (go_simp; with_reducible rfl) | (go_simp; rw [if_neg (by first | omega | (simp; omega))])
  try simp only [Act.put, List.setIfInBounds_toArray, List.set_cons_zero, List.set_cons_succ]
  try simp only [p0, h0, h1, h2, h3, h4]
  refine q_run ?_ ?_ ?_ ?_
  · kernel_rfl
  rotate_left
  · intro w_ hw_
    obtain ⟨c0, c1, c2, cb⟩ := hw_
    first | (go_simp; done) | (go_simp; with_reducible rfl) | (go_simp; rw [if_neg (by first | omega | (simp; omega))])
  try simp only [Act.put, List.setIfInBounds_toArray, List.set_cons_zero, List.set_cons_succ]
  try simp only [p0, h0, h1, h2, h3, h4]
  first
   | (refine q_skip ?_ ?_
      · rfl)
   | (refine q_run ?_ ?_ ?_ ?_
      · kernel_rfl
      rotate_left
      · intro w_ hw_
        obtain ⟨c0, c1, c2, cb⟩ := hw_
        first | (go_simp; done) | (go_simp; with_reducible rfl) | (go_simp; rw [if_neg (by first | omega | (simp; omega))]))
  try simp only [Act.put, List.setIfInBounds_toArray, List.set_cons_zero, List.set_cons_succ]
  try simp only [p0, h0, h1, h2, h3, h4]
  first
   | (refine q_skip ?_ ?_
      · rfl)
   | (refine q_run ?_ ?_ ?_ ?_
      · kernel_rfl
      rotate_left
      · intro w_ hw_
        obtain ⟨c0, c1, c2, cb⟩ := hw_
        first | (go_simp; done) | (go_simp; with_reducible rfl) | (go_simp; rw [if_neg (by first | omega | (simp; omega))]))
  try simp only [Act.put, List.setIfInBounds_toArray, List.set_cons_zero, List.set_cons_succ]
  try simp only [p0, h0, h1, h2, h3, h4]
  first
   | (refine q_skip ?_ ?_
      · rfl)
   | (refine q_run ?_ ?_ ?_ ?_
      · kernel_rfl
      rotate_left
      · intro w_ hw_
        obtain ⟨c0, c1, c2, cb⟩ := hw_
        first | (go_simp; done) | (go_simp; with_reducible rfl) | (go_simp; rw [if_neg (by first | omega | (simp; omega))]))
  try simp only [Act.put, List.setIfInBounds_toArray, List.set_cons_zero, List.set_cons_succ]
  try simp only [p0, h0, h1, h2, h3, h4]
  refine q_run ?_ ?_ ?_ ?_
  · kernel_rfl
  rotate_left
  · intro w_ hw_
    obtain ⟨c0, c1, c2, cb⟩ := hw_
    first | (go_simp; done) | (go_simp; with_reducible rfl) | (go_simp; rw [if_neg (by first | omega | (simp; omega))])
  try simp only [Act.put, List.setIfInBounds_toArray, List.set_cons_zero, List.set_cons_succ]
  try simp only [p0, h0, h1, h2, h3, h4]
  refine q_run ?_ ?_ ?_ ?_
  · kernel_rfl
  rotate_left
  · intro w_ hw_
    obtain ⟨c0, c1, c2, cb⟩ := hw_
    first | (go_simp; done) | (go_simp; with_reducible rfl) | (go_simp; rw [if_neg (by first | omega | (simp; omega))])
  try simp only [Act.put, List.setIfInBounds_toArray, List.set_cons_zero, List.set_cons_succ]
  try simp only [p0, h0, h1, h2, h3, h4]
  first
   | (refine q_skip ?_ ?_
      · rfl)
   | (refine q_run ?_ ?_ ?_ ?_
      · kernel_rfl
      rotate_left
      · intro w_ hw_
        obtain ⟨c0, c1, c2, cb⟩ := hw_
        first | (go_simp; done) | (go_simp; with_reducible rfl) | (go_simp; rw [if_neg (by first | omega | (simp; omega))]))
  try simp only [Act.put, List.setIfInBounds_toArray, List.set_cons_zero, List.set_cons_succ]
  try simp only [p0, h0, h1, h2, h3, h4]
  first
   | (refine q_skip ?_ ?_
      · rfl)
   | (refine q_run ?_ ?_ ?_ ?_
      · kernel_rfl
      rotate_left
      · intro w_ hw_
        obtain ⟨c0, c1, c2, cb⟩ := hw_
        first | (go_simp; done) | (go_simp; with_reducible rfl) | (go_simp; rw [if_neg (by first | omega | (simp; omega))]))
  try simp only [Act.put, List.setIfInBounds_toArray, List.set_cons_zero, List.set_cons_succ]
  try simp only [p0, h0, h1, h2, h3, h4]
  first
   | (refine q_skip ?_ ?_
      · rfl)
   | (refine q_run ?_ ?_ ?_ ?_
      · kernel_rfl
      rotate_left
      · intro w_ hw_
        obtain ⟨c0, c1, c2, cb⟩ := hw_
        first | (go_simp; done) | (go_simp; with_reducible rfl) | (go_simp; rw [if_neg (by first | omega | (simp; omega))]))
  try simp only [Act.put, List.setIfInBounds_toArray, List.set_cons_zero, List.set_cons_succ]
  try simp only [p0, h0, h1, h2, h3, h4]
  refine q_run ?_ ?_ ?_ ?_
  · kernel_rfl
  rotate_left
  · intro w_ hw_
    obtain ⟨c0, c1, c2, cb⟩ := hw_
    first | (go_simp; done) | (go_simp; with_reducible rfl) | (go_simp; rw [if_neg (by first | omega | (simp; omega))])
  try simp only [Act.put, List.setIfInBounds_toArray, List.set_cons_zero, List.set_cons_succ]
  try simp only [p0, h0, h1, h2, h3, h4]
  refine q_run ?_ ?_ ?_ ?_
  · kernel_rfl
  rotate_left
  · intro w_ hw_
    obtain ⟨c0, c1, c2, cb⟩ := hw_
    first | (go_simp; done) | (go_simp; with_reducible rfl) | (go_simp; rw [if_neg (by first | omega | (simp; omega))])
  try simp only [Act.put, List.setIfInBounds_toArray, List.set_cons_zero, List.set_cons_succ]
  try simp only [p0, h0, h1, h2, h3, h4]
  first
   | (refine q_skip ?_ ?_
      · rfl)
   | (refine q_run ?_ ?_ ?_ ?_
      · kernel_rfl
      rotate_left
      · intro w_ hw_
        obtain ⟨c0, c1, c2, cb⟩ := hw_
        first | (go_simp; done) | (go_simp; with_reducible rfl) | (go_simp; rw [if_neg (by first | omega | (simp; omega))]))
  try simp only [Act.put, List.setIfInBounds_toArray, List.set_cons_zero, List.set_cons_succ]
  try simp only [p0, h0, h1, h2, h3, h4]
  first
   | (refine q_skip ?_ ?_
      · rfl)
   | (refine q_run ?_ ?_ ?_ ?_
      · kernel_rfl
      rotate_left
      · intro w_ hw_
        obtain ⟨c0, c1, c2, cb⟩ := hw_
        first | (go_simp; done) | (go_simp; with_reducible rfl) | (go_simp; rw [if_neg (by first | omega | (simp; omega))]))
  try simp only [Act.put, List.setIfInBounds_toArray, List.set_cons_zero, List.set_cons_succ]
  try simp only [p0, h0, h1, h2, h3, h4]
  first
   | (refine q_skip ?_ ?_
      · rfl)
   | (refine q_run ?_ ?_ ?_ ?_
      · kernel_rfl
      rotate_left
      · intro w_ hw_
        obtain ⟨c0, c1, c2, cb⟩ := hw_
        first | (go_simp; done) | (go_simp; with_reducible rfl) | (go_simp; rw [if_neg (by first | omega | (simp; omega))]))
  try simp only [Act.put, List.setIfInBounds_toArray, List.set_cons_zero, List.set_cons_succ]
  try simp only [p0, h0, h1, h2, h3, h4]
  refine q_run ?_ ?_ ?_ ?_
  · kernel_rfl
  rotate_left
  · intro w_ hw_
    obtain ⟨c0, c1, c2, cb⟩ := hw_
    first | (go_simp; done) | (go_simp; with_reducible rfl) | (go_simp; rw [if_neg (by first | omega | (simp; omega))])
  try simp only [Act.put, List.setIfInBounds_toArray, List.set_cons_zero, List.set_cons_succ]
  try simp only [p0, h0, h1, h2, h3, h4]
  refine q_run ?_ ?_ ?_ ?_
  · kernel_rfl
  rotate_left
  · intro w_ hw_
    obtain ⟨c0, c1, c2, cb⟩ := hw_
    first | (go_simp; done) | (go_simp; with_reducible rfl) | (go_simp; rw [if_neg (by first | omega | (simp; omega))])
  try simp only [Act.put, List.setIfInBounds_toArray, List.set_cons_zero, List.set_cons_succ]
  try simp only [p0, h0, h1, h2, h3, h4]
  first
   | (refine q_skip ?_ ?_
      · rfl)
   | (refine q_run ?_ ?_ ?_ ?_
      · kernel_rfl
      rotate_left
      · intro w_ hw_
        obtain ⟨c0, c1, c2, cb⟩ := hw_
        first | (go_simp; done) | (go_simp; with_reducible rfl) | (go_simp; rw [if_neg (by first | omega | (simp; omega))]))
  try simp only [Act.put, List.setIfInBounds_toArray, List.set_cons_zero, List.set_cons_succ]
  try simp only [p0, h0, h1, h2, h3, h4]
  first
   | (refine q_skip ?_ ?_
      · rfl)
   | (refine q_run ?_ ?_ ?_ ?_
      · kernel_rfl
      rotate_left
      · intro w_ hw_
        obtain ⟨c0, c1, c2, cb⟩ := hw_
        first | (go_simp; done) | (go_simp; with_reducible rfl) | (go_simp; rw [if_neg (by first | omega | (simp; omega))]))
  try simp only [Act.put, List.setIfInBounds_toArray, List.set_cons_zero, List.set_cons_succ]
  try simp only [p0, h0, h1, h2, h3, h4]
  first
   | (refine q_skip ?_ ?_
      · rfl)
   | (refine q_run ?_ ?_ ?_ ?_
      · kernel_rfl
      rotate_left
      · intro w_ hw_
        obtain ⟨c0, c1, c2, cb⟩ := hw_
        first | (go_simp; done) | (go_simp; with_reducible rfl) | (go_simp; rw [if_neg (by first | omega | (simp; omega))]))
  try simp only [Act.put, List.setIfInBounds_toArray, List.set_cons_zero, List.set_cons_succ]
  try simp only [p0, h0, h1, h2, h3, h4]
  refine q_run ?_ ?_ ?_ ?_
  · kernel_rfl
  rotate_left
  · intro w_ hw_
    obtain ⟨c0, c1, c2, cb⟩ := hw_
    first | (go_simp; done) | (go_simp; with_reducible rfl) | (go_simp; rw [if_neg (by first | omega | (simp; omega))])
  try simp only [Act.put, List.setIfInBounds_toArray, List.set_cons_zero, List.set_cons_succ]
  try simp only [p0, h0, h1, h2, h3, h4]
  refine q_run ?_ ?_ ?_ ?_
  · kernel_rfl
  rotate_left
  · intro w_ hw_
    obtain ⟨c0, c1, c2, cb⟩ := hw_
    first | (go_simp; done) | (go_simp; with_reducible rfl) | (go_simp; rw [if_neg (by first | omega | (simp; omega))])
  try simp only [Act.put, List.setIfInBounds_toArray, List.set_cons_zero, List.set_cons_succ]
  try simp only [p0, h0, h1, h2, h3, h4]
  refine q_nil ?_
  intro W_ hC_
  go_wp2
  go_ret
  exact ⟨rfl, hC_.2.2.2⟩
set_option maxHeartbeats 4000000 in
theorem rfits_g0k5 (code a b c : Int) (h : Rp.none3 a b c = false) (p0 : (a == 2) = true) (h0 : ((a : Int) == Rp.cls code) = true) (h1 : decide (0 ≤ b) = true) (h2 : decide (b < 1000) = true) (h3 : decide (0 ≤ c) = true) (h4 : decide (c < 1000) = true) (w : World) : Calls Tryd.prog 37 #[.int .i64 code, .agg #[.int .i64 a, .int .i64 b, .int .i64 c]] w fun e w' => e = .returned (.bool true) ∧ Below w.heap.size w w' := by
  have M : Aside (Mine w [(w.heap.size, #[.int .i64 a, .int .i64 b, .int .i64 c], 23)] (w.alloc (.cells #[.int .i64 a, .int .i64 b, .int .i64 c] 23))) := ⟨(Mine.start w).alloc _ _⟩
  go_enter Tryd.func37, Tryd.ntmps37
  go_wp2_with (go_at_call 52; (with_reducible refine (rnone_any a b c _).mono ?_); rintro e w1 ⟨rfl, hb⟩; rw [h]; replace M := Aside.mk (M.out.next hb); clear hb; have z0 := Mine.at M.out 0 _ rfl; have z1 := Mine.at M.out 1 _ rfl; have z2 := Mine.at M.out 2 _ rfl; have zl := Mine.lt M.out)
  refine region_class (C := (fun w' => w'.cell? ⟨w.heap.size, 0, none⟩ = some (.int .i64 a) ∧ w'.cell? ⟨w.heap.size, 1, none⟩ = some (.int .i64 b) ∧ w'.cell? ⟨w.heap.size, 2, none⟩ = some (.int .i64 c) ∧ Below w.heap.size w w')) (by kernel_rfl) (by kernel_rfl) ⟨(M.out.drewN 1).at 0 _ rfl, (M.out.drewN 1).at 1 _ rfl, (M.out.drewN 1).at 2 _ rfl, (M.out.drewN 1).low⟩ ?_
  refine q_run ?_ ?_ ?_ ?_
  · kernel_rfl
  rotate_left
  · intro w_ hw_
    obtain ⟨c0, c1, c2, cb⟩ := hw_
    first | (go_simp; done) | (go_simp; with_reducible rfl) | (go_simp; rw [if_neg (by first | omega | (simp; omega))])
  try simp only [Act.put, List.setIfInBounds_toArray, List.set_cons_zero, List.set_cons_succ]
  try simp only [p0, h0, h1, h2, h3, h4]
  refine q_run ?_ ?_ ?_ ?_
  · kernel_rfl
  rotate_left
  · intro w_ hw_
    obtain ⟨c0, c1, c2, cb⟩ := hw_
    first | (go_simp; done) | (go_simp; with_reducible rfl) | (go_simp; rw [if_neg (by first | omega | (simp; omega))])
  try simp only [Act.put, List.setIfInBounds_toArray, List.set_cons_zero, List.set_cons_succ]
  try simp only [p0, h0, h1, h2, h3, h4]
  refine q_run ?_ ?_ ?_ ?_
  · kernel_rfl
  rotate_left
  · intro w_ hw_
    obtain ⟨c0, c1, c2, cb⟩ := hw_
    first | (go_simp; done) | (go_simp; with_reducible rfl) | (go_simp; rw [if_neg (by first | omega | (simp; omega))])
  try simp only [Act.put, List.setIfInBounds_toArray, List.set_cons_zero, List.set_cons_succ]
  try simp only [p0, h0, h1, h2, h3, h4]
  refine q_run ?_ ?_ ?_ ?_
  · kernel_rfl
  rotate_left
  · intro w_ hw_
    obtain ⟨c0, c1, c2, cb⟩ := hw_
    first | (go_simp; done) | (go_simp; with_reducible rfl) | (go_simp; rw [if_neg (by first | omega | (simp; omega))])
  try simp only [Act.put, List.setIfInBounds_toArray, List.set_cons_zero, List.set_cons_succ]
  try simp only [p0, h0, h1, h2, h3, h4]
  first
   | (refine q_skip ?_ ?_
      · rfl)
   | (refine q_run ?_ ?_ ?_ ?_
      · kernel_rfl
      rotate_left
      · intro w_ hw_
        obtain ⟨c0, c1, c2, cb⟩ := hw_
        first | (go_simp; done) | (go_simp; with_reducible rfl) | (go_simp; rw [if_neg (by first | omega | (simp; omega))]))
  try simp only [Act.put, List.setIfInBounds_toArray, List.set_cons_zero, List.set_cons_succ]
  try simp only [p0, h0, h1, h2, h3, h4]
  first
   | (refine q_skip ?_ ?_
      · rfl)
   | (refine q_run ?_ ?_ ?_ ?_
      · kernel_rfl
      rotate_left
      · intro w_ hw_
        obtain ⟨c0, c1, c2, cb⟩ := hw_
        first | (go_simp; done) | (go_simp; with_reducible rfl) | (go_simp; rw [if_neg (by first | omega | (simp; omega))]))
  try simp only [Act.put, List.setIfInBounds_toArray, List.set_cons_zero, List.set_cons_succ]
  try simp only [p0, h0, h1, h2, h3, h4]
  first
   | (refine q_skip ?_ ?_
      · rfl)
   | (refine q_run ?_ ?_ ?_ ?_
      · kernel_rfl
      rotate_left
      · intro w_ hw_
        obtain ⟨c0, c1, c2, cb⟩ := hw_
        first | (go_simp; done) | (go_simp; with_reducible rfl) | (go_simp; rw [if_neg (by first | omega | (simp; omega))]))
  try simp only [Act.put, List.setIfInBounds_toArray, List.set_cons_zero, List.set_cons_succ]
  try simp only [p0, h0, h1, h2, h3, h4]
  refine q_run ?_ ?_ ?_ ?_
  · kernel_rfl
  rotate_left
  · intro w_ hw_
    obtain ⟨c0, c1, c2, cb⟩ := hw_
    first | (go_simp; done) | (go_simp; with_reducible rfl) | (go_simp; rw [if_neg (by first | omega | (simp; omega))])
  try simp only [Act.put, List.setIfInBounds_toArray, List.set_cons_zero, List.set_cons_succ]
  try simp only [p0, h0, h1, h2, h3, h4]
  refine q_run ?_ ?_ ?_ ?_
  · kernel_rfl
  rotate_left
  · intro w_ hw_
    obtain ⟨c0, c1, c2, cb⟩ := hw_
    first | (go_simp; done) | (go_simp; with_reducible rfl) | (go_simp; rw [if_neg (by first | omega | (simp; omega))])
  try simp only [Act.put, List.setIfInBounds_toArray, List.set_cons_zero, List.set_cons_succ]
  try simp only [p0, h0, h1, h2, h3, h4]
  first
   | (refine q_skip ?_ ?_
      · rfl)
   | (refine q_run ?_ ?_ ?_ ?_
      · kernel_rfl
      rotate_left
      · intro w_ hw_
        obtain ⟨c0, c1, c2, cb⟩ := hw_
        first | (go_simp; done) | (go_simp; with_reducible rfl) | (go_simp; rw [if_neg (by first | omega | (simp; omega))]))
  try simp only [Act.put, List.setIfInBounds_toArray, List.set_cons_zero, List.set_cons_succ]
  try simp only [p0, h0, h1, h2, h3, h4]
  first
   | (refine q_skip ?_ ?_
      · rfl)
   | (refine q_run ?_ ?_ ?_ ?_
      · kernel_rfl
      rotate_left
      · intro w_ hw_
        obtain ⟨c0, c1, c2, cb⟩ := hw_
        first | (go_simp; done) | (go_simp; with_reducible rfl) | (go_simp; rw [if_neg (by first | omega | (simp; omega))]))
  try simp only [Act.put, List.setIfInBounds_toArray, List.set_cons_zero, List.set_cons_succ]
  try simp only [p0, h0, h1, h2, h3, h4]
  first
   | (refine q_skip ?_ ?_
      · rfl)
   | (refine q_run ?_ ?_ ?_ ?_
      · kernel_rfl
      rotate_left
      · intro w_ hw_
        obtain ⟨c0, c1, c2, cb⟩ := hw_
        first | (go_simp; done) | (go_simp; with_reducible rfl) | (go_simp; rw [if_neg (by first | omega | (simp; omega))]))
  try simp only [Act.put, List.setIfInBounds_toArray, List.set_cons_zero, List.set_cons_succ]
  try simp only [p0, h0, h1, h2, h3, h4]
  refine q_run ?_ ?_ ?_ ?_
  · kernel_rfl
  rotate_left
  · intro w_ hw_
    obtain ⟨c0, c1, c2, cb⟩ := hw_
    first | (go_simp; done) | (go_simp; with_reducible rfl) | (go_simp; rw [if_neg (by first | omega | (simp; omega))])
  try simp only [Act.put, List.setIfInBounds_toArray, List.set_cons_zero, List.set_cons_succ]
  try simp only [p0, h0, h1, h2, h3, h4]
  refine q_run ?_ ?_ ?_ ?_
  · kernel_rfl
  rotate_left
  · intro w_ hw_
    obtain ⟨c0, c1, c2, cb⟩ := hw_
    first | (go_simp; done) | (go_simp; with_reducible rfl) | (go_simp; rw [if_neg (by first | omega | (simp; omega))])
  try simp only [Act.put, List.setIfInBounds_toArray, List.set_cons_zero, List.set_cons_succ]
  try simp only [p0, h0, h1, h2, h3, h4]
  first
   | (refine q_skip ?_ ?_
      · rfl)
   | (refine q_run ?_ ?_ ?_ ?_
      · kernel_rfl
      rotate_left
      · intro w_ hw_
        obtain ⟨c0, c1, c2, cb⟩ := hw_
        first | (go_simp; done) | (go_simp; with_reducible rfl) | (go_simp; rw [if_neg (by first | omega | (simp; omega))]))
  try simp only [Act.put, List.setIfInBounds_toArray, List.set_cons_zero, List.set_cons_succ]
  try simp only [p0, h0, h1, h2, h3, h4]
  first
   | (refine q_skip ?_ ?_
      · rfl)
   | (refine q_run ?_ ?_ ?_ ?_
      · kernel_rfl
      rotate_left
      · intro w_ hw_
        obtain ⟨c0, c1, c2, cb⟩ := hw_
        first | (go_simp; done) | (go_simp; with_reducible rfl) | (go_simp; rw [if_neg (by first | omega | (simp; omega))]))
  try simp only [Act.put, List.setIfInBounds_toArray, List.set_cons_zero, List.set_cons_succ]
  try simp only [p0, h0, h1, h2, h3, h4]
  first
   | (refine q_skip ?_ ?_
      · rfl)
   | (refine q_run ?_ ?_ ?_ ?_
      · kernel_rfl
      rotate_left
      · intro w_ hw_
        obtain ⟨c0, c1, c2, cb⟩ := hw_
        first | (go_simp; done) | (go_simp; with_reducible rfl) | (go_simp; rw [if_neg (by first | omega | (simp; omega))]))
  try simp only [Act.put, List.setIfInBounds_toArray, List.set_cons_zero, List.set_cons_succ]
  try simp only [p0, h0, h1, h2, h3, h4]
  first
   | (refine q_skip ?_ ?_
      · rfl)
   | (refine q_call ?_ (.int .i64 (Rp.cls code)) ?_ ?_ ?_ ?_ ?_
      · kernel_rfl
      rotate_left 2
      · intro w_ hw_
        go_simp
        refine ⟨?_, ?_⟩ <;> with_reducible rfl
      · intro w_ hw_
        obtain ⟨c0, c1, c2, cb⟩ := hw_
        exact ((rclass_any _ _).mono fun _ _ ⟨h1, h2⟩ => ⟨h1, h2 ▸ ⟨c0, c1, c2, cb⟩⟩))
  try simp only [Act.put, List.setIfInBounds_toArray, List.set_cons_zero, List.set_cons_succ]
  try simp only [p0, h0, h1, h2, h3, h4]
  first
   | (refine q_skip ?_ ?_
      · rfl)
   | (refine q_run ?_ ?_ ?_ ?_
      · kernel_rfl
      rotate_left
      · intro w_ hw_
        obtain ⟨c0, c1, c2, cb⟩ := hw_
        first | (go_simp; done) | (go_simp; with_reducible rfl) | (go_simp; rw [if_neg (by first | omega | (simp; omega))]))
  try simp only [Act.put, List.setIfInBounds_toArray, List.set_cons_zero, List.set_cons_succ]
  try simp only [p0, h0, h1, h2, h3, h4]
  refine q_run ?_ ?_ ?_ ?_
  · kernel_rfl
  rotate_left
  · intro w_ hw_
    obtain ⟨c0, c1, c2, cb⟩ := hw_
    first | (go_simp; done) | (go_simp; with_reducible rfl) | (go_simp; rw [if_neg (by first | omega | (simp; omega))])
  try simp only [Act.put, List.setIfInBounds_toArray, List.set_cons_zero, List.set_cons_succ]
  try simp only [p0, h0, h1, h2, h3, h4]
  refine q_run ?_ ?_ ?_ ?_
  · kernel_rfl
  rotate_left
  · intro w_ hw_
    obtain ⟨c0, c1, c2, cb⟩ := hw_
    first | (go_simp; done) | (go_simp; with_reducible rfl) | (go_simp; rw [if_neg (by first | omega | (simp; omega))])
  try simp only [Act.put, List.setIfInBounds_toArray, List.set_cons_zero, List.set_cons_succ]
  try simp only [p0, h0, h1, h2, h3, h4]
  first
   | (refine q_skip ?_ ?_
      · rfl)
   | (refine q_run ?_ ?_ ?_ ?_
      · kernel_rfl
      rotate_left
      · intro w_ hw_
        obtain ⟨c0, c1, c2, cb⟩ := hw_
        first | (go_simp; done) | (go_simp; with_reducible rfl) | (go_simp; rw [if_neg (by first | omega | (simp; omega))]))
  try simp only [Act.put, List.setIfInBounds_toArray, List.set_cons_zero, List.set_cons_succ]
  try simp only [p0, h0, h1, h2, h3, h4]
  first
   | (refine q_skip ?_ ?_
      · rfl)
   | (refine q_run ?_ ?_ ?_ ?_
      · kernel_rfl
      rotate_left
      · intro w_ hw_
        obtain ⟨c0, c1, c2, cb⟩ := hw_
        first | (go_simp; done) | (go_simp; with_reducible rfl) | (go_simp; rw [if_neg (by first | omega | (simp; omega))]))
  try simp only [Act.put, List.setIfInBounds_toArray, List.set_cons_zero, List.set_cons_succ]
  try simp only [p0, h0, h1, h2, h3, h4]
  first
   | (refine q_skip ?_ ?_
      · rfl)
   | (refine q_run ?_ ?_ ?_ ?_
      · kernel_rfl
      rotate_left
      · intro w_ hw_
        obtain ⟨c0, c1, c2, cb⟩ := hw_
        first | (go_simp; done) | (go_simp; with_reducible rfl) | (go_simp; rw [if_neg (by first | omega | (simp; omega))]))
  try simp only [Act.put, List.setIfInBounds_toArray, List.set_cons_zero, List.set_cons_succ]
  try simp only [p0, h0, h1, h2, h3, h4]
  refine q_run ?_ ?_ ?_ ?_
  · kernel_rfl
  rotate_left
  · intro w_ hw_
    obtain ⟨c0, c1, c2, cb⟩ := hw_
    first | (go_simp; done) | (go_simp; with_reducible rfl) | (go_simp; rw [if_neg (by first | omega | (simp; omega))])
  try simp only [Act.put, List.setIfInBounds_toArray, List.set_cons_zero, List.set_cons_succ]
  try simp only [p0, h0, h1, h2, h3, h4]
  refine q_run ?_ ?_ ?_ ?_
  · kernel_rfl
  rotate_left
  · intro w_ hw_
    obtain ⟨c0, c1, c2, cb⟩ := hw_
    first | (go_simp; done) | (go_simp; with_reducible rfl) | (go_simp; rw [if_neg (by first | omega | (simp; omega))])
  try simp only [Act.put, List.setIfInBounds_toArray, List.set_cons_zero, List.set_cons_succ]
  try simp only [p0, h0, h1, h2, h3, h4]
  first
   | (refine q_skip ?_ ?_
      · rfl)
   | (refine q_run ?_ ?_ ?_ ?_
      · kernel_rfl
      rotate_left
      · intro w_ hw_
        obtain ⟨c0, c1, c2, cb⟩ := hw_
        first | (go_simp; done) | (go_simp; with_reducible rfl) | (go_simp; rw [if_neg (by first | omega | (simp; omega))]))
  try simp only [Act.put, List.setIfInBounds_toArray, List.set_cons_zero, List.set_cons_succ]
  try simp only [p0, h0, h1, h2, h3, h4]
  first
   | (refine q_skip ?_ ?_
      · rfl)
   | (refine q_run ?_ ?_ ?_ ?_
      · kernel_rfl
      rotate_left
      · intro w_ hw_
        obtain ⟨c0, c1, c2, cb⟩ := hw_
        first | (go_simp; done) | (go_simp; with_reducible rfl) | (go_simp; rw [if_neg (by first | omega | (simp; omega))]))
  try simp only [Act.put, List.setIfInBounds_toArray, List.set_cons_zero, List.set_cons_succ]
  try simp only [p0, h0, h1, h2, h3, h4]
  first
   | (refine q_skip ?_ ?_
      · rfl)
   | (refine q_run ?_ ?_ ?_ ?_
      · kernel_rfl
      rotate_left
      · intro w_ hw_
        obtain ⟨c0, c1, c2, cb⟩ := hw_
        first | (go_simp; done) | (go_simp; with_reducible rfl) | (go_simp; rw [if_neg (by first | omega | (simp; omega))]))
  try simp only [Act.put, List.setIfInBounds_toArray, List.set_cons_zero, List.set_cons_succ]
  try simp only [p0, h0, h1, h2, h3, h4]
  refine q_run ?_ ?_ ?_ ?_
  · kernel_rfl
  rotate_left
  · intro w_ hw_
    obtain ⟨c0, c1, c2, cb⟩ := hw_
    first | (go_simp; done) | (go_simp; with_reducible rfl) | (go_simp; rw [if_neg (by first | omega | (simp; omega))])
  try simp only [Act.put, List.setIfInBounds_toArray, List.set_cons_zero, List.set_cons_succ]
  try simp only [p0, h0, h1, h2, h3, h4]
  refine q_run ?_ ?_ ?_ ?_
  · kernel_rfl
  rotate_left
  · intro w_ hw_
    obtain ⟨c0, c1, c2, cb⟩ := hw_
    first | (go_simp; done) | (go_simp; with_reducible rfl) | (go_simp; rw [if_neg (by first | omega | (simp; omega))])
  try simp only [Act.put, List.setIfInBounds_toArray, List.set_cons_zero, List.set_cons_succ]
  try simp only [p0, h0, h1, h2, h3, h4]
  first
   | (refine q_skip ?_ ?_
      · rfl)
   | (refine q_run ?_ ?_ ?_ ?_
      · kernel_rfl
      rotate_left
      · intro w_ hw_
        obtain ⟨c0, c1, c2, cb⟩ := hw_
        first | (go_simp; done) | (go_simp; with_reducible rfl) | (go_simp; rw [if_neg (by first | omega | (simp; omega))]))
  try simp only [Act.put, List.setIfInBounds_toArray, List.set_cons_zero, List.set_cons_succ]
  try simp only [p0, h0, h1, h2, h3, h4]
  first
   | (refine q_skip ?_ ?_
      · rfl)
   | (refine q_run ?_ ?_ ?_ ?_
      · kernel_rfl
      rotate_left
      · intro w_ hw_
        obtain ⟨c0, c1, c2, cb⟩ := hw_
        first | (go_simp; done) | (go_simp; with_reducible rfl) | (go_simp; rw [if_neg (by first | omega | (simp; omega))]))
  try simp only [Act.put, List.setIfInBounds_toArray, List.set_cons_zero, List.set_cons_succ]
  try simp only [p0, h0, h1, h2, h3, h4]
  first
   | (refine q_skip ?_ ?_
      · rfl)
   | (refine q_run ?_ ?_ ?_ ?_
      · kernel_rfl
      rotate_left
      · intro w_ hw_
        obtain ⟨c0, c1, c2, cb⟩ := hw_
        first | (go_simp; done) | (go_simp; with_reducible rfl) | (go_simp; rw [if_neg (by first | omega | (simp; omega))]))
  try simp only [Act.put, List.setIfInBounds_toArray, List.set_cons_zero, List.set_cons_succ]
  try simp only [p0, h0, h1, h2, h3, h4]
  refine q_run ?_ ?_ ?_ ?_
  · kernel_rfl
  rotate_left
  · intro w_ hw_
    obtain ⟨c0, c1, c2, cb⟩ := hw_
    first | (go_simp; done) | (go_simp; with_reducible rfl) | (go_simp; rw [if_neg (by first | omega | (simp; omega))])
  try simp only [Act.put, List.setIfInBounds_toArray, List.set_cons_zero, List.set_cons_succ]
  try simp only [p0, h0, h1, h2, h3, h4]
  refine q_run ?_ ?_ ?_ ?_
  · kernel_rfl
  rotate_left
  · intro w_ hw_
    obtain ⟨c0, c1, c2, cb⟩ := hw_
    first | (go_simp; done) | (go_simp; with_reducible rfl) | (go_simp; rw [if_neg (by first | omega | (simp; omega))])
  try simp only [Act.put, List.setIfInBounds_toArray, List.set_cons_zero, List.set_cons_succ]
  try simp only [p0, h0, h1, h2, h3, h4]
  first
   | (refine q_skip ?_ ?_
      · rfl)
   | (refine q_run ?_ ?_ ?_ ?_
      · kernel_rfl
      rotate_left
      · intro w_ hw_
        obtain ⟨c0, c1, c2, cb⟩ := hw_
        first | (go_simp; done) | (go_simp; with_reducible rfl) | (go_simp; rw [if_neg (by first | omega | (simp; omega))]))
  try simp only [Act.put, List.setIfInBounds_toArray, List.set_cons_zero, List.set_cons_succ]
  try simp only [p0, h0, h1, h2, h3, h4]
  first
   | (refine q_skip ?_ ?_
      · rfl)
   | (refine q_run ?_ ?_ ?_ ?_
      · kernel_rfl
      rotate_left
      · intro w_ hw_
        obtain ⟨c0, c1, c2, cb⟩ := hw_
        first | (go_simp; done) | (go_simp; with_reducible rfl) | (go_simp; rw [if_neg (by first | omega | (simp; omega))]))
  try simp only [Act.put, List.setIfInBounds_toArray, List.set_cons_zero, List.set_cons_succ]
  try simp only [p0, h0, h1, h2, h3, h4]
  first
   | (refine q_skip ?_ ?_
      · rfl)
   | (refine q_run ?_ ?_ ?_ ?_
      · kernel_rfl
      rotate_left
      · intro w_ hw_
        obtain ⟨c0, c1, c2, cb⟩ := hw_
        first | (go_simp; done) | (go_simp; with_reducible rfl) | (go_simp; rw [if_neg (by first | omega | (simp; omega))]))
  try simp only [Act.put, List.setIfInBounds_toArray, List.set_cons_zero, List.set_cons_succ]
  try simp only [p0, h0, h1, h2, h3, h4]
  refine q_run ?_ ?_ ?_ ?_
  · kernel_rfl
  rotate_left
  · intro w_ hw_
    obtain ⟨c0, c1, c2, cb⟩ := hw_
    first | (go_simp; done) | (go_simp; with_reducible rfl) | (go_simp; rw [if_neg (by first | omega | (simp; omega))])
  try simp only [Act.put, List.setIfInBounds_toArray, List.set_cons_zero, List.set_cons_succ]
  try simp only [p0, h0, h1, h2, h3, h4]
  refine q_run ?_ ?_ ?_ ?_
  · kernel_rfl
  rotate_left
  · intro w_ hw_
    obtain ⟨c0, c1, c2, cb⟩ := hw_
    first | (go_simp; done) | (go_simp; with_reducible rfl) | (go_simp; rw [if_neg (by first | omega | (simp; omega))])
  try simp only [Act.put, List.setIfInBounds_toArray, List.set_cons_zero, List.set_cons_succ]
  try simp only [p0, h0, h1, h2, h3, h4]
  refine q_nil ?_
  intro W_ hC_
  go_wp2
  go_ret
  exact ⟨rfl, hC_.2.2.2⟩
end Go.Proofs.YtfeedokfcebjjaaDoor
