/-
  Walks of the package reply: the reference's fits.
-/
import Derived.Test.YtfeedokfcebjjaaDoorRrB
import Derived.Test.YtfeedokfcebjjaaDoorRpLine
import Derived.Test.YtfeedokfcebjjaaDoorRpEnh
import Derived.Test.YtfeedokfcebjjaaDoorQuiet2
import Derived.Test.YtfeedokfcebjjaaDoorMem3
set_option linter.unusedVariables false
set_option linter.unusedSimpArgs false
namespace Go.Proofs.YtfeedokfcebjjaaDoor
open Go.RowKit
set_option maxRecDepth 100000
attribute [local go_sem] equal3
set_option maxHeartbeats 4000000 in
theorem rfits_g1k0 (code a b c : Int) (h : Rp.none3 a b c = false) (p0 : (a == 2) = false) (p1 : (a == 4) = true) (h0 : ((a : Int) == Rp.cls code) = false) (w : World) : Calls Tryd.prog 37 #[.int .i64 code, .agg #[.int .i64 a, .int .i64 b, .int .i64 c]] w fun e w' => e = .returned (.bool false) ∧ Below w.heap.size w w' := by
  have M : Aside (Mine w [(w.heap.size, #[.int .i64 a, .int .i64 b, .int .i64 c], 23)] (w.alloc (.cells #[.int .i64 a, .int .i64 b, .int .i64 c] 23))) := ⟨(Mine.start w).alloc _ _⟩
  go_enter Tryd.func37, Tryd.ntmps37
  go_wp2_with (go_at_call 52; (with_reducible refine (rnone_any a b c _).mono ?_); rintro e w1 ⟨rfl, hb⟩; rw [h]; replace M := Aside.mk (M.out.next hb); clear hb; have z0 := Mine.at M.out 0 _ rfl; have z1 := Mine.at M.out 1 _ rfl; have z2 := Mine.at M.out 2 _ rfl; have zl := Mine.lt M.out)
  refine region_class (C := (fun w' => w'.cell? ⟨w.heap.size, 0, none⟩ = some (.int .i64 a) ∧ w'.cell? ⟨w.heap.size, 1, none⟩ = some (.int .i64 b) ∧ w'.cell? ⟨w.heap.size, 2, none⟩ = some (.int .i64 c) ∧ Below w.heap.size w w')) (by kernel_rfl) (by kernel_rfl) ⟨(M.out.drewN 1).at 0 _ rfl, (M.out.drewN 1).at 1 _ rfl, (M.out.drewN 1).at 2 _ rfl, (M.out.drewN 1).low⟩ ?_
  refine q_run ?_ ?_ ?_ ?_
  · kernel_rfl
  rotate_left
  · intro w_ hw_
    obtain ⟨c0, c1, c2, cb⟩ := hw_
    first | (go_simp; done) | (go_simp; with_reducible rfl) | (go_simp; rw [if_neg (by first | omega | (simp; omega))])
  try simp only [Act.put, List.setIfInBounds_toArray, List.set_cons_zero, List.set_cons_succ]
  try simp only [p0, p1, h0]
  refine q_run ?_ ?_ ?_ ?_
  · kernel_rfl
  rotate_left
  · intro w_ hw_
    obtain ⟨c0, c1, c2, cb⟩ := hw_
    first | (go_simp; done) | (go_simp; with_reducible rfl) | (go_simp; rw [if_neg (by first | omega | (simp; omega))])
  try simp only [Act.put, List.setIfInBounds_toArray, List.set_cons_zero, List.set_cons_succ]
  try simp only [p0, p1, h0]
  refine q_run ?_ ?_ ?_ ?_
  · kernel_rfl
  rotate_left
  · intro w_ hw_
    obtain ⟨c0, c1, c2, cb⟩ := hw_
    first | (go_simp; done) | (go_simp; with_reducible rfl) | (go_simp; rw [if_neg (by first | omega | (simp; omega))])
  try simp only [Act.put, List.setIfInBounds_toArray, List.set_cons_zero, List.set_cons_succ]
  try simp only [p0, p1, h0]
  refine q_run ?_ ?_ ?_ ?_
  · kernel_rfl
  rotate_left
  · intro w_ hw_
    obtain ⟨c0, c1, c2, cb⟩ := hw_
    first | (go_simp; done) | (go_simp; with_reducible rfl) | (go_simp; rw [if_neg (by first | omega | (simp; omega))])
  try simp only [Act.put, List.setIfInBounds_toArray, List.set_cons_zero, List.set_cons_succ]
  try simp only [p0, p1, h0]
  first
   | (refine q_skip ?_ ?_
      · rfl)
   | (refine q_run ?_ ?_ ?_ ?_
      · kernel_rfl
      rotate_left
      · intro w_ hw_
        obtain ⟨c0, c1, c2, cb⟩ := hw_
        first | (go_simp; done) | (go_simp; with_reducible rfl) | (go_simp; rw [if_neg (by first | omega | (simp; omega))]))
  try simp only [Act.put, List.setIfInBounds_toArray, List.set_cons_zero, List.set_cons_succ]
  try simp only [p0, p1, h0]
  first
   | (refine q_skip ?_ ?_
      · rfl)
   | (refine q_run ?_ ?_ ?_ ?_
      · kernel_rfl
      rotate_left
      · intro w_ hw_
        obtain ⟨c0, c1, c2, cb⟩ := hw_
        first | (go_simp; done) | (go_simp; with_reducible rfl) | (go_simp; rw [if_neg (by first | omega | (simp; omega))]))
  try simp only [Act.put, List.setIfInBounds_toArray, List.set_cons_zero, List.set_cons_succ]
  try simp only [p0, p1, h0]
  first
   | (refine q_skip ?_ ?_
      · rfl)
   | (refine q_run ?_ ?_ ?_ ?_
      · kernel_rfl
      rotate_left
      · intro w_ hw_
        obtain ⟨c0, c1, c2, cb⟩ := hw_
        first | (go_simp; done) | (go_simp; with_reducible rfl) | (go_simp; rw [if_neg (by first | omega | (simp; omega))]))
  try simp only [Act.put, List.setIfInBounds_toArray, List.set_cons_zero, List.set_cons_succ]
  try simp only [p0, p1, h0]
  refine q_run ?_ ?_ ?_ ?_
  · kernel_rfl
  rotate_left
  · intro w_ hw_
    obtain ⟨c0, c1, c2, cb⟩ := hw_
    first | (go_simp; done) | (go_simp; with_reducible rfl) | (go_simp; rw [if_neg (by first | omega | (simp; omega))])
  try simp only [Act.put, List.setIfInBounds_toArray, List.set_cons_zero, List.set_cons_succ]
  try simp only [p0, p1, h0]
  refine q_run ?_ ?_ ?_ ?_
  · kernel_rfl
  rotate_left
  · intro w_ hw_
    obtain ⟨c0, c1, c2, cb⟩ := hw_
    first | (go_simp; done) | (go_simp; with_reducible rfl) | (go_simp; rw [if_neg (by first | omega | (simp; omega))])
  try simp only [Act.put, List.setIfInBounds_toArray, List.set_cons_zero, List.set_cons_succ]
  try simp only [p0, p1, h0]
  first
   | (refine q_skip ?_ ?_
      · rfl)
   | (refine q_run ?_ ?_ ?_ ?_
      · kernel_rfl
      rotate_left
      · intro w_ hw_
        obtain ⟨c0, c1, c2, cb⟩ := hw_
        first | (go_simp; done) | (go_simp; with_reducible rfl) | (go_simp; rw [if_neg (by first | omega | (simp; omega))]))
  try simp only [Act.put, List.setIfInBounds_toArray, List.set_cons_zero, List.set_cons_succ]
  try simp only [p0, p1, h0]
  first
   | (refine q_skip ?_ ?_
      · rfl)
   | (refine q_run ?_ ?_ ?_ ?_
      · kernel_rfl
      rotate_left
      · intro w_ hw_
        obtain ⟨c0, c1, c2, cb⟩ := hw_
        first | (go_simp; done) | (go_simp; with_reducible rfl) | (go_simp; rw [if_neg (by first | omega | (simp; omega))]))
  try simp only [Act.put, List.setIfInBounds_toArray, List.set_cons_zero, List.set_cons_succ]
  try simp only [p0, p1, h0]
  first
   | (refine q_skip ?_ ?_
      · rfl)
   | (refine q_run ?_ ?_ ?_ ?_
      · kernel_rfl
      rotate_left
      · intro w_ hw_
        obtain ⟨c0, c1, c2, cb⟩ := hw_
        first | (go_simp; done) | (go_simp; with_reducible rfl) | (go_simp; rw [if_neg (by first | omega | (simp; omega))]))
  try simp only [Act.put, List.setIfInBounds_toArray, List.set_cons_zero, List.set_cons_succ]
  try simp only [p0, p1, h0]
  refine q_run ?_ ?_ ?_ ?_
  · kernel_rfl
  rotate_left
  · intro w_ hw_
    obtain ⟨c0, c1, c2, cb⟩ := hw_
    first | (go_simp; done) | (go_simp; with_reducible rfl) | (go_simp; rw [if_neg (by first | omega | (simp; omega))])
  try simp only [Act.put, List.setIfInBounds_toArray, List.set_cons_zero, List.set_cons_succ]
  try simp only [p0, p1, h0]
  refine q_run ?_ ?_ ?_ ?_
  · kernel_rfl
  rotate_left
  · intro w_ hw_
    obtain ⟨c0, c1, c2, cb⟩ := hw_
    first | (go_simp; done) | (go_simp; with_reducible rfl) | (go_simp; rw [if_neg (by first | omega | (simp; omega))])
  try simp only [Act.put, List.setIfInBounds_toArray, List.set_cons_zero, List.set_cons_succ]
  try simp only [p0, p1, h0]
  first
   | (refine q_skip ?_ ?_
      · rfl)
   | (refine q_run ?_ ?_ ?_ ?_
      · kernel_rfl
      rotate_left
      · intro w_ hw_
        obtain ⟨c0, c1, c2, cb⟩ := hw_
        first | (go_simp; done) | (go_simp; with_reducible rfl) | (go_simp; rw [if_neg (by first | omega | (simp; omega))]))
  try simp only [Act.put, List.setIfInBounds_toArray, List.set_cons_zero, List.set_cons_succ]
  try simp only [p0, p1, h0]
  first
   | (refine q_skip ?_ ?_
      · rfl)
   | (refine q_run ?_ ?_ ?_ ?_
      · kernel_rfl
      rotate_left
      · intro w_ hw_
        obtain ⟨c0, c1, c2, cb⟩ := hw_
        first | (go_simp; done) | (go_simp; with_reducible rfl) | (go_simp; rw [if_neg (by first | omega | (simp; omega))]))
  try simp only [Act.put, List.setIfInBounds_toArray, List.set_cons_zero, List.set_cons_succ]
  try simp only [p0, p1, h0]
  first
   | (refine q_skip ?_ ?_
      · rfl)
   | (refine q_run ?_ ?_ ?_ ?_
      · kernel_rfl
      rotate_left
      · intro w_ hw_
        obtain ⟨c0, c1, c2, cb⟩ := hw_
        first | (go_simp; done) | (go_simp; with_reducible rfl) | (go_simp; rw [if_neg (by first | omega | (simp; omega))]))
  try simp only [Act.put, List.setIfInBounds_toArray, List.set_cons_zero, List.set_cons_succ]
  try simp only [p0, p1, h0]
  first
   | (refine q_skip ?_ ?_
      · rfl)
   | (refine q_call ?_ (.int .i64 (Rp.cls code)) ?_ ?_ ?_ ?_ ?_
      · kernel_rfl
      rotate_left 2
      · intro w_ hw_
        go_simp
        refine ⟨?_, ?_⟩ <;> with_reducible rfl
      · intro w_ hw_
        obtain ⟨c0, c1, c2, cb⟩ := hw_
        exact ((rclass_any _ _).mono fun _ _ ⟨h1, h2⟩ => ⟨h1, h2 ▸ ⟨c0, c1, c2, cb⟩⟩))
  try simp only [Act.put, List.setIfInBounds_toArray, List.set_cons_zero, List.set_cons_succ]
  try simp only [p0, p1, h0]
  first
   | (refine q_skip ?_ ?_
      · rfl)
   | (refine q_run ?_ ?_ ?_ ?_
      · kernel_rfl
      rotate_left
      · intro w_ hw_
        obtain ⟨c0, c1, c2, cb⟩ := hw_
        first | (go_simp; done) | (go_simp; with_reducible rfl) | (go_simp; rw [if_neg (by first | omega | (simp; omega))]))
  try simp only [Act.put, List.setIfInBounds_toArray, List.set_cons_zero, List.set_cons_succ]
  try simp only [p0, p1, h0]
  refine q_run ?_ ?_ ?_ ?_
  · kernel_rfl
  rotate_left
  · intro w_ hw_
    obtain ⟨c0, c1, c2, cb⟩ := hw_
    first | (go_simp; done) | (go_simp; with_reducible rfl) | (go_simp; rw [if_neg (by first | omega | (simp; omega))])
  try simp only [Act.put, List.setIfInBounds_toArray, List.set_cons_zero, List.set_cons_succ]
  try simp only [p0, p1, h0]
  refine q_run ?_ ?_ ?_ ?_
  · kernel_rfl
  rotate_left
  · intro w_ hw_
    obtain ⟨c0, c1, c2, cb⟩ := hw_
    first | (go_simp; done) | (go_simp; with_reducible rfl) | (go_simp; rw [if_neg (by first | omega | (simp; omega))])
  try simp only [Act.put, List.setIfInBounds_toArray, List.set_cons_zero, List.set_cons_succ]
  try simp only [p0, p1, h0]
  first
   | (refine q_skip ?_ ?_
      · rfl)
   | (refine q_run ?_ ?_ ?_ ?_
      · kernel_rfl
      rotate_left
      · intro w_ hw_
        obtain ⟨c0, c1, c2, cb⟩ := hw_
        first | (go_simp; done) | (go_simp; with_reducible rfl) | (go_simp; rw [if_neg (by first | omega | (simp; omega))]))
  try simp only [Act.put, List.setIfInBounds_toArray, List.set_cons_zero, List.set_cons_succ]
  try simp only [p0, p1, h0]
  first
   | (refine q_skip ?_ ?_
      · rfl)
   | (refine q_run ?_ ?_ ?_ ?_
      · kernel_rfl
      rotate_left
      · intro w_ hw_
        obtain ⟨c0, c1, c2, cb⟩ := hw_
        first | (go_simp; done) | (go_simp; with_reducible rfl) | (go_simp; rw [if_neg (by first | omega | (simp; omega))]))
  try simp only [Act.put, List.setIfInBounds_toArray, List.set_cons_zero, List.set_cons_succ]
  try simp only [p0, p1, h0]
  first
   | (refine q_skip ?_ ?_
      · rfl)
   | (refine q_run ?_ ?_ ?_ ?_
      · kernel_rfl
      rotate_left
      · intro w_ hw_
        obtain ⟨c0, c1, c2, cb⟩ := hw_
        first | (go_simp; done) | (go_simp; with_reducible rfl) | (go_simp; rw [if_neg (by first | omega | (simp; omega))]))
  try simp only [Act.put, List.setIfInBounds_toArray, List.set_cons_zero, List.set_cons_succ]
  try simp only [p0, p1, h0]
  refine q_run ?_ ?_ ?_ ?_
  · kernel_rfl
  rotate_left
  · intro w_ hw_
    obtain ⟨c0, c1, c2, cb⟩ := hw_
    first | (go_simp; done) | (go_simp; with_reducible rfl) | (go_simp; rw [if_neg (by first | omega | (simp; omega))])
  try simp only [Act.put, List.setIfInBounds_toArray, List.set_cons_zero, List.set_cons_succ]
  try simp only [p0, p1, h0]
  refine q_run ?_ ?_ ?_ ?_
  · kernel_rfl
  rotate_left
  · intro w_ hw_
    obtain ⟨c0, c1, c2, cb⟩ := hw_
    first | (go_simp; done) | (go_simp; with_reducible rfl) | (go_simp; rw [if_neg (by first | omega | (simp; omega))])
  try simp only [Act.put, List.setIfInBounds_toArray, List.set_cons_zero, List.set_cons_succ]
  try simp only [p0, p1, h0]
  first
   | (refine q_skip ?_ ?_
      · rfl)
   | (refine q_run ?_ ?_ ?_ ?_
      · kernel_rfl
      rotate_left
      · intro w_ hw_
        obtain ⟨c0, c1, c2, cb⟩ := hw_
        first | (go_simp; done) | (go_simp; with_reducible rfl) | (go_simp; rw [if_neg (by first | omega | (simp; omega))]))
  try simp only [Act.put, List.setIfInBounds_toArray, List.set_cons_zero, List.set_cons_succ]
  try simp only [p0, p1, h0]
  first
   | (refine q_skip ?_ ?_
      · rfl)
   | (refine q_run ?_ ?_ ?_ ?_
      · kernel_rfl
      rotate_left
      · intro w_ hw_
        obtain ⟨c0, c1, c2, cb⟩ := hw_
        first | (go_simp; done) | (go_simp; with_reducible rfl) | (go_simp; rw [if_neg (by first | omega | (simp; omega))]))
  try simp only [Act.put, List.setIfInBounds_toArray, List.set_cons_zero, List.set_cons_succ]
  try simp only [p0, p1, h0]
  first
   | (refine q_skip ?_ ?_
      · rfl)
   | (refine q_run ?_ ?_ ?_ ?_
      · kernel_rfl
      rotate_left
      · intro w_ hw_
        obtain ⟨c0, c1, c2, cb⟩ := hw_
        first | (go_simp; done) | (go_simp; with_reducible rfl) | (go_simp; rw [if_neg (by first | omega | (simp; omega))]))
  try simp only [Act.put, List.setIfInBounds_toArray, List.set_cons_zero, List.set_cons_succ]
  try simp only [p0, p1, h0]
  refine q_run ?_ ?_ ?_ ?_
  · kernel_rfl
  rotate_left
  · intro w_ hw_
    obtain ⟨c0, c1, c2, cb⟩ := hw_
    first | (go_simp; done) | (go_simp; with_reducible rfl) | (go_simp; rw [if_neg (by first | omega | (simp; omega))])
  try simp only [Act.put, List.setIfInBounds_toArray, List.set_cons_zero, List.set_cons_succ]
  try simp only [p0, p1, h0]
  refine q_run ?_ ?_ ?_ ?_
  · kernel_rfl
  rotate_left
  · intro w_ hw_
    obtain ⟨c0, c1, c2, cb⟩ := hw_
    first | (go_simp; done) | (go_simp; with_reducible rfl) | (go_simp; rw [if_neg (by first | omega | (simp; omega))])
  try simp only [Act.put, List.setIfInBounds_toArray, List.set_cons_zero, List.set_cons_succ]
  try simp only [p0, p1, h0]
  first
   | (refine q_skip ?_ ?_
      · rfl)
   | (refine q_run ?_ ?_ ?_ ?_
      · kernel_rfl
      rotate_left
      · intro w_ hw_
        obtain ⟨c0, c1, c2, cb⟩ := hw_
        first | (go_simp; done) | (go_simp; with_reducible rfl) | (go_simp; rw [if_neg (by first | omega | (simp; omega))]))
  try simp only [Act.put, List.setIfInBounds_toArray, List.set_cons_zero, List.set_cons_succ]
  try simp only [p0, p1, h0]
  first
   | (refine q_skip ?_ ?_
      · rfl)
   | (refine q_run ?_ ?_ ?_ ?_
      · kernel_rfl
      rotate_left
      · intro w_ hw_
        obtain ⟨c0, c1, c2, cb⟩ := hw_
        first | (go_simp; done) | (go_simp; with_reducible rfl) | (go_simp; rw [if_neg (by first | omega | (simp; omega))]))
  try simp only [Act.put, List.setIfInBounds_toArray, List.set_cons_zero, List.set_cons_succ]
  try simp only [p0, p1, h0]
  first
   | (refine q_skip ?_ ?_
      · rfl)
   | (refine q_run ?_ ?_ ?_ ?_
      · kernel_rfl
      rotate_left
      · intro w_ hw_
        obtain ⟨c0, c1, c2, cb⟩ := hw_
        first | (go_simp; done) | (go_simp; with_reducible rfl) | (go_simp; rw [if_neg (by first | omega | (simp; omega))]))
  try simp only [Act.put, List.setIfInBounds_toArray, List.set_cons_zero, List.set_cons_succ]
  try simp only [p0, p1, h0]
  refine q_run ?_ ?_ ?_ ?_
  · kernel_rfl
  rotate_left
  · intro w_ hw_
    obtain ⟨c0, c1, c2, cb⟩ := hw_
    first | (go_simp; done) | (go_simp; with_reducible rfl) | (go_simp; rw [if_neg (by first | omega | (simp; omega))])
  try simp only [Act.put, List.setIfInBounds_toArray, List.set_cons_zero, List.set_cons_succ]
  try simp only [p0, p1, h0]
  refine q_run ?_ ?_ ?_ ?_
  · kernel_rfl
  rotate_left
  · intro w_ hw_
    obtain ⟨c0, c1, c2, cb⟩ := hw_
    first | (go_simp; done) | (go_simp; with_reducible rfl) | (go_simp; rw [if_neg (by first | omega | (simp; omega))])
  try simp only [Act.put, List.setIfInBounds_toArray, List.set_cons_zero, List.set_cons_succ]
  try simp only [p0, p1, h0]
  first
   | (refine q_skip ?_ ?_
      · rfl)
   | (refine q_run ?_ ?_ ?_ ?_
      · kernel_rfl
      rotate_left
      · intro w_ hw_
        obtain ⟨c0, c1, c2, cb⟩ := hw_
        first | (go_simp; done) | (go_simp; with_reducible rfl) | (go_simp; rw [if_neg (by first | omega | (simp; omega))]))
  try simp only [Act.put, List.setIfInBounds_toArray, List.set_cons_zero, List.set_cons_succ]
  try simp only [p0, p1, h0]
  first
   | (refine q_skip ?_ ?_
      · rfl)
   | (refine q_run ?_ ?_ ?_ ?_
      · kernel_rfl
      rotate_left
      · intro w_ hw_
        obtain ⟨c0, c1, c2, cb⟩ := hw_
        first | (go_simp; done) | (go_simp; with_reducible rfl) | (go_simp; rw [if_neg (by first | omega | (simp; omega))]))
  try simp only [Act.put, List.setIfInBounds_toArray, List.set_cons_zero, List.set_cons_succ]
  try simp only [p0, p1, h0]
  first
   | (refine q_skip ?_ ?_
      · rfl)
   | (refine q_run ?_ ?_ ?_ ?_
      · kernel_rfl
      rotate_left
      · intro w_ hw_
        obtain ⟨c0, c1, c2, cb⟩ := hw_
        first | (go_simp; done) | (go_simp; with_reducible rfl) | (go_simp; rw [if_neg (by first | omega | (simp; omega))]))
  try simp only [Act.put, List.setIfInBounds_toArray, List.set_cons_zero, List.set_cons_succ]
  try simp only [p0, p1, h0]
  refine q_run ?_ ?_ ?_ ?_
  · kernel_rfl
  rotate_left
  · intro w_ hw_
    obtain ⟨c0, c1, c2, cb⟩ := hw_
    first | (go_simp; done) | (go_simp; with_reducible rfl) | (go_simp; rw [if_neg (by first | omega | (simp; omega))])
  try simp only [Act.put, List.setIfInBounds_toArray, List.set_cons_zero, List.set_cons_succ]
  try simp only [p0, p1, h0]
  refine q_run ?_ ?_ ?_ ?_
  · kernel_rfl
  rotate_left
  · intro w_ hw_
    obtain ⟨c0, c1, c2, cb⟩ := hw_
    first | (go_simp; done) | (go_simp; with_reducible rfl) | (go_simp; rw [if_neg (by first | omega | (simp; omega))])
  try simp only [Act.put, List.setIfInBounds_toArray, List.set_cons_zero, List.set_cons_succ]
  try simp only [p0, p1, h0]
  refine q_nil ?_
  intro W_ hC_
  go_wp2
  go_ret
  exact ⟨rfl, hC_.2.2.2⟩
set_option maxHeartbeats 4000000 in
theorem rfits_g1k1 (code a b c : Int) (h : Rp.none3 a b c = false) (p0 : (a == 2) = false) (p1 : (a == 4) = true) (h0 : ((a : Int) == Rp.cls code) = true) (h1 : decide (0 ≤ b) = false) (w : World) : Calls Tryd.prog 37 #[.int .i64 code, .agg #[.int .i64 a, .int .i64 b, .int .i64 c]] w fun e w' => e = .returned (.bool false) ∧ Below w.heap.size w w' := by
  have M : Aside (Mine w [(w.heap.size, #[.int .i64 a, .int .i64 b, .int .i64 c], 23)] (w.alloc (.cells #[.int .i64 a, .int .i64 b, .int .i64 c] 23))) := ⟨(Mine.start w).alloc _ _⟩
  go_enter Tryd.func37, Tryd.ntmps37
  go_wp2_with (go_at_call 52; (with_reducible refine (rnone_any a b c _).mono ?_); rintro e w1 ⟨rfl, hb⟩; rw [h]; replace M := Aside.mk (M.out.next hb); clear hb; have z0 := Mine.at M.out 0 _ rfl; have z1 := Mine.at M.out 1 _ rfl; have z2 := Mine.at M.out 2 _ rfl; have zl := Mine.lt M.out)
  refine region_class (C := (fun w' => w'.cell? ⟨w.heap.size, 0, none⟩ = some (.int .i64 a) ∧ w'.cell? ⟨w.heap.size, 1, none⟩ = some (.int .i64 b) ∧ w'.cell? ⟨w.heap.size, 2, none⟩ = some (.int .i64 c) ∧ Below w.heap.size w w')) (by kernel_rfl) (by kernel_rfl) ⟨(M.out.drewN 1).at 0 _ rfl, (M.out.drewN 1).at 1 _ rfl, (M.out.drewN 1).at 2 _ rfl, (M.out.drewN 1).low⟩ ?_
  refine q_run ?_ ?_ ?_ ?_
  · kernel_rfl
  rotate_left
  · intro w_ hw_
    obtain ⟨c0, c1, c2, cb⟩ := hw_
    first | (go_simp; done) | (go_simp; with_reducible rfl) | (go_simp; rw [if_neg (by first | omega | (simp; omega))])
  try simp only [Act.put, List.setIfInBounds_toArray, List.set_cons_zero, List.set_cons_succ]
  try simp only [p0, p1, h0, h1]
  refine q_run ?_ ?_ ?_ ?_
  · kernel_rfl
  rotate_left
  · intro w_ hw_
    obtain ⟨c0, c1, c2, cb⟩ := hw_
    first | (go_simp; done) | (go_simp; with_reducible rfl) | (go_simp; rw [if_neg (by first | omega | (simp; omega))])
  try simp only [Act.put, List.setIfInBounds_toArray, List.set_cons_zero, List.set_cons_succ]
  try simp only [p0, p1, h0, h1]
  refine q_run ?_ ?_ ?_ ?_
  · kernel_rfl
  rotate_left
  · intro w_ hw_
    obtain ⟨c0, c1, c2, cb⟩ := hw_
    first | (go_simp; done) | (go_simp; with_reducible rfl) | (go_simp; rw [if_neg (by first | omega | (simp; omega))])
  try simp only [Act.put, List.setIfInBounds_toArray, List.set_cons_zero, List.set_cons_succ]
  try simp only [p0, p1, h0, h1]
  refine q_run ?_ ?_ ?_ ?_
  · kernel_rfl
  rotate_left
  · intro w_ hw_
    obtain ⟨c0, c1, c2, cb⟩ := hw_
    first | (go_simp; done) | (go_simp; with_reducible rfl) | (go_simp; rw [if_neg (by first | omega | (simp; omega))])
  try simp only [Act.put, List.setIfInBounds_toArray, List.set_cons_zero, List.set_cons_succ]
  try simp only [p0, p1, h0, h1]
  first
   | (refine q_skip ?_ ?_
      · rfl)
   | (refine q_run ?_ ?_ ?_ ?_
      · kernel_rfl
      rotate_left
      · intro w_ hw_
        obtain ⟨c0, c1, c2, cb⟩ := hw_
        first | (go_simp; done) | (go_simp; with_reducible rfl) | (go_simp; rw [if_neg (by first | omega | (simp; omega))]))
  try simp only [Act.put, List.setIfInBounds_toArray, List.set_cons_zero, List.set_cons_succ]
  try simp only [p0, p1, h0, h1]
  first
   | (refine q_skip ?_ ?_
      · rfl)
   | (refine q_run ?_ ?_ ?_ ?_
      · kernel_rfl
      rotate_left
      · intro w_ hw_
        obtain ⟨c0, c1, c2, cb⟩ := hw_
        first | (go_simp; done) | (go_simp; with_reducible rfl) | (go_simp; rw [if_neg (by first | omega | (simp; omega))]))
  try simp only [Act.put, List.setIfInBounds_toArray, List.set_cons_zero, List.set_cons_succ]
  try simp only [p0, p1, h0, h1]
  first
   | (refine q_skip ?_ ?_
      · rfl)
   | (refine q_run ?_ ?_ ?_ ?_
      · kernel_rfl
      rotate_left
      · intro w_ hw_
        obtain ⟨c0, c1, c2, cb⟩ := hw_
        first | (go_simp; done) | (go_simp; with_reducible rfl) | (go_simp; rw [if_neg (by first | omega | (simp; omega))]))
  try simp only [Act.put, List.setIfInBounds_toArray, List.set_cons_zero, List.set_cons_succ]
  try simp only [p0, p1, h0, h1]
  refine q_run ?_ ?_ ?_ ?_
  · kernel_rfl
  rotate_left
  · intro w_ hw_
    obtain ⟨c0, c1, c2, cb⟩ := hw_
    first | (go_simp; done) | (go_simp; with_reducible rfl) | (go_simp; rw [if_neg (by first | omega | (simp; omega))])
  try simp only [Act.put, List.setIfInBounds_toArray, List.set_cons_zero, List.set_cons_succ]
  try simp only [p0, p1, h0, h1]
  refine q_run ?_ ?_ ?_ ?_
  · kernel_rfl
  rotate_left
  · intro w_ hw_
    obtain ⟨c0, c1, c2, cb⟩ := hw_
    first | (go_simp; done) | (go_simp; with_reducible rfl) | (go_simp; rw [if_neg (by first | omega | (simp; omega))])
  try simp only [Act.put, List.setIfInBounds_toArray, List.set_cons_zero, List.set_cons_succ]
  try simp only [p0, p1, h0, h1]
  first
   | (refine q_skip ?_ ?_
      · rfl)
   | (refine q_run ?_ ?_ ?_ ?_
      · kernel_rfl
      rotate_left
      · intro w_ hw_
        obtain ⟨c0, c1, c2, cb⟩ := hw_
        first | (go_simp; done) | (go_simp; with_reducible rfl) | (go_simp; rw [if_neg (by first | omega | (simp; omega))]))
  try simp only [Act.put, List.setIfInBounds_toArray, List.set_cons_zero, List.set_cons_succ]
  try simp only [p0, p1, h0, h1]
  first
   | (refine q_skip ?_ ?_
      · rfl)
   | (refine q_run ?_ ?_ ?_ ?_
      · kernel_rfl
      rotate_left
      · intro w_ hw_
        obtain ⟨c0, c1, c2, cb⟩ := hw_
        first | (go_simp; done) | (go_simp; with_reducible rfl) | (go_simp; rw [if_neg (by first | omega | (simp; omega))]))
  try simp only [Act.put, List.setIfInBounds_toArray, List.set_cons_zero, List.set_cons_succ]
  try simp only [p0, p1, h0, h1]
  first
   | (refine q_skip ?_ ?_
      · rfl)
   | (refine q_run ?_ ?_ ?_ ?_
      · kernel_rfl
      rotate_left
      · intro w_ hw_
        obtain ⟨c0, c1, c2, cb⟩ := hw_
        first | (go_simp; done) | (go_simp; with_reducible rfl) | (go_simp; rw [if_neg (by first | omega | (simp; omega))]))
  try simp only [Act.put, List.setIfInBounds_toArray, List.set_cons_zero, List.set_cons_succ]
  try simp only [p0, p1, h0, h1]
  refine q_run ?_ ?_ ?_ ?_
  · kernel_rfl
  rotate_left
  · intro w_ hw_
    obtain ⟨c0, c1, c2, cb⟩ := hw_
    first | (go_simp; done) | (go_simp; with_reducible rfl) | (go_simp; rw [if_neg (by first | omega | (simp; omega))])
  try simp only [Act.put, List.setIfInBounds_toArray, List.set_cons_zero, List.set_cons_succ]
  try simp only [p0, p1, h0, h1]
  refine q_run ?_ ?_ ?_ ?_
  · kernel_rfl
  rotate_left
  · intro w_ hw_
    obtain ⟨c0, c1, c2, cb⟩ := hw_
    first | (go_simp; done) | (go_simp; with_reducible rfl) | (go_simp; rw [if_neg (by first | omega | (simp; omega))])
  try simp only [Act.put, List.setIfInBounds_toArray, List.set_cons_zero, List.set_cons_succ]
  try simp only [p0, p1, h0, h1]
  first
   | (refine q_skip ?_ ?_
      · rfl)
   | (refine q_run ?_ ?_ ?_ ?_
      · kernel_rfl
      rotate_left
      · intro w_ hw_
        obtain ⟨c0, c1, c2, cb⟩ := hw_
        first | (go_simp; done) | (go_simp; with_reducible rfl) | (go_simp; rw [if_neg (by first | omega | (simp; omega))]))
  try simp only [Act.put, List.setIfInBounds_toArray, List.set_cons_zero, List.set_cons_succ]
  try simp only [p0, p1, h0, h1]
  first
   | (refine q_skip ?_ ?_
      · rfl)
   | (refine q_run ?_ ?_ ?_ ?_
      · kernel_rfl
      rotate_left
      · intro w_ hw_
        obtain ⟨c0, c1, c2, cb⟩ := hw_
        first | (go_simp; done) | (go_simp; with_reducible rfl) | (go_simp; rw [if_neg (by first | omega | (simp; omega))]))
  try simp only [Act.put, List.setIfInBounds_toArray, List.set_cons_zero, List.set_cons_succ]
  try simp only [p0, p1, h0, h1]
  first
   | (refine q_skip ?_ ?_
      · rfl)
   | (refine q_run ?_ ?_ ?_ ?_
      · kernel_rfl
      rotate_left
      · intro w_ hw_
        obtain ⟨c0, c1, c2, cb⟩ := hw_
        first | (go_simp; done) | (go_simp; with_reducible rfl) | (go_simp; rw [if_neg (by first | omega | (simp; omega))]))
  try simp only [Act.put, List.setIfInBounds_toArray, List.set_cons_zero, List.set_cons_succ]
  try simp only [p0, p1, h0, h1]
  first
   | (refine q_skip ?_ ?_
      · rfl)
   | (refine q_call ?_ (.int .i64 (Rp.cls code)) ?_ ?_ ?_ ?_ ?_
      · kernel_rfl
      rotate_left 2
      · intro w_ hw_
        go_simp
        refine ⟨?_, ?_⟩ <;> with_reducible rfl
      · intro w_ hw_
        obtain ⟨c0, c1, c2, cb⟩ := hw_
        exact ((rclass_any _ _).mono fun _ _ ⟨h1, h2⟩ => ⟨h1, h2 ▸ ⟨c0, c1, c2, cb⟩⟩))
  try simp only [Act.put, List.setIfInBounds_toArray, List.set_cons_zero, List.set_cons_succ]
  try simp only [p0, p1, h0, h1]
  first
   | (refine q_skip ?_ ?_
      · rfl)
   | (refine q_run ?_ ?_ ?_ ?_
      · kernel_rfl
      rotate_left
      · intro w_ hw_
        obtain ⟨c0, c1, c2, cb⟩ := hw_
        first | (go_simp; done) | (go_simp; with_reducible rfl) | (go_simp; rw [if_neg (by first | omega | (simp; omega))]))
  try simp only [Act.put, List.setIfInBounds_toArray, List.set_cons_zero, List.set_cons_succ]
  try simp only [p0, p1, h0, h1]
  refine q_run ?_ ?_ ?_ ?_
  · kernel_rfl
  rotate_left
  · intro w_ hw_
    obtain ⟨c0, c1, c2, cb⟩ := hw_
    first | (go_simp; done) | (go_simp; with_reducible rfl) | (go_simp; rw [if_neg (by first | omega | (simp; omega))])
  try simp only [Act.put, List.setIfInBounds_toArray, List.set_cons_zero, List.set_cons_succ]
  try simp only [p0, p1, h0, h1]
  refine q_run ?_ ?_ ?_ ?_
  · kernel_rfl
  rotate_left
  · intro w_ hw_
    obtain ⟨c0, c1, c2, cb⟩ := hw_
    first | (go_simp; done) | (go_simp; with_reducible rfl) | (go_simp; rw [if_neg (by first | omega | (simp; omega))])
  try simp only [Act.put, List.setIfInBounds_toArray, List.set_cons_zero, List.set_cons_succ]
  try simp only [p0, p1, h0, h1]
  first
   | (refine q_skip ?_ ?_
      · rfl)
   | (refine q_run ?_ ?_ ?_ ?_
      · kernel_rfl
      rotate_left
      · intro w_ hw_
        obtain ⟨c0, c1, c2, cb⟩ := hw_
        first | (go_simp; done) | (go_simp; with_reducible rfl) | (go_simp; rw [if_neg (by first | omega | (simp; omega))]))
  try simp only [Act.put, List.setIfInBounds_toArray, List.set_cons_zero, List.set_cons_succ]
  try simp only [p0, p1, h0, h1]
  first
   | (refine q_skip ?_ ?_
      · rfl)
   | (refine q_run ?_ ?_ ?_ ?_
      · kernel_rfl
      rotate_left
      · intro w_ hw_
        obtain ⟨c0, c1, c2, cb⟩ := hw_
        first | (go_simp; done) | (go_simp; with_reducible rfl) | (go_simp; rw [if_neg (by first | omega | (simp; omega))]))
  try simp only [Act.put, List.setIfInBounds_toArray, List.set_cons_zero, List.set_cons_succ]
  try simp only [p0, p1, h0, h1]
  first
   | (refine q_skip ?_ ?_
      · rfl)
   | (refine q_run ?_ ?_ ?_ ?_
      · kernel_rfl
      rotate_left
      · intro w_ hw_
        obtain ⟨c0, c1, c2, cb⟩ := hw_
        first | (go_simp; done) | (go_simp; with_reducible rfl) | (go_simp; rw [if_neg (by first | omega | (simp; omega))]))
  try simp only [Act.put, List.setIfInBounds_toArray, List.set_cons_zero, List.set_cons_succ]
  try simp only [p0, p1, h0, h1]
  refine q_run ?_ ?_ ?_ ?_
  · kernel_rfl
  rotate_left
  · intro w_ hw_
    obtain ⟨c0, c1, c2, cb⟩ := hw_
    first | (go_simp; done) | (go_simp; with_reducible rfl) | (go_simp; rw [if_neg (by first | omega | (simp; omega))])
  try simp only [Act.put, List.setIfInBounds_toArray, List.set_cons_zero, List.set_cons_succ]
  try simp only [p0, p1, h0, h1]
  refine q_run ?_ ?_ ?_ ?_
  · kernel_rfl
  rotate_left
  · intro w_ hw_
    obtain ⟨c0, c1, c2, cb⟩ := hw_
    first | (go_simp; done) | (go_simp; with_reducible rfl) | (go_simp; rw [if_neg (by first | omega | (simp; omega))])
  try simp only [Act.put, List.setIfInBounds_toArray, List.set_cons_zero, List.set_cons_succ]
  try simp only [p0, p1, h0, h1]
  first
   | (refine q_skip ?_ ?_
      · rfl)
   | (refine q_run ?_ ?_ ?_ ?_
      · kernel_rfl
      rotate_left
      · intro w_ hw_
        obtain ⟨c0, c1, c2, cb⟩ := hw_
        first | (go_simp; done) | (go_simp; with_reducible rfl) | (go_simp; rw [if_neg (by first | omega | (simp; omega))]))
  try simp only [Act.put, List.setIfInBounds_toArray, List.set_cons_zero, List.set_cons_succ]
  try simp only [p0, p1, h0, h1]
  first
   | (refine q_skip ?_ ?_
      · rfl)
   | (refine q_run ?_ ?_ ?_ ?_
      · kernel_rfl
      rotate_left
      · intro w_ hw_
        obtain ⟨c0, c1, c2, cb⟩ := hw_
        first | (go_simp; done) | (go_simp; with_reducible rfl) | (go_simp; rw [if_neg (by first | omega | (simp; omega))]))
  try simp only [Act.put, List.setIfInBounds_toArray, List.set_cons_zero, List.set_cons_succ]
  try simp only [p0, p1, h0, h1]
  first
   | (refine q_skip ?_ ?_
      · rfl)
   | (refine q_run ?_ ?_ ?_ ?_
      · kernel_rfl
      rotate_left
      · intro w_ hw_
        obtain ⟨c0, c1, c2, cb⟩ := hw_
        first | (go_simp; done) | (go_simp; with_reducible rfl) | (go_simp; rw [if_neg (by first | omega | (simp; omega))]))
  try simp only [Act.put, List.setIfInBounds_toArray, List.set_cons_zero, List.set_cons_succ]
  try simp only [p0, p1, h0, h1]
  refine q_run ?_ ?_ ?_ ?_
  · kernel_rfl
  rotate_left
  · intro w_ hw_
    obtain ⟨c0, c1, c2, cb⟩ := hw_
    first | (go_simp; done) | (go_simp; with_reducible rfl) | (go_simp; rw [if_neg (by first | omega | (simp; omega))])
  try simp only [Act.put, List.setIfInBounds_toArray, List.set_cons_zero, List.set_cons_succ]
  try simp only [p0, p1, h0, h1]
  refine q_run ?_ ?_ ?_ ?_
  · kernel_rfl
  rotate_left
  · intro w_ hw_
    obtain ⟨c0, c1, c2, cb⟩ := hw_
    first | (go_simp; done) | (go_simp; with_reducible rfl) | (go_simp; rw [if_neg (by first | omega | (simp; omega))])
  try simp only [Act.put, List.setIfInBounds_toArray, List.set_cons_zero, List.set_cons_succ]
  try simp only [p0, p1, h0, h1]
  first
   | (refine q_skip ?_ ?_
      · rfl)
   | (refine q_run ?_ ?_ ?_ ?_
      · kernel_rfl
      rotate_left
      · intro w_ hw_
        obtain ⟨c0, c1, c2, cb⟩ := hw_
        first | (go_simp; done) | (go_simp; with_reducible rfl) | (go_simp; rw [if_neg (by first | omega | (simp; omega))]))
  try simp only [Act.put, List.setIfInBounds_toArray, List.set_cons_zero, List.set_cons_succ]
  try simp only [p0, p1, h0, h1]
  first
   | (refine q_skip ?_ ?_
      · rfl)
   | (refine q_run ?_ ?_ ?_ ?_
      · kernel_rfl
      rotate_left
      · intro w_ hw_
        obtain ⟨c0, c1, c2, cb⟩ := hw_
        first | (go_simp; done) | (go_simp; with_reducible rfl) | (go_simp; rw [if_neg (by first | omega | (simp; omega))]))
  try simp only [Act.put, List.setIfInBounds_toArray, List.set_cons_zero, List.set_cons_succ]
  try simp only [p0, p1, h0, h1]
  first
   | (refine q_skip ?_ ?_
      · rfl)
   | (refine q_run ?_ ?_ ?_ ?_
      · kernel_rfl
      rotate_left
      · intro w_ hw_
        obtain ⟨c0, c1, c2, cb⟩ := hw_
        first | (go_simp; done) | (go_simp; with_reducible rfl) | (go_simp; rw [if_neg (by first | omega | (simp; omega))]))
  try simp only [Act.put, List.setIfInBounds_toArray, List.set_cons_zero, List.set_cons_succ]
  try simp only [p0, p1, h0, h1]
  refine q_run ?_ ?_ ?_ ?_
  · kernel_rfl
  rotate_left
  · intro w_ hw_
    obtain ⟨c0, c1, c2, cb⟩ := hw_
    first | (go_simp; done) | (go_simp; with_reducible rfl) | (go_simp; rw [if_neg (by first | omega | (simp; omega))])
  try simp only [Act.put, List.setIfInBounds_toArray, List.set_cons_zero, List.set_cons_succ]
  try simp only [p0, p1, h0, h1]
  refine q_run ?_ ?_ ?_ ?_
  · kernel_rfl
  rotate_left
  · intro w_ hw_
    obtain ⟨c0, c1, c2, cb⟩ := hw_
    first | (go_simp; done) | (go_simp; with_reducible rfl) | (go_simp; rw [if_neg (by first | omega | (simp; omega))])
  try simp only [Act.put, List.setIfInBounds_toArray, List.set_cons_zero, List.set_cons_succ]
  try simp only [p0, p1, h0, h1]
  first
   | (refine q_skip ?_ ?_
      · rfl)
   | (refine q_run ?_ ?_ ?_ ?_
      · kernel_rfl
      rotate_left
      · intro w_ hw_
        obtain ⟨c0, c1, c2, cb⟩ := hw_
        first | (go_simp; done) | (go_simp; with_reducible rfl) | (go_simp; rw [if_neg (by first | omega | (simp; omega))]))
  try simp only [Act.put, List.setIfInBounds_toArray, List.set_cons_zero, List.set_cons_succ]
  try simp only [p0, p1, h0, h1]
  first
   | (refine q_skip ?_ ?_
      · rfl)
   | (refine q_run ?_ ?_ ?_ ?_
      · kernel_rfl
      rotate_left
      · intro w_ hw_
        obtain ⟨c0, c1, c2, cb⟩ := hw_
        first | (go_simp; done) | (go_simp; with_reducible rfl) | (go_simp; rw [if_neg (by first | omega | (simp; omega))]))
  try simp only [Act.put, List.setIfInBounds_toArray, List.set_cons_zero, List.set_cons_succ]
  try simp only [p0, p1, h0, h1]
  first
   | (refine q_skip ?_ ?_
      · rfl)
   | (refine q_run ?_ ?_ ?_ ?_
      · kernel_rfl
      rotate_left
      · intro w_ hw_
        obtain ⟨c0, c1, c2, cb⟩ := hw_
        first | (go_simp; done) | (go_simp; with_reducible rfl) | (go_simp; rw [if_neg (by first | omega | (simp; omega))]))
  try simp only [Act.put, List.setIfInBounds_toArray, List.set_cons_zero, List.set_cons_succ]
  try simp only [p0, p1, h0, h1]
  refine q_run ?_ ?_ ?_ ?_
  · kernel_rfl
  rotate_left
  · intro w_ hw_
    obtain ⟨c0, c1, c2, cb⟩ := hw_
    first | (go_simp; done) | (go_simp; with_reducible rfl) | (go_simp; rw [if_neg (by first | omega | (simp; omega))])
  try simp only [Act.put, List.setIfInBounds_toArray, List.set_cons_zero, List.set_cons_succ]
  try simp only [p0, p1, h0, h1]
  refine q_run ?_ ?_ ?_ ?_
  · kernel_rfl
  rotate_left
  · intro w_ hw_
    obtain ⟨c0, c1, c2, cb⟩ := hw_
    first | (go_simp; done) | (go_simp; with_reducible rfl) | (go_simp; rw [if_neg (by first | omega | (simp; omega))])
  try simp only [Act.put, List.setIfInBounds_toArray, List.set_cons_zero, List.set_cons_succ]
  try simp only [p0, p1, h0, h1]
  refine q_nil ?_
  intro W_ hC_
  go_wp2
  go_ret
  exact ⟨rfl, hC_.2.2.2⟩
set_option maxHeartbeats 4000000 in
theorem rfits_g1k2 (code a b c : Int) (h : Rp.none3 a b c = false) (p0 : (a == 2) = false) (p1 : (a == 4) = true) (h0 : ((a : Int) == Rp.cls code) = true) (h1 : decide (0 ≤ b) = true) (h2 : decide (b < 1000) = false) (w : World) : Calls Tryd.prog 37 #[.int .i64 code, .agg #[.int .i64 a, .int .i64 b, .int .i64 c]] w fun e w' => e = .returned (.bool false) ∧ Below w.heap.size w w' := by
  have M : Aside (Mine w [(w.heap.size, #[.int .i64 a, .int .i64 b, .int .i64 c], 23)] (w.alloc (.cells #[.int .i64 a, .int .i64 b, .int .i64 c] 23))) := ⟨(Mine.start w).alloc _ _⟩
  go_enter Tryd.func37, Tryd.ntmps37
  go_wp2_with (go_at_call 52; (with_reducible refine (rnone_any a b c _).mono ?_); rintro e w1 ⟨rfl, hb⟩; rw [h]; replace M := Aside.mk (M.out.next hb); clear hb; have z0 := Mine.at M.out 0 _ rfl; have z1 := Mine.at M.out 1 _ rfl; have z2 := Mine.at M.out 2 _ rfl; have zl := Mine.lt M.out)
  refine region_class (C := (fun w' => w'.cell? ⟨w.heap.size, 0, none⟩ = some (.int .i64 a) ∧ w'.cell? ⟨w.heap.size, 1, none⟩ = some (.int .i64 b) ∧ w'.cell? ⟨w.heap.size, 2, none⟩ = some (.int .i64 c) ∧ Below w.heap.size w w')) (by kernel_rfl) (by kernel_rfl) ⟨(M.out.drewN 1).at 0 _ rfl, (M.out.drewN 1).at 1 _ rfl, (M.out.drewN 1).at 2 _ rfl, (M.out.drewN 1).low⟩ ?_
  refine q_run ?_ ?_ ?_ ?_
  · kernel_rfl
  rotate_left
  · intro w_ hw_
    obtain ⟨c0, c1, c2, cb⟩ := hw_
    first | (go_simp; done) | (go_simp; with_reducible rfl) | (go_simp; rw [if_neg (by first | omega | (simp; omega))])
  try simp only [Act.put, List.setIfInBounds_toArray, List.set_cons_zero, List.set_cons_succ]
  try simp only [p0, p1, h0, h1, h2]
  refine q_run ?_ ?_ ?_ ?_
  · kernel_rfl
  rotate_left
  · intro w_ hw_
    obtain ⟨c0, c1, c2, cb⟩ := hw_
    first | (go_simp; done) | (go_simp; with_reducible rfl) | (go_simp; rw [if_neg (by first | omega | (simp; omega))])
  try simp only [Act.put, List.setIfInBounds_toArray, List.set_cons_zero, List.set_cons_succ]
  try simp only [p0, p1, h0, h1, h2]
  refine q_run ?_ ?_ ?_ ?_
  · kernel_rfl
  rotate_left
  · intro w_ hw_
    obtain ⟨c0, c1, c2, cb⟩ := hw_
    first | (go_simp; done) | (go_simp; with_reducible rfl) | (go_simp; rw [if_neg (by first | omega | (simp; omega))])
  try simp only [Act.put, List.setIfInBounds_toArray, List.set_cons_zero, List.set_cons_succ]
  try simp only [p0, p1, h0, h1, h2]
  refine q_run ?_ ?_ ?_ ?_
  · kernel_rfl
  rotate_left
  · intro w_ hw_
    obtain ⟨c0, c1, c2, cb⟩ := hw_
    first | (go_simp; done) | (go_simp; with_reducible rfl) | (go_simp; rw [if_neg (by first | omega | (simp; omega))])
  try simp only [Act.put, List.setIfInBounds_toArray, List.set_cons_zero, List.set_cons_succ]
  try simp only [p0, p1, h0, h1, h2]
  first
   | (refine q_skip ?_ ?_
      · rfl)
   | (refine q_run ?_ ?_ ?_ ?_
      · kernel_rfl
      rotate_left
      · intro w_ hw_
        obtain ⟨c0, c1, c2, cb⟩ := hw_
        first | (go_simp; done) | (go_simp; with_reducible rfl) | (go_simp; rw [if_neg (by first | omega | (simp; omega))]))
  try simp only [Act.put, List.setIfInBounds_toArray, List.set_cons_zero, List.set_cons_succ]
  try simp only [p0, p1, h0, h1, h2]
  first
   | (refine q_skip ?_ ?_
      · rfl)
   | (refine q_run ?_ ?_ ?_ ?_
      · kernel_rfl
      rotate_left
      · intro w_ hw_
        obtain ⟨c0, c1, c2, cb⟩ := hw_
        first | (go_simp; done) | (go_simp; with_reducible rfl) | (go_simp; rw [if_neg (by first | omega | (simp; omega))]))
  try simp only [Act.put, List.setIfInBounds_toArray, List.set_cons_zero, List.set_cons_succ]
  try simp only [p0, p1, h0, h1, h2]
  first
   | (refine q_skip ?_ ?_
      · rfl)
   | (refine q_run ?_ ?_ ?_ ?_
      · kernel_rfl
      rotate_left
      · intro w_ hw_
        obtain ⟨c0, c1, c2, cb⟩ := hw_
        first | (go_simp; done) | (go_simp; with_reducible rfl) | (go_simp; rw [if_neg (by first | omega | (simp; omega))]))
  try simp only [Act.put, List.setIfInBounds_toArray, List.set_cons_zero, List.set_cons_succ]
  try simp only [p0, p1, h0, h1, h2]
  refine q_run ?_ ?_ ?_ ?_
  · kernel_rfl
  rotate_left
  · intro w_ hw_
    obtain ⟨c0, c1, c2, cb⟩ := hw_
    first | (go_simp; done) | (go_simp; with_reducible rfl) | (go_simp; rw [if_neg (by first | omega | (simp; omega))])
  try simp only [Act.put, List.setIfInBounds_toArray, List.set_cons_zero, List.set_cons_succ]
  try simp only [p0, p1, h0, h1, h2]
  refine q_run ?_ ?_ ?_ ?_
  · kernel_rfl
  rotate_left
  · intro w_ hw_
    obtain ⟨c0, c1, c2, cb⟩ := hw_
    first | (go_simp; done) | (go_simp; with_reducible rfl) | (go_simp; rw [if_neg (by first | omega | (simp; omega))])
  try simp only [Act.put, List.setIfInBounds_toArray, List.set_cons_zero, List.set_cons_succ]
  try simp only [p0, p1, h0, h1, h2]
  first
   | (refine q_skip ?_ ?_
      · rfl)
   | (refine q_run ?_ ?_ ?_ ?_
      · kernel_rfl
      rotate_left
      · intro w_ hw_
        obtain ⟨c0, c1, c2, cb⟩ := hw_
        first | (go_simp; done) | (go_simp; with_reducible rfl) | (go_simp; rw [if_neg (by first | omega | (simp; omega))]))
  try simp only [Act.put, List.setIfInBounds_toArray, List.set_cons_zero, List.set_cons_succ]
  try simp only [p0, p1, h0, h1, h2]
  first
   | (refine q_skip ?_ ?_
      · rfl)
   | (refine q_run ?_ ?_ ?_ ?_
      · kernel_rfl
      rotate_left
      · intro w_ hw_
        obtain ⟨c0, c1, c2, cb⟩ := hw_
        first | (go_simp; done) | (go_simp; with_reducible rfl) | (go_simp; rw [if_neg (by first | omega | (simp; omega))]))
  try simp only [Act.put, List.setIfInBounds_toArray, List.set_cons_zero, List.set_cons_succ]
  try simp only [p0, p1, h0, h1, h2]
  first
   | (refine q_skip ?_ ?_
      · rfl)
   | (refine q_run ?_ ?_ ?_ ?_
      · kernel_rfl
      rotate_left
      · intro w_ hw_
        obtain ⟨c0, c1, c2, cb⟩ := hw_
        first | (go_simp; done) | (go_simp; with_reducible rfl) | (go_simp; rw [if_neg (by first | omega | (simp; omega))]))
  try simp only [Act.put, List.setIfInBounds_toArray, List.set_cons_zero, List.set_cons_succ]
  try simp only [p0, p1, h0, h1, h2]
  refine q_run ?_ ?_ ?_ ?_
  · kernel_rfl
  rotate_left
  · intro w_ hw_
    obtain ⟨c0, c1, c2, cb⟩ := hw_
    first | (go_simp; done) | (go_simp; with_reducible rfl) | (go_simp; rw [if_neg (by first | omega | (simp; omega))])
  try simp only [Act.put, List.setIfInBounds_toArray, List.set_cons_zero, List.set_cons_succ]
  try simp only [p0, p1, h0, h1, h2]
  refine q_run ?_ ?_ ?_ ?_
  · kernel_rfl
  rotate_left
  · intro w_ hw_
    obtain ⟨c0, c1, c2, cb⟩ := hw_
    first | (go_simp; done) | (go_simp; with_reducible rfl) | (go_simp; rw [if_neg (by first | omega | (simp; omega))])
  try simp only [Act.put, List.setIfInBounds_toArray, List.set_cons_zero, List.set_cons_succ]
  try simp only [p0, p1, h0, h1, h2]
  first
   | (refine q_skip ?_ ?_
      · rfl)
   | (refine q_run ?_ ?_ ?_ ?_
      · kernel_rfl
      rotate_left
      · intro w_ hw_
        obtain ⟨c0, c1, c2, cb⟩ := hw_
        first | (go_simp; done) | (go_simp; with_reducible rfl) | (go_simp; rw [if_neg (by first | omega | (simp; omega))]))
  try simp only [Act.put, List.setIfInBounds_toArray, List.set_cons_zero, List.set_cons_succ]
  try simp only [p0, p1, h0, h1, h2]
  first
   | (refine q_skip ?_ ?_
      · rfl)
   | (refine q_run ?_ ?_ ?_ ?_
      · kernel_rfl
      rotate_left
      · intro w_ hw_
        obtain ⟨c0, c1, c2, cb⟩ := hw_
        first | (go_simp; done) | (go_simp; with_reducible rfl) | (go_simp; rw [if_neg (by first | omega | (simp; omega))]))
  try simp only [Act.put, List.setIfInBounds_toArray, List.set_cons_zero, List.set_cons_succ]
  try simp only [p0, p1, h0, h1, h2]
  first
   | (refine q_skip ?_ ?_
      · rfl)
   | (refine q_run ?_ ?_ ?_ ?_
      · kernel_rfl
      rotate_left
      · intro w_ hw_
        obtain ⟨c0, c1, c2, cb⟩ := hw_
        first | (go_simp; done) | (go_simp; with_reducible rfl) | (go_simp; rw [if_neg (by first | omega | (simp; omega))]))
  try simp only [Act.put, List.setIfInBounds_toArray, List.set_cons_zero, List.set_cons_succ]
  try simp only [p0, p1, h0, h1, h2]
  first
   | (refine q_skip ?_ ?_
      · rfl)
   | (refine q_call ?_ (.int .i64 (Rp.cls code)) ?_ ?_ ?_ ?_ ?_
      · kernel_rfl
      rotate_left 2
      · intro w_ hw_
        go_simp
        refine ⟨?_, ?_⟩ <;> with_reducible rfl
      · intro w_ hw_
        obtain ⟨c0, c1, c2, cb⟩ := hw_
        exact ((rclass_any _ _).mono fun _ _ ⟨h1, h2⟩ => ⟨h1, h2 ▸ ⟨c0, c1, c2, cb⟩⟩))
  try simp only [Act.put, List.setIfInBounds_toArray, List.set_cons_zero, List.set_cons_succ]
  try simp only [p0, p1, h0, h1, h2]
  first
   | (refine q_skip ?_ ?_
      · rfl)
   | (refine q_run ?_ ?_ ?_ ?_
      · kernel_rfl
      rotate_left
      · intro w_ hw_
        obtain ⟨c0, c1, c2, cb⟩ := hw_
        first | (go_simp; done) | (go_simp; with_reducible rfl) | (go_simp; rw [if_neg (by first | omega | (simp; omega))]))
  try simp only [Act.put, List.setIfInBounds_toArray, List.set_cons_zero, List.set_cons_succ]
  try simp only [p0, p1, h0, h1, h2]
  refine q_run ?_ ?_ ?_ ?_
  · kernel_rfl
  rotate_left
  · intro w_ hw_
    obtain ⟨c0, c1, c2, cb⟩ := hw_
    first | (go_simp; done) | (go_simp; with_reducible rfl) | (go_simp; rw [if_neg (by first | omega | (simp; omega))])
  try simp only [Act.put, List.setIfInBounds_toArray, List.set_cons_zero, List.set_cons_succ]
  try simp only [p0, p1, h0, h1, h2]
  refine q_run ?_ ?_ ?_ ?_
  · kernel_rfl
  rotate_left
  · intro w_ hw_
    obtain ⟨c0, c1, c2, cb⟩ := hw_
    first | (go_simp; done) | (go_simp; with_reducible rfl) | (go_simp; rw [if_neg (by first | omega | (simp; omega))])
  try simp only [Act.put, List.setIfInBounds_toArray, List.set_cons_zero, List.set_cons_succ]
  try simp only [p0, p1, h0, h1, h2]
  first
   | (refine q_skip ?_ ?_
      · rfl)
   | (refine q_run ?_ ?_ ?_ ?_
      · kernel_rfl
      rotate_left
      · intro w_ hw_
        obtain ⟨c0, c1, c2, cb⟩ := hw_
        first | (go_simp; done) | (go_simp; with_reducible rfl) | (go_simp; rw [if_neg (by first | omega | (simp; omega))]))
  try simp only [Act.put, List.setIfInBounds_toArray, List.set_cons_zero, List.set_cons_succ]
  try simp only [p0, p1, h0, h1, h2]
  first
   | (refine q_skip ?_ ?_
      · rfl)
   | (refine q_run ?_ ?_ ?_ ?_
      · kernel_rfl
      rotate_left
      · intro w_ hw_
        obtain ⟨c0, c1, c2, cb⟩ := hw_
        first | (go_simp; done) | (go_simp; with_reducible rfl) | (go_simp; rw [if_neg (by first | omega | (simp; omega))]))
  try simp only [Act.put, List.setIfInBounds_toArray, List.set_cons_zero, List.set_cons_succ]
  try simp only [p0, p1, h0, h1, h2]
  first
   | (refine q_skip ?_ ?_
      · rfl)
   | (refine q_run ?_ ?_ ?_ ?_
      · kernel_rfl
      rotate_left
      · intro w_ hw_
        obtain ⟨c0, c1, c2, cb⟩ := hw_
        first | (go_simp; done) | (go_simp; with_reducible rfl) | (go_simp; rw [if_neg (by first | omega | (simp; omega))]))
  try simp only [Act.put, List.setIfInBounds_toArray, List.set_cons_zero, List.set_cons_succ]
  try simp only [p0, p1, h0, h1, h2]
  refine q_run ?_ ?_ ?_ ?_
  · kernel_rfl
  rotate_left
  · intro w_ hw_
    obtain ⟨c0, c1, c2, cb⟩ := hw_
    first | (go_simp; done) | (go_simp; with_reducible rfl) | (go_simp; rw [if_neg (by first | omega | (simp; omega))])
  try simp only [Act.put, List.setIfInBounds_toArray, List.set_cons_zero, List.set_cons_succ]
  try simp only [p0, p1, h0, h1, h2]
  refine q_run ?_ ?_ ?_ ?_
  · kernel_rfl
  rotate_left
  · intro w_ hw_
    obtain ⟨c0, c1, c2, cb⟩ := hw_
    first | (go_simp; done) | (go_simp; with_reducible rfl) | (go_simp; rw [if_neg (by first | omega | (simp; omega))])
  try simp only [Act.put, List.setIfInBounds_toArray, List.set_cons_zero, List.set_cons_succ]
  try simp only [p0, p1, h0, h1, h2]
  first
   | (refine q_skip ?_ ?_
      · rfl)
   | (refine q_run ?_ ?_ ?_ ?_
      · kernel_rfl
      rotate_left
      · intro w_ hw_
        obtain ⟨c0, c1, c2, cb⟩ := hw_
        first | (go_simp; done) | (go_simp; with_reducible rfl) | (go_simp; rw [if_neg (by first | omega | (simp; omega))]))
  try simp only [Act.put, List.setIfInBounds_toArray, List.set_cons_zero, List.set_cons_succ]
  try simp only [p0, p1, h0, h1, h2]
  first
   | (refine q_skip ?_ ?_
      · rfl)
   | (refine q_run ?_ ?_ ?_ ?_
      · kernel_rfl
      rotate_left
      · intro w_ hw_
        obtain ⟨c0, c1, c2, cb⟩ := hw_
        first | (go_simp; done) | (go_simp; with_reducible rfl) | (go_simp; rw [if_neg (by first | omega | (simp; omega))]))
  try simp only [Act.put, List.setIfInBounds_toArray, List.set_cons_zero, List.set_cons_succ]
  try simp only [p0, p1, h0, h1, h2]
  first
   | (refine q_skip ?_ ?_
      · rfl)
   | (refine q_run ?_ ?_ ?_ ?_
      · kernel_rfl
      rotate_left
      · intro w_ hw_
        obtain ⟨c0, c1, c2, cb⟩ := hw_
        first | (go_simp; done) | (go_simp; with_reducible rfl) | (go_simp; rw [if_neg (by first | omega | (simp; omega))]))
  try simp only [Act.put, List.setIfInBounds_toArray, List.set_cons_zero, List.set_cons_succ]
  try simp only [p0, p1, h0, h1, h2]
  refine q_run ?_ ?_ ?_ ?_
  · kernel_rfl
  rotate_left
  · intro w_ hw_
    obtain ⟨c0, c1, c2, cb⟩ := hw_
    first | (go_simp; done) | (go_simp; with_reducible rfl) | (go_simp; rw [if_neg (by first | omega | (simp; omega))])
  try simp only [Act.put, List.setIfInBounds_toArray, List.set_cons_zero, List.set_cons_succ]
  try simp only [p0, p1, h0, h1, h2]
  refine q_run ?_ ?_ ?_ ?_
  · kernel_rfl
  rotate_left
  · intro w_ hw_
    obtain ⟨c0, c1, c2, cb⟩ := hw_
    first | (go_simp; done) | (go_simp; with_reducible rfl) | (go_simp; rw [if_neg (by first | omega | (simp; omega))])
  try simp only [Act.put, List.setIfInBounds_toArray, List.set_cons_zero, List.set_cons_succ]
  try simp only [p0, p1, h0, h1, h2]
  first
   | (refine q_skip ?_ ?_
      · rfl)
   | (refine q_run ?_ ?_ ?_ ?_
      · kernel_rfl
      rotate_left
      · intro w_ hw_
        obtain ⟨c0, c1, c2, cb⟩ := hw_
        first | (go_simp; done) | (go_simp; with_reducible rfl) | (go_simp; rw [if_neg (by first | omega | (simp; omega))]))
  try simp only [Act.put, List.setIfInBounds_toArray, List.set_cons_zero, List.set_cons_succ]
  try simp only [p0, p1, h0, h1, h2]
  first
   | (refine q_skip ?_ ?_
      · rfl)
   | (refine q_run ?_ ?_ ?_ ?_
      · kernel_rfl
      rotate_left
      · intro w_ hw_
        obtain ⟨c0, c1, c2, cb⟩ := hw_
        first | (go_simp; done) | (go_simp; with_reducible rfl) | (go_simp; rw [if_neg (by first | omega | (simp; omega))]))
  try simp only [Act.put, List.setIfInBounds_toArray, List.set_cons_zero, List.set_cons_succ]
  try simp only [p0, p1, h0, h1, h2]
  first
   | (refine q_skip ?_ ?_
      · rfl)
   | (refine q_run ?_ ?_ ?_ ?_
      · kernel_rfl
      rotate_left
      · intro w_ hw_
        obtain ⟨c0, c1, c2, cb⟩ := hw_
        first | (go_simp; done) | (go_simp; with_reducible rfl) | (go_simp; rw [if_neg (by first | omega | (simp; omega))]))
  try simp only [Act.put, List.setIfInBounds_toArray, List.set_cons_zero, List.set_cons_succ]
  try simp only [p0, p1, h0, h1, h2]
  refine q_run ?_ ?_ ?_ ?_
  · kernel_rfl
  rotate_left
  · intro w_ hw_
    obtain ⟨c0, c1, c2, cb⟩ := hw_
    first | (go_simp; done) | (go_simp; with_reducible rfl) | (go_simp; rw [if_neg (by first | omega | (simp; omega))])
  try simp only [Act.put, List.setIfInBounds_toArray, List.set_cons_zero, List.set_cons_succ]
  try simp only [p0, p1, h0, h1, h2]
  refine q_run ?_ ?_ ?_ ?_
  · kernel_rfl
  rotate_left
  · intro w_ hw_
    obtain ⟨c0, c1, c2, cb⟩ := hw_
    first | (go_simp; done) | (go_simp; with_reducible rfl) | (go_simp; rw [if_neg (by first | omega | (simp; omega))])
  try simp only [Act.put, List.setIfInBounds_toArray, List.set_cons_zero, List.set_cons_succ]
  try simp only [p0, p1, h0, h1, h2]
  first
   | (refine q_skip ?_ ?_
      · rfl)
   | (refine q_run ?_ ?_ ?_ ?_
      · kernel_rfl
      rotate_left
      · intro w_ hw_
        obtain ⟨c0, c1, c2, cb⟩ := hw_
        first | (go_simp; done) | (go_simp; with_reducible rfl) | (go_simp; rw [if_neg (by first | omega | (simp; omega))]))
  try simp only [Act.put, List.setIfInBounds_toArray, List.set_cons_zero, List.set_cons_succ]
  try simp only [p0, p1, h0, h1, h2]
  first
   | (refine q_skip ?_ ?_
      · rfl)
   | (refine q_run ?_ ?_ ?_ ?_
      · kernel_rfl
      rotate_left
      · intro w_ hw_
        obtain ⟨c0, c1, c2, cb⟩ := hw_
        first | (go_simp; done) | (go_simp; with_reducible rfl) | (go_simp; rw [if_neg (by first | omega | (simp; omega))]))
  try simp only [Act.put, List.setIfInBounds_toArray, List.set_cons_zero, List.set_cons_succ]
  try simp only [p0, p1, h0, h1, h2]
  first
   | (refine q_skip ?_ ?_
      · rfl)
   | (refine q_run ?_ ?_ ?_ ?_
      · kernel_rfl
      rotate_left
      · intro w_ hw_
        obtain ⟨c0, c1, c2, cb⟩ := hw_
        first | (go_simp; done) | (go_simp; with_reducible rfl) | (go_simp; rw [if_neg (by first | omega | (simp; omega))]))
  try simp only [Act.put, List.setIfInBounds_toArray, List.set_cons_zero, List.set_cons_succ]
  try simp only [p0, p1, h0, h1, h2]
  refine q_run ?_ ?_ ?_ ?_
  · kernel_rfl
  rotate_left
  · intro w_ hw_
    obtain ⟨c0, c1, c2, cb⟩ := hw_
    first | (go_simp; done) | (go_simp; with_reducible rfl) | (go_simp; rw [if_neg (by first | omega | (simp; omega))])
  try simp only [Act.put, List.setIfInBounds_toArray, List.set_cons_zero, List.set_cons_succ]
  try simp only [p0, p1, h0, h1, h2]
  refine q_run ?_ ?_ ?_ ?_
  · kernel_rfl
  rotate_left
  · intro w_ hw_
    obtain ⟨c0, c1, c2, cb⟩ := hw_
    first | (go_simp; done) | (go_simp; with_reducible rfl) | (go_simp; rw [if_neg (by first | omega | (simp; omega))])
  try simp only [Act.put, List.setIfInBounds_toArray, List.set_cons_zero, List.set_cons_succ]
  try simp only [p0, p1, h0, h1, h2]
  refine q_nil ?_
  intro W_ hC_
  go_wp2
  go_ret
  exact ⟨rfl, hC_.2.2.2⟩
set_option maxHeartbeats 4000000 in
theorem rfits_g1k3 (code a b c : Int) (h : Rp.none3 a b c = false) (p0 : (a == 2) = false) (p1 : (a == 4) = true) (h0 : ((a : Int) == Rp.cls code) = true) (h1 : decide (0 ≤ b) = true) (h2 : decide (b < 1000) = true) (h3 : decide (0 ≤ c) = false) (w : World) : Calls Tryd.prog 37 #[.int .i64 code, .agg #[.int .i64 a, .int .i64 b, .int .i64 c]] w fun e w' => e = .returned (.bool false) ∧ Below w.heap.size w w' := by
  have M : Aside (Mine w [(w.heap.size, #[.int .i64 a, .int .i64 b, .int .i64 c], 23)] (w.alloc (.cells #[.int .i64 a, .int .i64 b, .int .i64 c] 23))) := ⟨(Mine.start w).alloc _ _⟩
  go_enter Tryd.func37, Tryd.ntmps37
  go_wp2_with (go_at_call 52; (with_reducible refine (rnone_any a b c _).mono ?_); rintro e w1 ⟨rfl, hb⟩; rw [h]; replace M := Aside.mk (M.out.next hb); clear hb; have z0 := Mine.at M.out 0 _ rfl; have z1 := Mine.at M.out 1 _ rfl; have z2 := Mine.at M.out 2 _ rfl; have zl := Mine.lt M.out)
  refine region_class (C := (fun w' => w'.cell? ⟨w.heap.size, 0, none⟩ = some (.int .i64 a) ∧ w'.cell? ⟨w.heap.size, 1, none⟩ = some (.int .i64 b) ∧ w'.cell? ⟨w.heap.size, 2, none⟩ = some (.int .i64 c) ∧ Below w.heap.size w w')) (by kernel_rfl) (by kernel_rfl) ⟨(M.out.drewN 1).at 0 _ rfl, (M.out.drewN 1).at 1 _ rfl, (M.out.drewN 1).at 2 _ rfl, (M.out.drewN 1).low⟩ ?_
  refine q_run ?_ ?_ ?_ ?_
  · kernel_rfl
  rotate_left
  · intro w_ hw_
    obtain ⟨c0, c1, c2, cb⟩ := hw_
    first | (go_simp; done) | (go_simp; with_reducible rfl) | (go_simp; rw [if_neg (by first | omega | (simp; omega))])
  try simp only [Act.put, List.setIfInBounds_toArray, List.set_cons_zero, List.set_cons_succ]
  try simp only [p0, p1, h0, h1, h2, h3]
  refine q_run ?_ ?_ ?_ ?_
  · kernel_rfl
  rotate_left
  · intro w_ hw_
    obtain ⟨c0, c1, c2, cb⟩ := hw_
    first | (go_simp; done) | (go_simp; with_reducible rfl) | (go_simp; rw [if_neg (by first | omega | (simp; omega))])
  try simp only [Act.put, List.setIfInBounds_toArray, List.set_cons_zero, List.set_cons_succ]
  try simp only [p0, p1, h0, h1, h2, h3]
  refine q_run ?_ ?_ ?_ ?_
  · kernel_rfl
  rotate_left
  · intro w_ hw_
    obtain ⟨c0, c1, c2, cb⟩ := hw_
    first | (go_simp; done) | (go_simp; with_reducible rfl) | (go_simp; rw [if_neg (by first | omega | (simp; omega))])
  try simp only [Act.put, List.setIfInBounds_toArray, List.set_cons_zero, List.set_cons_succ]
  try simp only [p0, p1, h0, h1, h2, h3]
  refine q_run ?_ ?_ ?_ ?_
  · kernel_rfl
  rotate_left
  · intro w_ hw_
    obtain ⟨c0, c1, c2, cb⟩ := hw_
    first | (go_simp; done) | (go_simp; with_reducible rfl) | (go_simp; rw [if_neg (by first | omega | (simp; omega))])
  try simp only [Act.put, List.setIfInBounds_toArray, List.set_cons_zero, List.set_cons_succ]
  try simp only [p0, p1, h0, h1, h2, h3]
  first
   | (refine q_skip ?_ ?_
      · rfl)
   | (refine q_run ?_ ?_ ?_ ?_
      · kernel_rfl
      rotate_left
      · intro w_ hw_
        obtain ⟨c0, c1, c2, cb⟩ := hw_
        first | (go_simp; done) | (go_simp; with_reducible rfl) | (go_simp; rw [if_neg (by first | omega | (simp; omega))]))
  try simp only [Act.put, List.setIfInBounds_toArray, List.set_cons_zero, List.set_cons_succ]
  try simp only [p0, p1, h0, h1, h2, h3]
  first
   | (refine q_skip ?_ ?_
      · rfl)
   | (refine q_run ?_ ?_ ?_ ?_
      · kernel_rfl
      rotate_left
      · intro w_ hw_
        obtain ⟨c0, c1, c2, cb⟩ := hw_
        first | (go_simp; done) | (go_simp; with_reducible rfl) | (go_simp; rw [if_neg (by first | omega | (simp; omega))]))
  try simp only [Act.put, List.setIfInBounds_toArray, List.set_cons_zero, List.set_cons_succ]
  try simp only [p0, p1, h0, h1, h2, h3]
  first
   | (refine q_skip ?_ ?_
      · rfl)
   | (refine q_run ?_ ?_ ?_ ?_
      · kernel_rfl
      rotate_left
      · intro w_ hw_
        obtain ⟨c0, c1, c2, cb⟩ := hw_
        first | (go_simp; done) | (go_simp; with_reducible rfl) | (go_simp; rw [if_neg (by first | omega | (simp; omega))]))
  try simp only [Act.put, List.setIfInBounds_toArray, List.set_cons_zero, List.set_cons_succ]
  try simp only [p0, p1, h0, h1, h2, h3]
  refine q_run ?_ ?_ ?_ ?_
  · kernel_rfl
  rotate_left
  · intro w_ hw_
    obtain ⟨c0, c1, c2, cb⟩ := hw_
    first | (go_simp; done) | (go_simp; with_reducible rfl) | (go_simp; rw [if_neg (by first | omega | (simp; omega))])
  try simp only [Act.put, List.setIfInBounds_toArray, List.set_cons_zero, List.set_cons_succ]
  try simp only [p0, p1, h0, h1, h2, h3]
  refine q_run ?_ ?_ ?_ ?_
  · kernel_rfl
  rotate_left
  · intro w_ hw_
    obtain ⟨c0, c1, c2, cb⟩ := hw_
    first | (go_simp; done) | (go_simp; with_reducible rfl) | (go_simp; rw [if_neg (by first | omega | (simp; omega))])
  try simp only [Act.put, List.setIfInBounds_toArray, List.set_cons_zero, List.set_cons_succ]
  try simp only [p0, p1, h0, h1, h2, h3]
  first
   | (refine q_skip ?_ ?_
      · rfl)
   | (refine q_run ?_ ?_ ?_ ?_
      · kernel_rfl
      rotate_left
      · intro w_ hw_
        obtain ⟨c0, c1, c2, cb⟩ := hw_
        first | (go_simp; done) | (go_simp; with_reducible rfl) | (go_simp; rw [if_neg (by first | omega | (simp; omega))]))
  try simp only [Act.put, List.setIfInBounds_toArray, List.set_cons_zero, List.set_cons_succ]
  try simp only [p0, p1, h0, h1, h2, h3]
  first
   | (refine q_skip ?_ ?_
      · rfl)
   | (refine q_run ?_ ?_ ?_ ?_
      · kernel_rfl
      rotate_left
      · intro w_ hw_
        obtain ⟨c0, c1, c2, cb⟩ := hw_
        first | (go_simp; done) | (go_simp; with_reducible rfl) | (go_simp; rw [if_neg (by first | omega | (simp; omega))]))
  try simp only [Act.put, List.setIfInBounds_toArray, List.set_cons_zero, List.set_cons_succ]
  try simp only [p0, p1, h0, h1, h2, h3]
  first
   | (refine q_skip ?_ ?_
      · rfl)
   | (refine q_run ?_ ?_ ?_ ?_
      · kernel_rfl
      rotate_left
      · intro w_ hw_
        obtain ⟨c0, c1, c2, cb⟩ := hw_
        first | (go_simp; done) | (go_simp; with_reducible rfl) | (go_simp; rw [if_neg (by first | omega | (simp; omega))]))
  try simp only [Act.put, List.setIfInBounds_toArray, List.set_cons_zero, List.set_cons_succ]
  try simp only [p0, p1, h0, h1, h2, h3]
  refine q_run ?_ ?_ ?_ ?_
  · kernel_rfl
  rotate_left
  · intro w_ hw_
    obtain ⟨c0, c1, c2, cb⟩ := hw_
    first | (go_simp; done) | (go_simp; with_reducible rfl) | (go_simp; rw [if_neg (by first | omega | (simp; omega))])
  try simp only [Act.put, List.setIfInBounds_toArray, List.set_cons_zero, List.set_cons_succ]
  try simp only [p0, p1, h0, h1, h2, h3]
  refine q_run ?_ ?_ ?_ ?_
  · kernel_rfl
  rotate_left
  · intro w_ hw_
    obtain ⟨c0, c1, c2, cb⟩ := hw_
    first | (go_simp; done) | (go_simp; with_reducible rfl) | (go_simp; rw [if_neg (by first | omega | (simp; omega))])
  try simp only [Act.put, List.setIfInBounds_toArray, List.set_cons_zero, List.set_cons_succ]
  try simp only [p0, p1, h0, h1, h2, h3]
  first
   | (refine q_skip ?_ ?_
      · rfl)
   | (refine q_run ?_ ?_ ?_ ?_
      · kernel_rfl
      rotate_left
      · intro w_ hw_
        obtain ⟨c0, c1, c2, cb⟩ := hw_
        first | (go_simp; done) | (go_simp; with_reducible rfl) | (go_simp; rw [if_neg (by first | omega | (simp; omega))]))
  try simp only [Act.put, List.setIfInBounds_toArray, List.set_cons_zero, List.set_cons_succ]
  try simp only [p0, p1, h0, h1, h2, h3]
  first
   | (refine q_skip ?_ ?_
      · rfl)
   | (refine q_run ?_ ?_ ?_ ?_
      · kernel_rfl
      rotate_left
      · intro w_ hw_
        obtain ⟨c0, c1, c2, cb⟩ := hw_
        first | (go_simp; done) | (go_simp; with_reducible rfl) | (go_simp; rw [if_neg (by first | omega | (simp; omega))]))
  try simp only [Act.put, List.setIfInBounds_toArray, List.set_cons_zero, List.set_cons_succ]
  try simp only [p0, p1, h0, h1, h2, h3]
  first
   | (refine q_skip ?_ ?_
      · rfl)
   | (refine q_run ?_ ?_ ?_ ?_
      · kernel_rfl
      rotate_left
      · intro w_ hw_
        obtain ⟨c0, c1, c2, cb⟩ := hw_
        first | (go_simp; done) | (go_simp; with_reducible rfl) | (go_simp; rw [if_neg (by first | omega | (simp; omega))]))
  try simp only [Act.put, List.setIfInBounds_toArray, List.set_cons_zero, List.set_cons_succ]
  try simp only [p0, p1, h0, h1, h2, h3]
  first
   | (refine q_skip ?_ ?_
      · rfl)
   | (refine q_call ?_ (.int .i64 (Rp.cls code)) ?_ ?_ ?_ ?_ ?_
      · kernel_rfl
      rotate_left 2
      · intro w_ hw_
        go_simp
        refine ⟨?_, ?_⟩ <;> with_reducible rfl
      · intro w_ hw_
        obtain ⟨c0, c1, c2, cb⟩ := hw_
        exact ((rclass_any _ _).mono fun _ _ ⟨h1, h2⟩ => ⟨h1, h2 ▸ ⟨c0, c1, c2, cb⟩⟩))
  try simp only [Act.put, List.setIfInBounds_toArray, List.set_cons_zero, List.set_cons_succ]
  try simp only [p0, p1, h0, h1, h2, h3]
  first
   | (refine q_skip ?_ ?_
      · rfl)
   | (refine q_run ?_ ?_ ?_ ?_
      · kernel_rfl
      rotate_left
      · intro w_ hw_
        obtain ⟨c0, c1, c2, cb⟩ := hw_
        first | (go_simp; done) | (go_simp; with_reducible rfl) | (go_simp; rw [if_neg (by first | omega | (simp; omega))]))
  try simp only [Act.put, List.setIfInBounds_toArray, List.set_cons_zero, List.set_cons_succ]
  try simp only [p0, p1, h0, h1, h2, h3]
  refine q_run ?_ ?_ ?_ ?_
  · kernel_rfl
  rotate_left
  · intro w_ hw_
    obtain ⟨c0, c1, c2, cb⟩ := hw_
    first | (go_simp; done) | (go_simp; with_reducible rfl) | (go_simp; rw [if_neg (by first | omega | (simp; omega))])
  try simp only [Act.put, List.setIfInBounds_toArray, List.set_cons_zero, List.set_cons_succ]
  try simp only [p0, p1, h0, h1, h2, h3]
  refine q_run ?_ ?_ ?_ ?_
  · kernel_rfl
  rotate_left
  · intro w_ hw_
    obtain ⟨c0, c1, c2, cb⟩ := hw_
    first | (go_simp; done) | (go_simp; with_reducible rfl) | (go_simp; rw [if_neg (by first | omega | (simp; omega))])
  try simp only [Act.put, List.setIfInBounds_toArray, List.set_cons_zero, List.set_cons_succ]
  try simp only [p0, p1, h0, h1, h2, h3]
  first
   | (refine q_skip ?_ ?_
      · rfl)
   | (refine q_run ?_ ?_ ?_ ?_
      · kernel_rfl
      rotate_left
      · intro w_ hw_
        obtain ⟨c0, c1, c2, cb⟩ := hw_
        first | (go_simp; done) | (go_simp; with_reducible rfl) | (go_simp; rw [if_neg (by first | omega | (simp; omega))]))
  try simp only [Act.put, List.setIfInBounds_toArray, List.set_cons_zero, List.set_cons_succ]
  try simp only [p0, p1, h0, h1, h2, h3]
  first
   | (refine q_skip ?_ ?_
      · rfl)
   | (refine q_run ?_ ?_ ?_ ?_
      · kernel_rfl
      rotate_left
      · intro w_ hw_
        obtain ⟨c0, c1, c2, cb⟩ := hw_
        first | (go_simp; done) | (go_simp; with_reducible rfl) | (go_simp; rw [if_neg (by first | omega | (simp; omega))]))
  try simp only [Act.put, List.setIfInBounds_toArray, List.set_cons_zero, List.set_cons_succ]
  try simp only [p0, p1, h0, h1, h2, h3]
  first
   | (refine q_skip ?_ ?_
      · rfl)
   | (refine q_run ?_ ?_ ?_ ?_
      · kernel_rfl
      rotate_left
      · intro w_ hw_
        obtain ⟨c0, c1, c2, cb⟩ := hw_
        first | (go_simp; done) | (go_simp; with_reducible rfl) | (go_simp; rw [if_neg (by first | omega | (simp; omega))]))
  try simp only [Act.put, List.setIfInBounds_toArray, List.set_cons_zero, List.set_cons_succ]
  try simp only [p0, p1, h0, h1, h2, h3]
  refine q_run ?_ ?_ ?_ ?_
  · kernel_rfl
  rotate_left
  · intro w_ hw_
    obtain ⟨c0, c1, c2, cb⟩ := hw_
    first | (go_simp; done) | (go_simp; with_reducible rfl) | (go_simp; rw [if_neg (by first | omega | (simp; omega))])
  try simp only [Act.put, List.setIfInBounds_toArray, List.set_cons_zero, List.set_cons_succ]
  try simp only [p0, p1, h0, h1, h2, h3]
  refine q_run ?_ ?_ ?_ ?_
  · kernel_rfl
  rotate_left
  · intro w_ hw_
    obtain ⟨c0, c1, c2, cb⟩ := hw_
    first | (go_simp; done) | (go_simp; with_reducible rfl) | (go_simp; rw [if_neg (by first | omega | (simp; omega))])
  try simp only [Act.put, List.setIfInBounds_toArray, List.set_cons_zero, List.set_cons_succ]
  try simp only [p0, p1, h0, h1, h2, h3]
  first
   | (refine q_skip ?_ ?_
      · rfl)
   | (refine q_run ?_ ?_ ?_ ?_
      · kernel_rfl
      rotate_left
      · intro w_ hw_
        obtain ⟨c0, c1, c2, cb⟩ := hw_
        first | (go_simp; done) | (go_simp; with_reducible rfl) | (go_simp; rw [if_neg (by first | omega | (simp; omega))]))
  try simp only [Act.put, List.setIfInBounds_toArray, List.set_cons_zero, List.set_cons_succ]
  try simp only [p0, p1, h0, h1, h2, h3]
  first
   | (refine q_skip ?_ ?_
      · rfl)
   | (refine q_run ?_ ?_ ?_ ?_
      · kernel_rfl
      rotate_left
      · intro w_ hw_
        obtain ⟨c0, c1, c2, cb⟩ := hw_
        first | (go_simp; done) | (go_simp; with_reducible rfl) | (go_simp; rw [if_neg (by first | omega | (simp; omega))]))
  try simp only [Act.put, List.setIfInBounds_toArray, List.set_cons_zero, List.set_cons_succ]
  try simp only [p0, p1, h0, h1, h2, h3]
  first
   | (refine q_skip ?_ ?_
      · rfl)
   | (refine q_run ?_ ?_ ?_ ?_
      · kernel_rfl
      rotate_left
      · intro w_ hw_
        obtain ⟨c0, c1, c2, cb⟩ := hw_
        first | (go_simp; done) | (go_simp; with_reducible rfl) | (go_simp; rw [if_neg (by first | omega | (simp; omega))]))
  try simp only [Act.put, List.setIfInBounds_toArray, List.set_cons_zero, List.set_cons_succ]
  try simp only [p0, p1, h0, h1, h2, h3]
  refine q_run ?_ ?_ ?_ ?_
  · kernel_rfl
  rotate_left
  · intro w_ hw_
    obtain ⟨c0, c1, c2, cb⟩ := hw_
    first | (go_simp; done) | (go_simp; with_reducible rfl) | (go_simp; rw [if_neg (by first | omega | (simp; omega))])
  try simp only [Act.put, List.setIfInBounds_toArray, List.set_cons_zero, List.set_cons_succ]
  try simp only [p0, p1, h0, h1, h2, h3]
  refine q_run ?_ ?_ ?_ ?_
  · kernel_rfl
  rotate_left
  · intro w_ hw_
    obtain ⟨c0, c1, c2, cb⟩ := hw_
    first | (go_simp; done) | (go_simp; with_reducible rfl) | (go_simp; rw [if_neg (by first | omega | (simp; omega))])
  try simp only [Act.put, List.setIfInBounds_toArray, List.set_cons_zero, List.set_cons_succ]
  try simp only [p0, p1, h0, h1, h2, h3]
  first
   | (refine q_skip ?_ ?_
      · rfl)
   | (refine q_run ?_ ?_ ?_ ?_
      · kernel_rfl
      rotate_left
      · intro w_ hw_
        obtain ⟨c0, c1, c2, cb⟩ := hw_
        first | (go_simp; done) | (go_simp; with_reducible rfl) | (go_simp; rw [if_neg (by first | omega | (simp; omega))]))
  try simp only [Act.put, List.setIfInBounds_toArray, List.set_cons_zero, List.set_cons_succ]
  try simp only [p0, p1, h0, h1, h2, h3]
  first
   | (refine q_skip ?_ ?_
      · rfl)
   | (refine q_run ?_ ?_ ?_ ?_
      · kernel_rfl
      rotate_left
      · intro w_ hw_
        obtain ⟨c0, c1, c2, cb⟩ := hw_
        first | (go_simp; done) | (go_simp; with_reducible rfl) | (go_simp; rw [if_neg (by first | omega | (simp; omega))]))
  try simp only [Act.put, List.setIfInBounds_toArray, List.set_cons_zero, List.set_cons_succ]
  try simp only [p0, p1, h0, h1, h2, h3]
  first
   | (refine q_skip ?_ ?_
      · rfl)
   | (refine q_run ?_ ?_ ?_ ?_
      · kernel_rfl
      rotate_left
      · intro w_ hw_
        obtain ⟨c0, c1, c2, cb⟩ := hw_
        first | (go_simp; done) | (go_simp; with_reducible rfl) | (go_simp; rw [if_neg (by first | omega | (simp; omega))]))
  try simp only [Act.put, List.setIfInBounds_toArray, List.set_cons_zero, List.set_cons_succ]
  try simp only [p0, p1, h0, h1, h2, h3]
  refine q_run ?_ ?_ ?_ ?_
  · kernel_rfl
  rotate_left
  · intro w_ hw_
    obtain ⟨c0, c1, c2, cb⟩ := hw_
    first | (go_simp; done) | (go_simp; with_reducible rfl) | (go_simp; rw [if_neg (by first | omega | (simp; omega))])
  try simp only [Act.put, List.setIfInBounds_toArray, List.set_cons_zero, List.set_cons_succ]
  try simp only [p0, p1, h0, h1, h2, h3]
  refine q_run ?_ ?_ ?_ ?_
  · kernel_rfl
  rotate_left
  · intro w_ hw_
    obtain ⟨c0, c1, c2, cb⟩ := hw_
    first | (go_simp; done) | (go_simp; with_reducible rfl) | (go_simp; rw [if_neg (by first | omega | (simp; omega))])
  try simp only [Act.put, List.setIfInBounds_toArray, List.set_cons_zero, List.set_cons_succ]
  try simp only [p0, p1, h0, h1, h2, h3]
  first
   | (refine q_skip ?_ ?_
      · rfl)
   | (refine q_run ?_ ?_ ?_ ?_
      · kernel_rfl
      rotate_left
      · intro w_ hw_
        obtain ⟨c0, c1, c2, cb⟩ := hw_
        first | (go_simp; done) | (go_simp; with_reducible rfl) | (go_simp; rw [if_neg (by first | omega | (simp; omega))]))
  try simp only [Act.put, List.setIfInBounds_toArray, List.set_cons_zero, List.set_cons_succ]
  try simp only [p0, p1, h0, h1, h2, h3]
  first
   | (refine q_skip ?_ ?_
      · rfl)
   | (refine q_run ?_ ?_ ?_ ?_
      · kernel_rfl
      rotate_left
      · intro w_ hw_
        obtain ⟨c0, c1, c2, cb⟩ := hw_
        first | (go_simp; done) | (go_simp; with_reducible rfl) | (go_simp; rw [if_neg (by first | omega | (simp; omega))]))
  try simp only [Act.put, List.setIfInBounds_toArray, List.set_cons_zero, List.set_cons_succ]
  try simp only [p0, p1, h0, h1, h2, h3]
  first
   | (refine q_skip ?_ ?_
      · rfl)
   | (refine q_run ?_ ?_ ?_ ?_
      · kernel_rfl
      rotate_left
      · intro w_ hw_
        obtain ⟨c0, c1, c2, cb⟩ := hw_
        first | (go_simp; done) | (go_simp; with_reducible rfl) | (go_simp; rw [if_neg (by first | omega | (simp; omega))]))
  try simp only [Act.put, List.setIfInBounds_toArray, List.set_cons_zero, List.set_cons_succ]
  try simp only [p0, p1, h0, h1, h2, h3]
  refine q_run ?_ ?_ ?_ ?_
  · kernel_rfl
  rotate_left
  · intro w_ hw_
    obtain ⟨c0, c1, c2, cb⟩ := hw_
    first | (go_simp; done) | (go_simp; with_reducible rfl) | (go_simp; rw [if_neg (by first | omega | (simp; omega))])
  try simp only [Act.put, List.setIfInBounds_toArray, List.set_cons_zero, List.set_cons_succ]
  try simp only [p0, p1, h0, h1, h2, h3]
  refine q_run ?_ ?_ ?_ ?_
  · kernel_rfl
  rotate_left
  · intro w_ hw_
    obtain ⟨c0, c1, c2, cb⟩ := hw_
    first | (go_simp; done) | (go_simp; with_reducible rfl) | (go_simp; rw [if_neg (by first | omega | (simp; omega))])
  try simp only [Act.put, List.setIfInBounds_toArray, List.set_cons_zero, List.set_cons_succ]
  try simp only [p0, p1, h0, h1, h2, h3]
  refine q_nil ?_
  intro W_ hC_
  go_wp2
  go_ret
  exact ⟨rfl, hC_.2.2.2⟩
set_option maxHeartbeats 4000000 in
theorem rfits_g1k4 (code a b c : Int) (h : Rp.none3 a b c = false) (p0 : (a == 2) = false) (p1 : (a == 4) = true) (h0 : ((a : Int) == Rp.cls code) = true) (h1 : decide (0 ≤ b) = true) (h2 : decide (b < 1000) = true) (h3 : decide (0 ≤ c) = true) (h4 : decide (c < 1000) = false) (w : World) : Calls Tryd.prog 37 #[.int .i64 code, .agg #[.int .i64 a, .int .i64 b, .int .i64 c]] w fun e w' => e = .returned (.bool false) ∧ Below w.heap.size w w' := by
  have M : Aside (Mine w [(w.heap.size, #[.int .i64 a, .int .i64 b, .int .i64 c], 23)] (w.alloc (.cells #[.int .i64 a, .int .i64 b, .int .i64 c] 23))) := ⟨(Mine.start w).alloc _ _⟩
  go_enter Tryd.func37, Tryd.ntmps37
  go_wp2_with (go_at_call 52; (with_reducible refine (rnone_any a b c _).mono ?_); rintro e w1 ⟨rfl, hb⟩; rw [h]; replace M := Aside.mk (M.out.next hb); clear hb; have z0 := Mine.at M.out 0 _ rfl; have z1 := Mine.at M.out 1 _ rfl; have z2 := Mine.at M.out 2 _ rfl; have zl := Mine.lt M.out)
  refine region_class (C := (fun w' => w'.cell? ⟨w.heap.size, 0, none⟩ = some (.int .i64 a) ∧ w'.cell? ⟨w.heap.size, 1, none⟩ = some (.int .i64 b) ∧ w'.cell? ⟨w.heap.size, 2, none⟩ = some (.int .i64 c) ∧ Below w.heap.size w w')) (by kernel_rfl) (by kernel_rfl) ⟨(M.out.drewN 1).at 0 _ rfl, (M.out.drewN 1).at 1 _ rfl, (M.out.drewN 1).at 2 _ rfl, (M.out.drewN 1).low⟩ ?_
  refine q_run ?_ ?_ ?_ ?_
  · kernel_rfl
  rotate_left
  · intro w_ hw_
    obtain ⟨c0, c1, c2, cb⟩ := hw_
    first | (go_simp; done) | (go_simp; with_reducible rfl) | (go_simp; rw [if_neg (by first | omega | (simp; omega))])
  try simp only [Act.put, List.setIfInBounds_toArray, List.set_cons_zero, List.set_cons_succ]
  try simp only [p0, p1, h0, h1, h2, h3, h4]
  refine q_run ?_ ?_ ?_ ?_
  · kernel_rfl
  rotate_left
  · intro w_ hw_
    obtain ⟨c0, c1, c2, cb⟩ := hw_
    first | (go_simp; done) | (go_simp; with_reducible rfl) | (go_simp; rw [if_neg (by first | omega | (simp; omega))])
  try simp only [Act.put, List.setIfInBounds_toArray, List.set_cons_zero, List.set_cons_succ]
  try simp only [p0, p1, h0, h1, h2, h3, h4]
  refine q_run ?_ ?_ ?_ ?_
  · kernel_rfl
  rotate_left
  · intro w_ hw_
    obtain ⟨c0, c1, c2, cb⟩ := hw_
    first | (go_simp; done) | (go_simp; with_reducible rfl) | (go_simp; rw [if_neg (by first | omega | (simp; omega))])
  try simp only [Act.put, List.setIfInBounds_toArray, List.set_cons_zero, List.set_cons_succ]
  try simp only [p0, p1, h0, h1, h2, h3, h4]
  refine q_run ?_ ?_ ?_ ?_
  · kernel_rfl
  rotate_left
  · intro w_ hw_
    obtain ⟨c0, c1, c2, cb⟩ := hw_
    first | (go_simp; done) | (go_simp; with_reducible rfl) | (go_simp; rw [if_neg (by first | omega | (simp; omega))])
  try simp only [Act.put, List.setIfInBounds_toArray, List.set_cons_zero, List.set_cons_succ]
  try simp only [p0, p1, h0, h1, h2, h3, h4]
  first
   | (refine q_skip ?_ ?_
      · rfl)
   | (refine q_run ?_ ?_ ?_ ?_
      · kernel_rfl
      rotate_left
      · intro w_ hw_
        obtain ⟨c0, c1, c2, cb⟩ := hw_
        first | (go_simp; done) | (go_simp; with_reducible rfl) | (go_simp; rw [if_neg (by first | omega | (simp; omega))]))
  try simp only [Act.put, List.setIfInBounds_toArray, List.set_cons_zero, List.set_cons_succ]
  try simp only [p0, p1, h0, h1, h2, h3, h4]
  first
   | (refine q_skip ?_ ?_
      · rfl)
   | (refine q_run ?_ ?_ ?_ ?_
      · kernel_rfl
      rotate_left
      · intro w_ hw_
        obtain ⟨c0, c1, c2, cb⟩ := hw_
        first | (go_simp; done) | (go_simp; with_reducible rfl) | (go_simp; rw [if_neg (by first | omega | (simp; omega))]))
  try simp only [Act.put, List.setIfInBounds_toArray, List.set_cons_zero, List.set_cons_succ]
  try simp only [p0, p1, h0, h1, h2, h3, h4]
  first
   | (refine q_skip ?_ ?_
      · rfl)
   | (refine q_run ?_ ?_ ?_ ?_
      · kernel_rfl
      rotate_left
      · intro w_ hw_
        obtain ⟨c0, c1, c2, cb⟩ := hw_
        first | (go_simp; done) | (go_simp; with_reducible rfl) | (go_simp; rw [if_neg (by first | omega | (simp; omega))]))
  try simp only [Act.put, List.setIfInBounds_toArray, List.set_cons_zero, List.set_cons_succ]
  try simp only [p0, p1, h0, h1, h2, h3, h4]
  refine q_run ?_ ?_ ?_ ?_
  · kernel_rfl
  rotate_left
  · intro w_ hw_
    obtain ⟨c0, c1, c2, cb⟩ := hw_
    first | (go_simp; done) | (go_simp; with_reducible rfl) | (go_simp; rw [if_neg (by first | omega | (simp; omega))])
  try simp only [Act.put, List.setIfInBounds_toArray, List.set_cons_zero, List.set_cons_succ]
  try simp only [p0, p1, h0, h1, h2, h3, h4]
  refine q_run ?_ ?_ ?_ ?_
  · kernel_rfl
  rotate_left
  · intro w_ hw_
    obtain ⟨c0, c1, c2, cb⟩ := hw_
    first | (go_simp; done) | (go_simp; with_reducible rfl) | (go_simp; rw [if_neg (by first | omega | (simp; omega))])
  try simp only [Act.put, List.setIfInBounds_toArray, List.set_cons_zero, List.set_cons_succ]
  try simp only [p0, p1, h0, h1, h2, h3, h4]
  first
   | (refine q_skip ?_ ?_
      · rfl)
   | (refine q_run ?_ ?_ ?_ ?_
      · kernel_rfl
      rotate_left
      · intro w_ hw_
        obtain ⟨c0, c1, c2, cb⟩ := hw_
        first | (go_simp; done) | (go_simp; with_reducible rfl) | (go_simp; rw [if_neg (by first | omega | (simp; omega))]))
  try simp only [Act.put, List.setIfInBounds_toArray, List.set_cons_zero, List.set_cons_succ]
  try simp only [p0, p1, h0, h1, h2, h3, h4]
  first
   | (refine q_skip ?_ ?_
      · rfl)
   | (refine q_run ?_ ?_ ?_ ?_
      · kernel_rfl
      rotate_left
      · intro w_ hw_
        obtain ⟨c0, c1, c2, cb⟩ := hw_
        first | (go_simp; done) | (go_simp; with_reducible rfl) | (go_simp; rw [if_neg (by first | omega | (simp; omega))]))
  try simp only [Act.put, List.setIfInBounds_toArray, List.set_cons_zero, List.set_cons_succ]
  try simp only [p0, p1, h0, h1, h2, h3, h4]
  first
   | (refine q_skip ?_ ?_
      · rfl)
   | (refine q_run ?_ ?_ ?_ ?_
      · kernel_rfl
      rotate_left
      · intro w_ hw_
        obtain ⟨c0, c1, c2, cb⟩ := hw_
        first | (go_simp; done) | (go_simp; with_reducible rfl) | (go_simp; rw [if_neg (by first | omega | (simp; omega))]))
  try simp only [Act.put, List.setIfInBounds_toArray, List.set_cons_zero, List.set_cons_succ]
  try simp only [p0, p1, h0, h1, h2, h3, h4]
  refine q_run ?_ ?_ ?_ ?_
  · kernel_rfl
  rotate_left
  · intro w_ hw_
    obtain ⟨c0, c1, c2, cb⟩ := hw_
    first | (go_simp; done) | (go_simp; with_reducible rfl) | (go_simp; rw [if_neg (by first | omega | (simp; omega))])
  try simp only [Act.put, List.setIfInBounds_toArray, List.set_cons_zero, List.set_cons_succ]
  try simp only [p0, p1, h0, h1, h2, h3, h4]
  refine q_run ?_ ?_ ?_ ?_
  · kernel_rfl
  rotate_left
  · intro w_ hw_
    obtain ⟨c0, c1, c2, cb⟩ := hw_
    first | (go_simp; done) | (go_simp; with_reducible rfl) | (go_simp; rw [if_neg (by first | omega | (simp; omega))])
  try simp only [Act.put, List.setIfInBounds_toArray, List.set_cons_zero, List.set_cons_succ]
  try simp only [p0, p1, h0, h1, h2, h3, h4]
  first
   | (refine q_skip ?_ ?_
      · rfl)
   | (refine q_run ?_ ?_ ?_ ?_
      · kernel_rfl
      rotate_left
      · intro w_ hw_
        obtain ⟨c0, c1, c2, cb⟩ := hw_
        first | (go_simp; done) | (go_simp; with_reducible rfl) | (go_simp; rw [if_neg (by first | omega | (simp; omega))]))
  try simp only [Act.put, List.setIfInBounds_toArray, List.set_cons_zero, List.set_cons_succ]
  try simp only [p0, p1, h0, h1, h2, h3, h4]
  first
   | (refine q_skip ?_ ?_
      · rfl)
   | (refine q_run ?_ ?_ ?_ ?_
      · kernel_rfl
      rotate_left
      · intro w_ hw_
        obtain ⟨c0, c1, c2, cb⟩ := hw_
        first | (go_simp; done) | (go_simp; with_reducible rfl) | (go_simp; rw [if_neg (by first | omega | (simp; omega))]))
  try simp only [Act.put, List.setIfInBounds_toArray, List.set_cons_zero, List.set_cons_succ]
  try simp only [p0, p1, h0, h1, h2, h3, h4]
  first
   | (refine q_skip ?_ ?_
      · rfl)
   | (refine q_run ?_ ?_ ?_ ?_
      · kernel_rfl
      rotate_left
      · intro w_ hw_
        obtain ⟨c0, c1, c2, cb⟩ := hw_
        first | (go_simp; done) | (go_simp; with_reducible rfl) | (go_simp; rw [if_neg (by first | omega | (simp; omega))]))
  try simp only [Act.put, List.setIfInBounds_toArray, List.set_cons_zero, List.set_cons_succ]
  try simp only [p0, p1, h0, h1, h2, h3, h4]
  first
   | (refine q_skip ?_ ?_
      · rfl)
   | (refine q_call ?_ (.int .i64 (Rp.cls code)) ?_ ?_ ?_ ?_ ?_
      · kernel_rfl
      rotate_left 2
      · intro w_ hw_
        go_simp
        refine ⟨?_, ?_⟩ <;> with_reducible rfl
      · intro w_ hw_
        obtain ⟨c0, c1, c2, cb⟩ := hw_
        exact ((rclass_any _ _).mono fun _ _ ⟨h1, h2⟩ => ⟨h1, h2 ▸ ⟨c0, c1, c2, cb⟩⟩))
  try simp only [Act.put, List.setIfInBounds_toArray, List.set_cons_zero, List.set_cons_succ]
  try simp only [p0, p1, h0, h1, h2, h3, h4]
  first
   | (refine q_skip ?_ ?_
      · rfl)
   | (refine q_run ?_ ?_ ?_ ?_
      · kernel_rfl
      rotate_left
      · intro w_ hw_
        obtain ⟨c0, c1, c2, cb⟩ := hw_
        first | (go_simp; done) | (go_simp; with_reducible rfl) | (go_simp; rw [if_neg (by first | omega | (simp; omega))]))
  try simp only [Act.put, List.setIfInBounds_toArray, List.set_cons_zero, List.set_cons_succ]
  try simp only [p0, p1, h0, h1, h2, h3, h4]
  refine q_run ?_ ?_ ?_ ?_
  · kernel_rfl
  rotate_left
  · intro w_ hw_
    obtain ⟨c0, c1, c2, cb⟩ := hw_
    first | (go_simp; done) | (go_simp; with_reducible rfl) | (go_simp; rw [if_neg (by first | omega | (simp; omega))])
  try simp only [Act.put, List.setIfInBounds_toArray, List.set_cons_zero, List.set_cons_succ]
  try simp only [p0, p1, h0, h1, h2, h3, h4]
  refine q_run ?_ ?_ ?_ ?_
  · kernel_rfl
  rotate_left
  · intro w_ hw_
    obtain ⟨c0, c1, c2, cb⟩ := hw_
    first | (go_simp; done) | (go_simp; with_reducible rfl) | (go_simp; rw [if_neg (by first | omega | (simp; omega))])
  try simp only [Act.put, List.setIfInBounds_toArray, List.set_cons_zero, List.set_cons_succ]
  try simp only [p0, p1, h0, h1, h2, h3, h4]
  first
   | (refine q_skip ?_ ?_
      · rfl)
   | (refine q_run ?_ ?_ ?_ ?_
      · kernel_rfl
      rotate_left
      · intro w_ hw_
        obtain ⟨c0, c1, c2, cb⟩ := hw_
        first | (go_simp; done) | (go_simp; with_reducible rfl) | (go_simp; rw [if_neg (by first | omega | (simp; omega))]))
  try simp only [Act.put, List.setIfInBounds_toArray, List.set_cons_zero, List.set_cons_succ]
  try simp only [p0, p1, h0, h1, h2, h3, h4]
  first
   | (refine q_skip ?_ ?_
      · rfl)
   | (refine q_run ?_ ?_ ?_ ?_
      · kernel_rfl
      rotate_left
      · intro w_ hw_
        obtain ⟨c0, c1, c2, cb⟩ := hw_
        first | (go_simp; done) | (go_simp; with_reducible rfl) | (go_simp; rw [if_neg (by first | omega | (simp; omega))]))
  try simp only [Act.put, List.setIfInBounds_toArray, List.set_cons_zero, List.set_cons_succ]
  try simp only [p0, p1, h0, h1, h2, h3, h4]
  first
   | (refine q_skip ?_ ?_
      · rfl)
   | (refine q_run ?_ ?_ ?_ ?_
      · kernel_rfl
      rotate_left
      · intro w_ hw_
        obtain ⟨c0, c1, c2, cb⟩ := hw_
        first | (go_simp; done) | (go_simp; with_reducible rfl) | (go_simp; rw [if_neg (by first | omega | (simp; omega))]))
  try simp only [Act.put, List.setIfInBounds_toArray, List.set_cons_zero, List.set_cons_succ]
  try simp only [p0, p1, h0, h1, h2, h3, h4]
  refine q_run ?_ ?_ ?_ ?_
  · kernel_rfl
  rotate_left
  · intro w_ hw_
    obtain ⟨c0, c1, c2, cb⟩ := hw_
    first | (go_simp; done) | (go_simp; with_reducible rfl) | (go_simp; rw [if_neg (by first | omega | (simp; omega))])
  try simp only [Act.put, List.setIfInBounds_toArray, List.set_cons_zero, List.set_cons_succ]
  try simp only [p0, p1, h0, h1, h2, h3, h4]
  refine q_run ?_ ?_ ?_ ?_
  · kernel_rfl
  rotate_left
  · intro w_ hw_
    obtain ⟨c0, c1, c2, cb⟩ := hw_
    first | (go_simp; done) | (go_simp; with_reducible rfl) | (go_simp; rw [if_neg (by first | omega | (simp; omega))])
  try simp only [Act.put, List.setIfInBounds_toArray, List.set_cons_zero, List.set_cons_succ]
  try simp only [p0, p1, h0, h1, h2, h3, h4]
  first
   | (refine q_skip ?_ ?_
      · rfl)
   | (refine q_run ?_ ?_ ?_ ?_
      · kernel_rfl
      rotate_left
      · intro w_ hw_
        obtain ⟨c0, c1, c2, cb⟩ := hw_
        first | (go_simp; done) | (go_simp; with_reducible rfl) | (go_simp; rw [if_neg (by first | omega | (simp; omega))]))
  try simp only [Act.put, List.setIfInBounds_toArray, List.set_cons_zero, List.set_cons_succ]
  try simp only [p0, p1, h0, h1, h2, h3, h4]
  first
   | (refine q_skip ?_ ?_
      · rfl)
   | (refine q_run ?_ ?_ ?_ ?_
      · kernel_rfl
      rotate_left
      · intro w_ hw_
        obtain ⟨c0, c1, c2, cb⟩ := hw_
        first | (go_simp; done) | (go_simp; with_reducible rfl) | (go_simp; rw [if_neg (by first | omega | (simp; omega))]))
  try simp only [Act.put, List.setIfInBounds_toArray, List.set_cons_zero, List.set_cons_succ]
  try simp only [p0, p1, h0, h1, h2, h3, h4]
  first
   | (refine q_skip ?_ ?_
      · rfl)
   | (refine q_run ?_ ?_ ?_ ?_
      · kernel_rfl
      rotate_left
      · intro w_ hw_
        obtain ⟨c0, c1, c2, cb⟩ := hw_
        first | (go_simp; done) | (go_simp; with_reducible rfl) | (go_simp; rw [if_neg (by first | omega | (simp; omega))]))
  try simp only [Act.put, List.setIfInBounds_toArray, List.set_cons_zero, List.set_cons_succ]
  try simp only [p0, p1, h0, h1, h2, h3, h4]
  refine q_run ?_ ?_ ?_ ?_
  · kernel_rfl
  rotate_left
  · intro w_ hw_
    obtain ⟨c0, c1, c2, cb⟩ := hw_
    first | (go_simp; done) | (go_simp; with_reducible rfl) | (go_simp; rw [if_neg (by first | omega | (simp; omega))])
  try simp only [Act.put, List.setIfInBounds_toArray, List.set_cons_zero, List.set_cons_succ]
  try simp only [p0, p1, h0, h1, h2, h3, h4]
  refine q_run ?_ ?_ ?_ ?_
  · kernel_rfl
  rotate_left
  · intro w_ hw_
    obtain ⟨c0, c1, c2, cb⟩ := hw_
    first | (go_simp; done) | (go_simp; with_reducible rfl) | (go_simp; rw [if_neg (by first | omega | (simp; omega))])
  try simp only [Act.put, List.setIfInBounds_toArray, List.set_cons_zero, List.set_cons_succ]
  try simp only [p0, p1, h0, h1, h2, h3, h4]
  first
   | (refine q_skip ?_ ?_
      · rfl)
   | (refine q_run ?_ ?_ ?_ ?_
      · kernel_rfl
      rotate_left
      · intro w_ hw_
        obtain ⟨c0, c1, c2, cb⟩ := hw_
        first | (go_simp; done) | (go_simp; with_reducible rfl) | (go_simp; rw [if_neg (by first | omega | (simp; omega))]))
  try simp only [Act.put, List.setIfInBounds_toArray, List.set_cons_zero, List.set_cons_succ]
  try simp only [p0, p1, h0, h1, h2, h3, h4]
  first
   | (refine q_skip ?_ ?_
      · rfl)
   | (refine q_run ?_ ?_ ?_ ?_
      · kernel_rfl
      rotate_left
      · intro w_ hw_
        obtain ⟨c0, c1, c2, cb⟩ := hw_
        first | (go_simp; done) | (go_simp; with_reducible rfl) | (go_simp; rw [if_neg (by first | omega | (simp; omega))]))
  try simp only [Act.put, List.setIfInBounds_toArray, List.set_cons_zero, List.set_cons_succ]
  try simp only [p0, p1, h0, h1, h2, h3, h4]
  first
   | (refine q_skip ?_ ?_
      · rfl)
   | (refine q_run ?_ ?_ ?_ ?_
      · kernel_rfl
      rotate_left
      · intro w_ hw_
        obtain ⟨c0, c1, c2, cb⟩ := hw_
        first | (go_simp; done) | (go_simp; with_reducible rfl) | (go_simp; rw [if_neg (by first | omega | (simp; omega))]))
  try simp only [Act.put, List.setIfInBounds_toArray, List.set_cons_zero, List.set_cons_succ]
  try simp only [p0, p1, h0, h1, h2, h3, h4]
  refine q_run ?_ ?_ ?_ ?_
  · kernel_rfl
  rotate_left
  · intro w_ hw_
    obtain ⟨c0, c1, c2, cb⟩ := hw_
    first | (go_simp; done) | (go_simp; with_reducible rfl) | (go_simp; rw [if_neg (by first | omega | (simp; omega))])
  try simp only [Act.put, List.setIfInBounds_toArray, List.set_cons_zero, List.set_cons_succ]
  try simp only [p0, p1, h0, h1, h2, h3, h4]
  refine q_run ?_ ?_ ?_ ?_
  · kernel_rfl
  rotate_left
  · intro w_ hw_
    obtain ⟨c0, c1, c2, cb⟩ := hw_
    first | (go_simp; done) | (go_simp; with_reducible rfl) | (go_simp; rw [if_neg (by first | omega | (simp; omega))])
  try simp only [Act.put, List.setIfInBounds_toArray, List.set_cons_zero, List.set_cons_succ]
  try simp only [p0, p1, h0, h1, h2, h3, h4]
  first
   | (refine q_skip ?_ ?_
      · rfl)
   | (refine q_run ?_ ?_ ?_ ?_
      · kernel_rfl
      rotate_left
      · intro w_ hw_
        obtain ⟨c0, c1, c2, cb⟩ := hw_
        first | (go_simp; done) | (go_simp; with_reducible rfl) | (go_simp; rw [if_neg (by first | omega | (simp; omega))]))
  try simp only [Act.put, List.setIfInBounds_toArray, List.set_cons_zero, List.set_cons_succ]
  try simp only [p0, p1, h0, h1, h2, h3, h4]
  first
   | (refine q_skip ?_ ?_
      · rfl)
   | (refine q_run ?_ ?_ ?_ ?_
      · kernel_rfl
      rotate_left
      · intro w_ hw_
        obtain ⟨c0, c1, c2, cb⟩ := hw_
        first | (go_simp; done) | (go_simp; with_reducible rfl) | (go_simp; rw [if_neg (by first | omega | (simp; omega))]))
  try simp only [Act.put, List.setIfInBounds_toArray, List.set_cons_zero, List.set_cons_succ]
  try simp only [p0, p1, h0, h1, h2, h3, h4]
  first
   | (refine q_skip ?_ ?_
      · rfl)
   | (refine q_run ?_ ?_ ?_ ?_
      · kernel_rfl
      rotate_left
      · intro w_ hw_
        obtain ⟨c0, c1, c2, cb⟩ := hw_
        first | (go_simp; done) | (go_simp; with_reducible rfl) | (go_simp; rw [if_neg (by first | omega | (simp; omega))]))
  try simp only [Act.put, List.setIfInBounds_toArray, List.set_cons_zero, List.set_cons_succ]
  try simp only [p0, p1, h0, h1, h2, h3, h4]
  refine q_run ?_ ?_ ?_ ?_
  · kernel_rfl
  rotate_left
  · intro w_ hw_
    obtain ⟨c0, c1, c2, cb⟩ := hw_
    first | (go_simp; done) | (go_simp; with_reducible rfl) | (go_simp; rw [if_neg (by first | omega | (simp; omega))])
  try simp only [Act.put, List.setIfInBounds_toArray, List.set_cons_zero, List.set_cons_succ]
  try simp only [p0, p1, h0, h1, h2, h3, h4]
  refine q_run ?_ ?_ ?_ ?_
  · kernel_rfl
  rotate_left
  · intro w_ hw_
    obtain ⟨c0, c1, c2, cb⟩ := hw_
    first | (go_simp; done) | (go_simp; with_reducible rfl) | (go_simp; rw [if_neg (by first | omega | (simp; omega))])
  try simp only [Act.put, List.setIfInBounds_toArray, List.set_cons_zero, List.set_cons_succ]
  try simp only [p0, p1, h0, h1, h2, h3, h4]
  refine q_nil ?_
  intro W_ hC_
  go_wp2
  go_ret
  exact ⟨rfl, hC_.2.2.2⟩
set_option maxHeartbeats 4000000 in
theorem rfits_g1k5 (code a b c : Int) (h : Rp.none3 a b c = false) (p0 : (a == 2) = false) (p1 : (a == 4) = true) (h0 : ((a : Int) == Rp.cls code) = true) (h1 : decide (0 ≤ b) = true) (h2 : decide (b < 1000) = true) (h3 : decide (0 ≤ c) = true) (h4 : decide (c < 1000) = true) (w : World) : Calls Tryd.prog 37 #[.int .i64 code, .agg #[.int .i64 a, .int .i64 b, .int .i64 c]] w fun e w' => e = .returned (.bool true) ∧ Below w.heap.size w w' := by
  have M : Aside (Mine w [(w.heap.size, #[.int .i64 a, .int .i64 b, .int .i64 c], 23)] (w.alloc (.cells #[.int .i64 a, .int .i64 b, .int .i64 c] 23))) := ⟨(Mine.start w).alloc _ _⟩
  go_enter Tryd.func37, Tryd.ntmps37
  go_wp2_with (go_at_call 52; (with_reducible refine (rnone_any a b c _).mono ?_); rintro e w1 ⟨rfl, hb⟩; rw [h]; replace M := Aside.mk (M.out.next hb); clear hb; have z0 := Mine.at M.out 0 _ rfl; have z1 := Mine.at M.out 1 _ rfl; have z2 := Mine.at M.out 2 _ rfl; have zl := Mine.lt M.out)
  refine region_class (C := (fun w' => w'.cell? ⟨w.heap.size, 0, none⟩ = some (.int .i64 a) ∧ w'.cell? ⟨w.heap.size, 1, none⟩ = some (.int .i64 b) ∧ w'.cell? ⟨w.heap.size, 2, none⟩ = some (.int .i64 c) ∧ Below w.heap.size w w')) (by kernel_rfl) (by kernel_rfl) ⟨(M.out.drewN 1).at 0 _ rfl, (M.out.drewN 1).at 1 _ rfl, (M.out.drewN 1).at 2 _ rfl, (M.out.drewN 1).low⟩ ?_
  refine q_run ?_ ?_ ?_ ?_
  · kernel_rfl
  rotate_left
  · intro w_ hw_
    obtain ⟨c0, c1, c2, cb⟩ := hw_
    first | (go_simp; done) | (go_simp; with_reducible rfl) | (go_simp; rw [if_neg (by first | omega | (simp; omega))])
  try simp only [Act.put, List.setIfInBounds_toArray, List.set_cons_zero, List.set_cons_succ]
  try simp only [p0, p1, h0, h1, h2, h3, h4]
  refine q_run ?_ ?_ ?_ ?_
  · kernel_rfl
  rotate_left
  · intro w_ hw_
    obtain ⟨c0, c1, c2, cb⟩ := hw_
    first | (go_simp; done) | (go_simp; with_reducible rfl) | (go_simp; rw [if_neg (by first | omega | (simp; omega))])
  try simp only [Act.put, List.setIfInBounds_toArray, List.set_cons_zero, List.set_cons_succ]
  try simp only [p0, p1, h0, h1, h2, h3, h4]
  refine q_run ?_ ?_ ?_ ?_
  · kernel_rfl
  rotate_left
  · intro w_ hw_
    obtain ⟨c0, c1, c2, cb⟩ := hw_
    first | (go_simp; done) | (go_simp; with_reducible rfl) | (go_simp; rw [if_neg (by first | omega | (simp; omega))])
  try simp only [Act.put, List.setIfInBounds_toArray, List.set_cons_zero, List.set_cons_succ]
  try simp only [p0, p1, h0, h1, h2, h3, h4]
  refine q_run ?_ ?_ ?_ ?_
  · kernel_rfl
  rotate_left
  · intro w_ hw_
    obtain ⟨c0, c1, c2, cb⟩ := hw_
    first | (go_simp; done) | (go_simp; with_reducible rfl) | (go_simp; rw [if_neg (by first | omega | (simp; omega))])
  try simp only [Act.put, List.setIfInBounds_toArray, List.set_cons_zero, List.set_cons_succ]
  try simp only [p0, p1, h0, h1, h2, h3, h4]
  first
   | (refine q_skip ?_ ?_
      · rfl)
   | (refine q_run ?_ ?_ ?_ ?_
      · kernel_rfl
      rotate_left
      · intro w_ hw_
        obtain ⟨c0, c1, c2, cb⟩ := hw_
        first | (go_simp; done) | (go_simp; with_reducible rfl) | (go_simp; rw [if_neg (by first | omega | (simp; omega))]))
  try simp only [Act.put, List.setIfInBounds_toArray, List.set_cons_zero, List.set_cons_succ]
  try simp only [p0, p1, h0, h1, h2, h3, h4]
  first
   | (refine q_skip ?_ ?_
      · rfl)
   | (refine q_run ?_ ?_ ?_ ?_
      · kernel_rfl
      rotate_left
      · intro w_ hw_
        obtain ⟨c0, c1, c2, cb⟩ := hw_
        first | (go_simp; done) | (go_simp; with_reducible rfl) | (go_simp; rw [if_neg (by first | omega | (simp; omega))]))
  try simp only [Act.put, List.setIfInBounds_toArray, List.set_cons_zero, List.set_cons_succ]
  try simp only [p0, p1, h0, h1, h2, h3, h4]
  first
   | (refine q_skip ?_ ?_
      · rfl)
   | (refine q_run ?_ ?_ ?_ ?_
      · kernel_rfl
      rotate_left
      · intro w_ hw_
        obtain ⟨c0, c1, c2, cb⟩ := hw_
        first | (go_simp; done) | (go_simp; with_reducible rfl) | (go_simp; rw [if_neg (by first | omega | (simp; omega))]))
  try simp only [Act.put, List.setIfInBounds_toArray, List.set_cons_zero, List.set_cons_succ]
  try simp only [p0, p1, h0, h1, h2, h3, h4]
  refine q_run ?_ ?_ ?_ ?_
  · kernel_rfl
  rotate_left
  · intro w_ hw_
    obtain ⟨c0, c1, c2, cb⟩ := hw_
    first | (go_simp; done) | (go_simp; with_reducible rfl) | (go_simp; rw [if_neg (by first | omega | (simp; omega))])
  try simp only [Act.put, List.setIfInBounds_toArray, List.set_cons_zero, List.set_cons_succ]
  try simp only [p0, p1, h0, h1, h2, h3, h4]
  refine q_run ?_ ?_ ?_ ?_
  · kernel_rfl
  rotate_left
  · intro w_ hw_
    obtain ⟨c0, c1, c2, cb⟩ := hw_
    first | (go_simp; done) | (go_simp; with_reducible rfl) | (go_simp; rw [if_neg (by first | omega | (simp; omega))])
  try simp only [Act.put, List.setIfInBounds_toArray, List.set_cons_zero, List.set_cons_succ]
  try simp only [p0, p1, h0, h1, h2, h3, h4]
  first
   | (refine q_skip ?_ ?_
      · rfl)
   | (refine q_run ?_ ?_ ?_ ?_
      · kernel_rfl
      rotate_left
      · intro w_ hw_
        obtain ⟨c0, c1, c2, cb⟩ := hw_
        first | (go_simp; done) | (go_simp; with_reducible rfl) | (go_simp; rw [if_neg (by first | omega | (simp; omega))]))
  try simp only [Act.put, List.setIfInBounds_toArray, List.set_cons_zero, List.set_cons_succ]
  try simp only [p0, p1, h0, h1, h2, h3, h4]
  first
   | (refine q_skip ?_ ?_
      · rfl)
   | (refine q_run ?_ ?_ ?_ ?_
      · kernel_rfl
      rotate_left
      · intro w_ hw_
        obtain ⟨c0, c1, c2, cb⟩ := hw_
        first | (go_simp; done) | (go_simp; with_reducible rfl) | (go_simp; rw [if_neg (by first | omega | (simp; omega))]))
  try simp only [Act.put, List.setIfInBounds_toArray, List.set_cons_zero, List.set_cons_succ]
  try simp only [p0, p1, h0, h1, h2, h3, h4]
  first
   | (refine q_skip ?_ ?_
      · rfl)
   | (refine q_run ?_ ?_ ?_ ?_
      · kernel_rfl
      rotate_left
      · intro w_ hw_
        obtain ⟨c0, c1, c2, cb⟩ := hw_
        first | (go_simp; done) | (go_simp; with_reducible rfl) | (go_simp; rw [if_neg (by first | omega | (simp; omega))]))
  try simp only [Act.put, List.setIfInBounds_toArray, List.set_cons_zero, List.set_cons_succ]
  try simp only [p0, p1, h0, h1, h2, h3, h4]
  refine q_run ?_ ?_ ?_ ?_
  · kernel_rfl
  rotate_left
  · intro w_ hw_
    obtain ⟨c0, c1, c2, cb⟩ := hw_
    first | (go_simp; done) | (go_simp; with_reducible rfl) | (go_simp; rw [if_neg (by first | omega | (simp; omega))])
  try simp only [Act.put, List.setIfInBounds_toArray, List.set_cons_zero, List.set_cons_succ]
  try simp only [p0, p1, h0, h1, h2, h3, h4]
  refine q_run ?_ ?_ ?_ ?_
  · kernel_rfl
  rotate_left
  · intro w_ hw_
    obtain ⟨c0, c1, c2, cb⟩ := hw_
    first | (go_simp; done) | (go_simp; with_reducible rfl) | (go_simp; rw [if_neg (by first | omega | (simp; omega))])
  try simp only [Act.put, List.setIfInBounds_toArray, List.set_cons_zero, List.set_cons_succ]
  try simp only [p0, p1, h0, h1, h2, h3, h4]
  first
   | (refine q_skip ?_ ?_
      · rfl)
   | (refine q_run ?_ ?_ ?_ ?_
      · kernel_rfl
      rotate_left
      · intro w_ hw_
        obtain ⟨c0, c1, c2, cb⟩ := hw_
        first | (go_simp; done) | (go_simp; with_reducible rfl) | (go_simp; rw [if_neg (by first | omega | (simp; omega))]))
  try simp only [Act.put, List.setIfInBounds_toArray, List.set_cons_zero, List.set_cons_succ]
  try simp only [p0, p1, h0, h1, h2, h3, h4]
  first
   | (refine q_skip ?_ ?_
      · rfl)
   | (refine q_run ?_ ?_ ?_ ?_
      · kernel_rfl
      rotate_left
      · intro w_ hw_
        obtain ⟨c0, c1, c2, cb⟩ := hw_
        first | (go_simp; done) | (go_simp; with_reducible rfl) | (go_simp; rw [if_neg (by first | omega | (simp; omega))]))
  try simp only [Act.put, List.setIfInBounds_toArray, List.set_cons_zero, List.set_cons_succ]
  try simp only [p0, p1, h0, h1, h2, h3, h4]
  first
   | (refine q_skip ?_ ?_
      · rfl)
   | (refine q_run ?_ ?_ ?_ ?_
      · kernel_rfl
      rotate_left
      · intro w_ hw_
        obtain ⟨c0, c1, c2, cb⟩ := hw_
        first | (go_simp; done) | (go_simp; with_reducible rfl) | (go_simp; rw [if_neg (by first | omega | (simp; omega))]))
  try simp only [Act.put, List.setIfInBounds_toArray, List.set_cons_zero, List.set_cons_succ]
  try simp only [p0, p1, h0, h1, h2, h3, h4]
  first
   | (refine q_skip ?_ ?_
      · rfl)
   | (refine q_call ?_ (.int .i64 (Rp.cls code)) ?_ ?_ ?_ ?_ ?_
      · kernel_rfl
      rotate_left 2
      · intro w_ hw_
        go_simp
        refine ⟨?_, ?_⟩ <;> with_reducible rfl
      · intro w_ hw_
        obtain ⟨c0, c1, c2, cb⟩ := hw_
        exact ((rclass_any _ _).mono fun _ _ ⟨h1, h2⟩ => ⟨h1, h2 ▸ ⟨c0, c1, c2, cb⟩⟩))
  try simp only [Act.put, List.setIfInBounds_toArray, List.set_cons_zero, List.set_cons_succ]
  try simp only [p0, p1, h0, h1, h2, h3, h4]
  first
   | (refine q_skip ?_ ?_
      · rfl)
   | (refine q_run ?_ ?_ ?_ ?_
      · kernel_rfl
      rotate_left
      · intro w_ hw_
        obtain ⟨c0, c1, c2, cb⟩ := hw_
        first | (go_simp; done) | (go_simp; with_reducible rfl) | (go_simp; rw [if_neg (by first | omega | (simp; omega))]))
  try simp only [Act.put, List.setIfInBounds_toArray, List.set_cons_zero, List.set_cons_succ]
  try simp only [p0, p1, h0, h1, h2, h3, h4]
  refine q_run ?_ ?_ ?_ ?_
  · kernel_rfl
  rotate_left
  · intro w_ hw_
    obtain ⟨c0, c1, c2, cb⟩ := hw_
    first | (go_simp; done) | (go_simp; with_reducible rfl) | (go_simp; rw [if_neg (by first | omega | (simp; omega))])
  try simp only [Act.put, List.setIfInBounds_toArray, List.set_cons_zero, List.set_cons_succ]
  try simp only [p0, p1, h0, h1, h2, h3, h4]
  refine q_run ?_ ?_ ?_ ?_
  · kernel_rfl
  rotate_left
  · intro w_ hw_
    obtain ⟨c0, c1, c2, cb⟩ := hw_
    first | (go_simp; done) | (go_simp; with_reducible rfl) | (go_simp; rw [if_neg (by first | omega | (simp; omega))])
  try simp only [Act.put, List.setIfInBounds_toArray, List.set_cons_zero, List.set_cons_succ]
  try simp only [p0, p1, h0, h1, h2, h3, h4]
  first
   | (refine q_skip ?_ ?_
      · rfl)
   | (refine q_run ?_ ?_ ?_ ?_
      · kernel_rfl
      rotate_left
      · intro w_ hw_
        obtain ⟨c0, c1, c2, cb⟩ := hw_
        first | (go_simp; done) | (go_simp; with_reducible rfl) | (go_simp; rw [if_neg (by first | omega | (simp; omega))]))
  try simp only [Act.put, List.setIfInBounds_toArray, List.set_cons_zero, List.set_cons_succ]
  try simp only [p0, p1, h0, h1, h2, h3, h4]
  first
   | (refine q_skip ?_ ?_
      · rfl)
   | (refine q_run ?_ ?_ ?_ ?_
      · kernel_rfl
      rotate_left
      · intro w_ hw_
        obtain ⟨c0, c1, c2, cb⟩ := hw_
        first | (go_simp; done) | (go_simp; with_reducible rfl) | (go_simp; rw [if_neg (by first | omega | (simp; omega))]))
  try simp only [Act.put, List.setIfInBounds_toArray, List.set_cons_zero, List.set_cons_succ]
  try simp only [p0, p1, h0, h1, h2, h3, h4]
  first
   | (refine q_skip ?_ ?_
      · rfl)
   | (refine q_run ?_ ?_ ?_ ?_
      · kernel_rfl
      rotate_left
      · intro w_ hw_
        obtain ⟨c0, c1, c2, cb⟩ := hw_
        first | (go_simp; done) | (go_simp; with_reducible rfl) | (go_simp; rw [if_neg (by first | omega | (simp; omega))]))
  try simp only [Act.put, List.setIfInBounds_toArray, List.set_cons_zero, List.set_cons_succ]
  try simp only [p0, p1, h0, h1, h2, h3, h4]
  refine q_run ?_ ?_ ?_ ?_
  · kernel_rfl
  rotate_left
  · intro w_ hw_
    obtain ⟨c0, c1, c2, cb⟩ := hw_
    first | (go_simp; done) | (go_simp; with_reducible rfl) | (go_simp; rw [if_neg (by first | omega | (simp; omega))])
  try simp only [Act.put, List.setIfInBounds_toArray, List.set_cons_zero, List.set_cons_succ]
  try simp only [p0, p1, h0, h1, h2, h3, h4]
  refine q_run ?_ ?_ ?_ ?_
  · kernel_rfl
  rotate_left
  · intro w_ hw_
    obtain ⟨c0, c1, c2, cb⟩ := hw_
    first | (go_simp; done) | (go_simp; with_reducible rfl) | (go_simp; rw [if_neg (by first | omega | (simp; omega))])
  try simp only [Act.put, List.setIfInBounds_toArray, List.set_cons_zero, List.set_cons_succ]
  try simp only [p0, p1, h0, h1, h2, h3, h4]
  first
   | (refine q_skip ?_ ?_
      · rfl)
   | (refine q_run ?_ ?_ ?_ ?_
      · kernel_rfl
      rotate_left
      · intro w_ hw_
        obtain ⟨c0, c1, c2, cb⟩ := hw_
        first | (go_simp; done) | (go_simp; with_reducible rfl) | (go_simp; rw [if_neg (by first | omega | (simp; omega))]))
  try simp only [Act.put, List.setIfInBounds_toArray, List.set_cons_zero, List.set_cons_succ]
  try simp only [p0, p1, h0, h1, h2, h3, h4]
  first
   | (refine q_skip ?_ ?_
      · rfl)
   | (refine q_run ?_ ?_ ?_ ?_
      · kernel_rfl
      rotate_left
      · intro w_ hw_
        obtain ⟨c0, c1, c2, cb⟩ := hw_
        first | (go_simp; done) | (go_simp; with_reducible rfl) | (go_simp; rw [if_neg (by first | omega | (simp; omega))]))
  try simp only [Act.put, List.setIfInBounds_toArray, List.set_cons_zero, List.set_cons_succ]
  try simp only [p0, p1, h0, h1, h2, h3, h4]
  first
   | (refine q_skip ?_ ?_
      · rfl)
   | (refine q_run ?_ ?_ ?_ ?_
      · kernel_rfl
      rotate_left
      · intro w_ hw_
        obtain ⟨c0, c1, c2, cb⟩ := hw_
        first | (go_simp; done) | (go_simp; with_reducible rfl) | (go_simp; rw [if_neg (by first | omega | (simp; omega))]))
  try simp only [Act.put, List.setIfInBounds_toArray, List.set_cons_zero, List.set_cons_succ]
  try simp only [p0, p1, h0, h1, h2, h3, h4]
  refine q_run ?_ ?_ ?_ ?_
  · kernel_rfl
  rotate_left
  · intro w_ hw_
    obtain ⟨c0, c1, c2, cb⟩ := hw_
    first | (go_simp; done) | (go_simp; with_reducible rfl) | (go_simp; rw [if_neg (by first | omega | (simp; omega))])
  try simp only [Act.put, List.setIfInBounds_toArray, List.set_cons_zero, List.set_cons_succ]
  try simp only [p0, p1, h0, h1, h2, h3, h4]
  refine q_run ?_ ?_ ?_ ?_
  · kernel_rfl
  rotate_left
  · intro w_ hw_
    obtain ⟨c0, c1, c2, cb⟩ := hw_
    first | (go_simp; done) | (go_simp; with_reducible rfl) | (go_simp; rw [if_neg (by first | omega | (simp; omega))])
  try simp only [Act.put, List.setIfInBounds_toArray, List.set_cons_zero, List.set_cons_succ]
  try simp only [p0, p1, h0, h1, h2, h3, h4]
  first
   | (refine q_skip ?_ ?_
      · rfl)
   | (refine q_run ?_ ?_ ?_ ?_
      · kernel_rfl
      rotate_left
      · intro w_ hw_
        obtain ⟨c0, c1, c2, cb⟩ := hw_
        first | (go_simp; done) | (go_simp; with_reducible rfl) | (go_simp; rw [if_neg (by first | omega | (simp; omega))]))
  try simp only [Act.put, List.setIfInBounds_toArray, List.set_cons_zero, List.set_cons_succ]
  try simp only [p0, p1, h0, h1, h2, h3, h4]
  first
   | (refine q_skip ?_ ?_
      · rfl)
   | (refine q_run ?_ ?_ ?_ ?_
      · kernel_rfl
      rotate_left
      · intro w_ hw_
        obtain ⟨c0, c1, c2, cb⟩ := hw_
        first | (go_simp; done) | (go_simp; with_reducible rfl) | (go_simp; rw [if_neg (by first | omega | (simp; omega))]))
  try simp only [Act.put, List.setIfInBounds_toArray, List.set_cons_zero, List.set_cons_succ]
  try simp only [p0, p1, h0, h1, h2, h3, h4]
  first
   | (refine q_skip ?_ ?_
      · rfl)
   | (refine q_run ?_ ?_ ?_ ?_
      · kernel_rfl
      rotate_left
      · intro w_ hw_
        obtain ⟨c0, c1, c2, cb⟩ := hw_
        first | (go_simp; done) | (go_simp; with_reducible rfl) | (go_simp; rw [if_neg (by first | omega | (simp; omega))]))
  try simp only [Act.put, List.setIfInBounds_toArray, List.set_cons_zero, List.set_cons_succ]
  try simp only [p0, p1, h0, h1, h2, h3, h4]
  refine q_run ?_ ?_ ?_ ?_
  · kernel_rfl
  rotate_left
  · intro w_ hw_
    obtain ⟨c0, c1, c2, cb⟩ := hw_
    first | (go_simp; done) | (go_simp; with_reducible rfl) | (go_simp; rw [if_neg (by first | omega | (simp; omega))])
  try simp only [Act.put, List.setIfInBounds_toArray, List.set_cons_zero, List.set_cons_succ]
  try simp only [p0, p1, h0, h1, h2, h3, h4]
  refine q_run ?_ ?_ ?_ ?_
  · kernel_rfl
  rotate_left
  · intro w_ hw_
    obtain ⟨c0, c1, c2, cb⟩ := hw_
    first | (go_simp; done) | (go_simp; with_reducible rfl) | (go_simp; rw [if_neg (by first | omega | (simp; omega))])
  try simp only [Act.put, List.setIfInBounds_toArray, List.set_cons_zero, List.set_cons_succ]
  try simp only [p0, p1, h0, h1, h2, h3, h4]
  first
   | (refine q_skip ?_ ?_
      · rfl)
   | (refine q_run ?_ ?_ ?_ ?_
      · kernel_rfl
      rotate_left
      · intro w_ hw_
        obtain ⟨c0, c1, c2, cb⟩ := hw_
        first | (go_simp; done) | (go_simp; with_reducible rfl) | (go_simp; rw [if_neg (by first | omega | (simp; omega))]))
  try simp only [Act.put, List.setIfInBounds_toArray, List.set_cons_zero, List.set_cons_succ]
  try simp only [p0, p1, h0, h1, h2, h3, h4]
  first
   | (refine q_skip ?_ ?_
      · rfl)
   | (refine q_run ?_ ?_ ?_ ?_
      · kernel_rfl
      rotate_left
      · intro w_ hw_
        obtain ⟨c0, c1, c2, cb⟩ := hw_
        first | (go_simp; done) | (go_simp; with_reducible rfl) | (go_simp; rw [if_neg (by first | omega | (simp; omega))]))
  try simp only [Act.put, List.setIfInBounds_toArray, List.set_cons_zero, List.set_cons_succ]
  try simp only [p0, p1, h0, h1, h2, h3, h4]
  first
   | (refine q_skip ?_ ?_
      · rfl)
   | (refine q_run ?_ ?_ ?_ ?_
      · kernel_rfl
      rotate_left
      · intro w_ hw_
        obtain ⟨c0, c1, c2, cb⟩ := hw_
        first | (go_simp; done) | (go_simp; with_reducible rfl) | (go_simp; rw [if_neg (by first | omega | (simp; omega))]))
  try simp only [Act.put, List.setIfInBounds_toArray, List.set_cons_zero, List.set_cons_succ]
  try simp only [p0, p1, h0, h1, h2, h3, h4]
  refine q_run ?_ ?_ ?_ ?_
  · kernel_rfl
  rotate_left
  · intro w_ hw_
    obtain ⟨c0, c1, c2, cb⟩ := hw_
    first | (go_simp; done) | (go_simp; with_reducible rfl) | (go_simp; rw [if_neg (by first | omega | (simp; omega))])
  try simp only [Act.put, List.setIfInBounds_toArray, List.set_cons_zero, List.set_cons_succ]
  try simp only [p0, p1, h0, h1, h2, h3, h4]
  refine q_run ?_ ?_ ?_ ?_
  · kernel_rfl
  rotate_left
  · intro w_ hw_
    obtain ⟨c0, c1, c2, cb⟩ := hw_
    first | (go_simp; done) | (go_simp; with_reducible rfl) | (go_simp; rw [if_neg (by first | omega | (simp; omega))])
  try simp only [Act.put, List.setIfInBounds_toArray, List.set_cons_zero, List.set_cons_succ]
  try simp only [p0, p1, h0, h1, h2, h3, h4]
  refine q_nil ?_
  intro W_ hC_
  go_wp2
  go_ret
  exact ⟨rfl, hC_.2.2.2⟩
set_option maxHeartbeats 4000000 in
theorem rfits_g2k0 (code a b c : Int) (h : Rp.none3 a b c = false) (p0 : (a == 2) = false) (p1 : (a == 4) = false) (p2 : (a == 5) = true) (h0 : ((a : Int) == Rp.cls code) = false) (w : World) : Calls Tryd.prog 37 #[.int .i64 code, .agg #[.int .i64 a, .int .i64 b, .int .i64 c]] w fun e w' => e = .returned (.bool false) ∧ Below w.heap.size w w' := by
  have M : Aside (Mine w [(w.heap.size, #[.int .i64 a, .int .i64 b, .int .i64 c], 23)] (w.alloc (.cells #[.int .i64 a, .int .i64 b, .int .i64 c] 23))) := ⟨(Mine.start w).alloc _ _⟩
  go_enter Tryd.func37, Tryd.ntmps37
  go_wp2_with (go_at_call 52; (with_reducible refine (rnone_any a b c _).mono ?_); rintro e w1 ⟨rfl, hb⟩; rw [h]; replace M := Aside.mk (M.out.next hb); clear hb; have z0 := Mine.at M.out 0 _ rfl; have z1 := Mine.at M.out 1 _ rfl; have z2 := Mine.at M.out 2 _ rfl; have zl := Mine.lt M.out)
  refine region_class (C := (fun w' => w'.cell? ⟨w.heap.size, 0, none⟩ = some (.int .i64 a) ∧ w'.cell? ⟨w.heap.size, 1, none⟩ = some (.int .i64 b) ∧ w'.cell? ⟨w.heap.size, 2, none⟩ = some (.int .i64 c) ∧ Below w.heap.size w w')) (by kernel_rfl) (by kernel_rfl) ⟨(M.out.drewN 1).at 0 _ rfl, (M.out.drewN 1).at 1 _ rfl, (M.out.drewN 1).at 2 _ rfl, (M.out.drewN 1).low⟩ ?_
  refine q_run ?_ ?_ ?_ ?_
  · kernel_rfl
  rotate_left
  · intro w_ hw_
    obtain ⟨c0, c1, c2, cb⟩ := hw_
    first | (go_simp; done) | (go_simp; with_reducible rfl) | (go_simp; rw [if_neg (by first | omega | (simp; omega))])
  try simp only [Act.put, List.setIfInBounds_toArray, List.set_cons_zero, List.set_cons_succ]
  try simp only [p0, p1, p2, h0]
  refine q_run ?_ ?_ ?_ ?_
  · kernel_rfl
  rotate_left
  · intro w_ hw_
    obtain ⟨c0, c1, c2, cb⟩ := hw_
    first | (go_simp; done) | (go_simp; with_reducible rfl) | (go_simp; rw [if_neg (by first | omega | (simp; omega))])
  try simp only [Act.put, List.setIfInBounds_toArray, List.set_cons_zero, List.set_cons_succ]
  try simp only [p0, p1, p2, h0]
  refine q_run ?_ ?_ ?_ ?_
  · kernel_rfl
  rotate_left
  · intro w_ hw_
    obtain ⟨c0, c1, c2, cb⟩ := hw_
    first | (go_simp; done) | (go_simp; with_reducible rfl) | (go_simp; rw [if_neg (by first | omega | (simp; omega))])
  try simp only [Act.put, List.setIfInBounds_toArray, List.set_cons_zero, List.set_cons_succ]
  try simp only [p0, p1, p2, h0]
  refine q_run ?_ ?_ ?_ ?_
  · kernel_rfl
  rotate_left
  · intro w_ hw_
    obtain ⟨c0, c1, c2, cb⟩ := hw_
    first | (go_simp; done) | (go_simp; with_reducible rfl) | (go_simp; rw [if_neg (by first | omega | (simp; omega))])
  try simp only [Act.put, List.setIfInBounds_toArray, List.set_cons_zero, List.set_cons_succ]
  try simp only [p0, p1, p2, h0]
  first
   | (refine q_skip ?_ ?_
      · rfl)
   | (refine q_run ?_ ?_ ?_ ?_
      · kernel_rfl
      rotate_left
      · intro w_ hw_
        obtain ⟨c0, c1, c2, cb⟩ := hw_
        first | (go_simp; done) | (go_simp; with_reducible rfl) | (go_simp; rw [if_neg (by first | omega | (simp; omega))]))
  try simp only [Act.put, List.setIfInBounds_toArray, List.set_cons_zero, List.set_cons_succ]
  try simp only [p0, p1, p2, h0]
  first
   | (refine q_skip ?_ ?_
      · rfl)
   | (refine q_run ?_ ?_ ?_ ?_
      · kernel_rfl
      rotate_left
      · intro w_ hw_
        obtain ⟨c0, c1, c2, cb⟩ := hw_
        first | (go_simp; done) | (go_simp; with_reducible rfl) | (go_simp; rw [if_neg (by first | omega | (simp; omega))]))
  try simp only [Act.put, List.setIfInBounds_toArray, List.set_cons_zero, List.set_cons_succ]
  try simp only [p0, p1, p2, h0]
  first
   | (refine q_skip ?_ ?_
      · rfl)
   | (refine q_run ?_ ?_ ?_ ?_
      · kernel_rfl
      rotate_left
      · intro w_ hw_
        obtain ⟨c0, c1, c2, cb⟩ := hw_
        first | (go_simp; done) | (go_simp; with_reducible rfl) | (go_simp; rw [if_neg (by first | omega | (simp; omega))]))
  try simp only [Act.put, List.setIfInBounds_toArray, List.set_cons_zero, List.set_cons_succ]
  try simp only [p0, p1, p2, h0]
  refine q_run ?_ ?_ ?_ ?_
  · kernel_rfl
  rotate_left
  · intro w_ hw_
    obtain ⟨c0, c1, c2, cb⟩ := hw_
    first | (go_simp; done) | (go_simp; with_reducible rfl) | (go_simp; rw [if_neg (by first | omega | (simp; omega))])
  try simp only [Act.put, List.setIfInBounds_toArray, List.set_cons_zero, List.set_cons_succ]
  try simp only [p0, p1, p2, h0]
  refine q_run ?_ ?_ ?_ ?_
  · kernel_rfl
  rotate_left
  · intro w_ hw_
    obtain ⟨c0, c1, c2, cb⟩ := hw_
    first | (go_simp; done) | (go_simp; with_reducible rfl) | (go_simp; rw [if_neg (by first | omega | (simp; omega))])
  try simp only [Act.put, List.setIfInBounds_toArray, List.set_cons_zero, List.set_cons_succ]
  try simp only [p0, p1, p2, h0]
  first
   | (refine q_skip ?_ ?_
      · rfl)
   | (refine q_run ?_ ?_ ?_ ?_
      · kernel_rfl
      rotate_left
      · intro w_ hw_
        obtain ⟨c0, c1, c2, cb⟩ := hw_
        first | (go_simp; done) | (go_simp; with_reducible rfl) | (go_simp; rw [if_neg (by first | omega | (simp; omega))]))
  try simp only [Act.put, List.setIfInBounds_toArray, List.set_cons_zero, List.set_cons_succ]
  try simp only [p0, p1, p2, h0]
  first
   | (refine q_skip ?_ ?_
      · rfl)
   | (refine q_run ?_ ?_ ?_ ?_
      · kernel_rfl
      rotate_left
      · intro w_ hw_
        obtain ⟨c0, c1, c2, cb⟩ := hw_
        first | (go_simp; done) | (go_simp; with_reducible rfl) | (go_simp; rw [if_neg (by first | omega | (simp; omega))]))
  try simp only [Act.put, List.setIfInBounds_toArray, List.set_cons_zero, List.set_cons_succ]
  try simp only [p0, p1, p2, h0]
  first
   | (refine q_skip ?_ ?_
      · rfl)
   | (refine q_run ?_ ?_ ?_ ?_
      · kernel_rfl
      rotate_left
      · intro w_ hw_
        obtain ⟨c0, c1, c2, cb⟩ := hw_
        first | (go_simp; done) | (go_simp; with_reducible rfl) | (go_simp; rw [if_neg (by first | omega | (simp; omega))]))
  try simp only [Act.put, List.setIfInBounds_toArray, List.set_cons_zero, List.set_cons_succ]
  try simp only [p0, p1, p2, h0]
  refine q_run ?_ ?_ ?_ ?_
  · kernel_rfl
  rotate_left
  · intro w_ hw_
    obtain ⟨c0, c1, c2, cb⟩ := hw_
    first | (go_simp; done) | (go_simp; with_reducible rfl) | (go_simp; rw [if_neg (by first | omega | (simp; omega))])
  try simp only [Act.put, List.setIfInBounds_toArray, List.set_cons_zero, List.set_cons_succ]
  try simp only [p0, p1, p2, h0]
  refine q_run ?_ ?_ ?_ ?_
  · kernel_rfl
  rotate_left
  · intro w_ hw_
    obtain ⟨c0, c1, c2, cb⟩ := hw_
    first | (go_simp; done) | (go_simp; with_reducible rfl) | (go_simp; rw [if_neg (by first | omega | (simp; omega))])
  try simp only [Act.put, List.setIfInBounds_toArray, List.set_cons_zero, List.set_cons_succ]
  try simp only [p0, p1, p2, h0]
  first
   | (refine q_skip ?_ ?_
      · rfl)
   | (refine q_run ?_ ?_ ?_ ?_
      · kernel_rfl
      rotate_left
      · intro w_ hw_
        obtain ⟨c0, c1, c2, cb⟩ := hw_
        first | (go_simp; done) | (go_simp; with_reducible rfl) | (go_simp; rw [if_neg (by first | omega | (simp; omega))]))
  try simp only [Act.put, List.setIfInBounds_toArray, List.set_cons_zero, List.set_cons_succ]
  try simp only [p0, p1, p2, h0]
  first
   | (refine q_skip ?_ ?_
      · rfl)
   | (refine q_run ?_ ?_ ?_ ?_
      · kernel_rfl
      rotate_left
      · intro w_ hw_
        obtain ⟨c0, c1, c2, cb⟩ := hw_
        first | (go_simp; done) | (go_simp; with_reducible rfl) | (go_simp; rw [if_neg (by first | omega | (simp; omega))]))
  try simp only [Act.put, List.setIfInBounds_toArray, List.set_cons_zero, List.set_cons_succ]
  try simp only [p0, p1, p2, h0]
  first
   | (refine q_skip ?_ ?_
      · rfl)
   | (refine q_run ?_ ?_ ?_ ?_
      · kernel_rfl
      rotate_left
      · intro w_ hw_
        obtain ⟨c0, c1, c2, cb⟩ := hw_
        first | (go_simp; done) | (go_simp; with_reducible rfl) | (go_simp; rw [if_neg (by first | omega | (simp; omega))]))
  try simp only [Act.put, List.setIfInBounds_toArray, List.set_cons_zero, List.set_cons_succ]
  try simp only [p0, p1, p2, h0]
  first
   | (refine q_skip ?_ ?_
      · rfl)
   | (refine q_call ?_ (.int .i64 (Rp.cls code)) ?_ ?_ ?_ ?_ ?_
      · kernel_rfl
      rotate_left 2
      · intro w_ hw_
        go_simp
        refine ⟨?_, ?_⟩ <;> with_reducible rfl
      · intro w_ hw_
        obtain ⟨c0, c1, c2, cb⟩ := hw_
        exact ((rclass_any _ _).mono fun _ _ ⟨h1, h2⟩ => ⟨h1, h2 ▸ ⟨c0, c1, c2, cb⟩⟩))
  try simp only [Act.put, List.setIfInBounds_toArray, List.set_cons_zero, List.set_cons_succ]
  try simp only [p0, p1, p2, h0]
  first
   | (refine q_skip ?_ ?_
      · rfl)
   | (refine q_run ?_ ?_ ?_ ?_
      · kernel_rfl
      rotate_left
      · intro w_ hw_
        obtain ⟨c0, c1, c2, cb⟩ := hw_
        first | (go_simp; done) | (go_simp; with_reducible rfl) | (go_simp; rw [if_neg (by first | omega | (simp; omega))]))
  try simp only [Act.put, List.setIfInBounds_toArray, List.set_cons_zero, List.set_cons_succ]
  try simp only [p0, p1, p2, h0]
  refine q_run ?_ ?_ ?_ ?_
  · kernel_rfl
  rotate_left
  · intro w_ hw_
    obtain ⟨c0, c1, c2, cb⟩ := hw_
    first | (go_simp; done) | (go_simp; with_reducible rfl) | (go_simp; rw [if_neg (by first | omega | (simp; omega))])
  try simp only [Act.put, List.setIfInBounds_toArray, List.set_cons_zero, List.set_cons_succ]
  try simp only [p0, p1, p2, h0]
  refine q_run ?_ ?_ ?_ ?_
  · kernel_rfl
  rotate_left
  · intro w_ hw_
    obtain ⟨c0, c1, c2, cb⟩ := hw_
    first | (go_simp; done) | (go_simp; with_reducible rfl) | (go_simp; rw [if_neg (by first | omega | (simp; omega))])
  try simp only [Act.put, List.setIfInBounds_toArray, List.set_cons_zero, List.set_cons_succ]
  try simp only [p0, p1, p2, h0]
  first
   | (refine q_skip ?_ ?_
      · rfl)
   | (refine q_run ?_ ?_ ?_ ?_
      · kernel_rfl
      rotate_left
      · intro w_ hw_
        obtain ⟨c0, c1, c2, cb⟩ := hw_
        first | (go_simp; done) | (go_simp; with_reducible rfl) | (go_simp; rw [if_neg (by first | omega | (simp; omega))]))
  try simp only [Act.put, List.setIfInBounds_toArray, List.set_cons_zero, List.set_cons_succ]
  try simp only [p0, p1, p2, h0]
  first
   | (refine q_skip ?_ ?_
      · rfl)
   | (refine q_run ?_ ?_ ?_ ?_
      · kernel_rfl
      rotate_left
      · intro w_ hw_
        obtain ⟨c0, c1, c2, cb⟩ := hw_
        first | (go_simp; done) | (go_simp; with_reducible rfl) | (go_simp; rw [if_neg (by first | omega | (simp; omega))]))
  try simp only [Act.put, List.setIfInBounds_toArray, List.set_cons_zero, List.set_cons_succ]
  try simp only [p0, p1, p2, h0]
  first
   | (refine q_skip ?_ ?_
      · rfl)
   | (refine q_run ?_ ?_ ?_ ?_
      · kernel_rfl
      rotate_left
      · intro w_ hw_
        obtain ⟨c0, c1, c2, cb⟩ := hw_
        first | (go_simp; done) | (go_simp; with_reducible rfl) | (go_simp; rw [if_neg (by first | omega | (simp; omega))]))
  try simp only [Act.put, List.setIfInBounds_toArray, List.set_cons_zero, List.set_cons_succ]
  try simp only [p0, p1, p2, h0]
  refine q_run ?_ ?_ ?_ ?_
  · kernel_rfl
  rotate_left
  · intro w_ hw_
    obtain ⟨c0, c1, c2, cb⟩ := hw_
    first | (go_simp; done) | (go_simp; with_reducible rfl) | (go_simp; rw [if_neg (by first | omega | (simp; omega))])
  try simp only [Act.put, List.setIfInBounds_toArray, List.set_cons_zero, List.set_cons_succ]
  try simp only [p0, p1, p2, h0]
  refine q_run ?_ ?_ ?_ ?_
  · kernel_rfl
  rotate_left
  · intro w_ hw_
    obtain ⟨c0, c1, c2, cb⟩ := hw_
    first | (go_simp; done) | (go_simp; with_reducible rfl) | (go_simp; rw [if_neg (by first | omega | (simp; omega))])
  try simp only [Act.put, List.setIfInBounds_toArray, List.set_cons_zero, List.set_cons_succ]
  try simp only [p0, p1, p2, h0]
  first
   | (refine q_skip ?_ ?_
      · rfl)
   | (refine q_run ?_ ?_ ?_ ?_
      · kernel_rfl
      rotate_left
      · intro w_ hw_
        obtain ⟨c0, c1, c2, cb⟩ := hw_
        first | (go_simp; done) | (go_simp; with_reducible rfl) | (go_simp; rw [if_neg (by first | omega | (simp; omega))]))
  try simp only [Act.put, List.setIfInBounds_toArray, List.set_cons_zero, List.set_cons_succ]
  try simp only [p0, p1, p2, h0]
  first
   | (refine q_skip ?_ ?_
      · rfl)
   | (refine q_run ?_ ?_ ?_ ?_
      · kernel_rfl
      rotate_left
      · intro w_ hw_
        obtain ⟨c0, c1, c2, cb⟩ := hw_
        first | (go_simp; done) | (go_simp; with_reducible rfl) | (go_simp; rw [if_neg (by first | omega | (simp; omega))]))
  try simp only [Act.put, List.setIfInBounds_toArray, List.set_cons_zero, List.set_cons_succ]
  try simp only [p0, p1, p2, h0]
  first
   | (refine q_skip ?_ ?_
      · rfl)
   | (refine q_run ?_ ?_ ?_ ?_
      · kernel_rfl
      rotate_left
      · intro w_ hw_
        obtain ⟨c0, c1, c2, cb⟩ := hw_
        first | (go_simp; done) | (go_simp; with_reducible rfl) | (go_simp; rw [if_neg (by first | omega | (simp; omega))]))
  try simp only [Act.put, List.setIfInBounds_toArray, List.set_cons_zero, List.set_cons_succ]
  try simp only [p0, p1, p2, h0]
  refine q_run ?_ ?_ ?_ ?_
  · kernel_rfl
  rotate_left
  · intro w_ hw_
    obtain ⟨c0, c1, c2, cb⟩ := hw_
    first | (go_simp; done) | (go_simp; with_reducible rfl) | (go_simp; rw [if_neg (by first | omega | (simp; omega))])
  try simp only [Act.put, List.setIfInBounds_toArray, List.set_cons_zero, List.set_cons_succ]
  try simp only [p0, p1, p2, h0]
  refine q_run ?_ ?_ ?_ ?_
  · kernel_rfl
  rotate_left
  · intro w_ hw_
    obtain ⟨c0, c1, c2, cb⟩ := hw_
    first | (go_simp; done) | (go_simp; with_reducible rfl) | (go_simp; rw [if_neg (by first | omega | (simp; omega))])
  try simp only [Act.put, List.setIfInBounds_toArray, List.set_cons_zero, List.set_cons_succ]
  try simp only [p0, p1, p2, h0]
  first
   | (refine q_skip ?_ ?_
      · rfl)
   | (refine q_run ?_ ?_ ?_ ?_
      · kernel_rfl
      rotate_left
      · intro w_ hw_
        obtain ⟨c0, c1, c2, cb⟩ := hw_
        first | (go_simp; done) | (go_simp; with_reducible rfl) | (go_simp; rw [if_neg (by first | omega | (simp; omega))]))
  try simp only [Act.put, List.setIfInBounds_toArray, List.set_cons_zero, List.set_cons_succ]
  try simp only [p0, p1, p2, h0]
  first
   | (refine q_skip ?_ ?_
      · rfl)
   | (refine q_run ?_ ?_ ?_ ?_
      · kernel_rfl
      rotate_left
      · intro w_ hw_
        obtain ⟨c0, c1, c2, cb⟩ := hw_
        first | (go_simp; done) | (go_simp; with_reducible rfl) | (go_simp; rw [if_neg (by first | omega | (simp; omega))]))
  try simp only [Act.put, List.setIfInBounds_toArray, List.set_cons_zero, List.set_cons_succ]
  try simp only [p0, p1, p2, h0]
  first
   | (refine q_skip ?_ ?_
      · rfl)
   | (refine q_run ?_ ?_ ?_ ?_
      · kernel_rfl
      rotate_left
      · intro w_ hw_
        obtain ⟨c0, c1, c2, cb⟩ := hw_
        first | (go_simp; done) | (go_simp; with_reducible rfl) | (go_simp; rw [if_neg (by first | omega | (simp; omega))]))
  try simp only [Act.put, List.setIfInBounds_toArray, List.set_cons_zero, List.set_cons_succ]
  try simp only [p0, p1, p2, h0]
  refine q_run ?_ ?_ ?_ ?_
  · kernel_rfl
  rotate_left
  · intro w_ hw_
    obtain ⟨c0, c1, c2, cb⟩ := hw_
    first | (go_simp; done) | (go_simp; with_reducible rfl) | (go_simp; rw [if_neg (by first | omega | (simp; omega))])
  try simp only [Act.put, List.setIfInBounds_toArray, List.set_cons_zero, List.set_cons_succ]
  try simp only [p0, p1, p2, h0]
  refine q_run ?_ ?_ ?_ ?_
  · kernel_rfl
  rotate_left
  · intro w_ hw_
    obtain ⟨c0, c1, c2, cb⟩ := hw_
    first | (go_simp; done) | (go_simp; with_reducible rfl) | (go_simp; rw [if_neg (by first | omega | (simp; omega))])
  try simp only [Act.put, List.setIfInBounds_toArray, List.set_cons_zero, List.set_cons_succ]
  try simp only [p0, p1, p2, h0]
  first
   | (refine q_skip ?_ ?_
      · rfl)
   | (refine q_run ?_ ?_ ?_ ?_
      · kernel_rfl
      rotate_left
      · intro w_ hw_
        obtain ⟨c0, c1, c2, cb⟩ := hw_
        first | (go_simp; done) | (go_simp; with_reducible rfl) | (go_simp; rw [if_neg (by first | omega | (simp; omega))]))
  try simp only [Act.put, List.setIfInBounds_toArray, List.set_cons_zero, List.set_cons_succ]
  try simp only [p0, p1, p2, h0]
  first
   | (refine q_skip ?_ ?_
      · rfl)
   | (refine q_run ?_ ?_ ?_ ?_
      · kernel_rfl
      rotate_left
      · intro w_ hw_
        obtain ⟨c0, c1, c2, cb⟩ := hw_
        first | (go_simp; done) | (go_simp; with_reducible rfl) | (go_simp; rw [if_neg (by first | omega | (simp; omega))]))
  try simp only [Act.put, List.setIfInBounds_toArray, List.set_cons_zero, List.set_cons_succ]
  try simp only [p0, p1, p2, h0]
  first
   | (refine q_skip ?_ ?_
      · rfl)
   | (refine q_run ?_ ?_ ?_ ?_
      · kernel_rfl
      rotate_left
      · intro w_ hw_
        obtain ⟨c0, c1, c2, cb⟩ := hw_
        first | (go_simp; done) | (go_simp; with_reducible rfl) | (go_simp; rw [if_neg (by first | omega | (simp; omega))]))
  try simp only [Act.put, List.setIfInBounds_toArray, List.set_cons_zero, List.set_cons_succ]
  try simp only [p0, p1, p2, h0]
  refine q_run ?_ ?_ ?_ ?_
  · kernel_rfl
  rotate_left
  · intro w_ hw_
    obtain ⟨c0, c1, c2, cb⟩ := hw_
    first | (go_simp; done) | (go_simp; with_reducible rfl) | (go_simp; rw [if_neg (by first | omega | (simp; omega))])
  try simp only [Act.put, List.setIfInBounds_toArray, List.set_cons_zero, List.set_cons_succ]
  try simp only [p0, p1, p2, h0]
  refine q_run ?_ ?_ ?_ ?_
  · kernel_rfl
  rotate_left
  · intro w_ hw_
    obtain ⟨c0, c1, c2, cb⟩ := hw_
    first | (go_simp; done) | (go_simp; with_reducible rfl) | (go_simp; rw [if_neg (by first | omega | (simp; omega))])
  try simp only [Act.put, List.setIfInBounds_toArray, List.set_cons_zero, List.set_cons_succ]
  try simp only [p0, p1, p2, h0]
  refine q_nil ?_
  intro W_ hC_
  go_wp2
  go_ret
  exact ⟨rfl, hC_.2.2.2⟩
set_option maxHeartbeats 4000000 in
theorem rfits_g2k1 (code a b c : Int) (h : Rp.none3 a b c = false) (p0 : (a == 2) = false) (p1 : (a == 4) = false) (p2 : (a == 5) = true) (h0 : ((a : Int) == Rp.cls code) = true) (h1 : decide (0 ≤ b) = false) (w : World) : Calls Tryd.prog 37 #[.int .i64 code, .agg #[.int .i64 a, .int .i64 b, .int .i64 c]] w fun e w' => e = .returned (.bool false) ∧ Below w.heap.size w w' := by
  have M : Aside (Mine w [(w.heap.size, #[.int .i64 a, .int .i64 b, .int .i64 c], 23)] (w.alloc (.cells #[.int .i64 a, .int .i64 b, .int .i64 c] 23))) := ⟨(Mine.start w).alloc _ _⟩
  go_enter Tryd.func37, Tryd.ntmps37
  go_wp2_with (go_at_call 52; (with_reducible refine (rnone_any a b c _).mono ?_); rintro e w1 ⟨rfl, hb⟩; rw [h]; replace M := Aside.mk (M.out.next hb); clear hb; have z0 := Mine.at M.out 0 _ rfl; have z1 := Mine.at M.out 1 _ rfl; have z2 := Mine.at M.out 2 _ rfl; have zl := Mine.lt M.out)
  refine region_class (C := (fun w' => w'.cell? ⟨w.heap.size, 0, none⟩ = some (.int .i64 a) ∧ w'.cell? ⟨w.heap.size, 1, none⟩ = some (.int .i64 b) ∧ w'.cell? ⟨w.heap.size, 2, none⟩ = some (.int .i64 c) ∧ Below w.heap.size w w')) (by kernel_rfl) (by kernel_rfl) ⟨(M.out.drewN 1).at 0 _ rfl, (M.out.drewN 1).at 1 _ rfl, (M.out.drewN 1).at 2 _ rfl, (M.out.drewN 1).low⟩ ?_
  refine q_run ?_ ?_ ?_ ?_
  · kernel_rfl
  rotate_left
  · intro w_ hw_
    obtain ⟨c0, c1, c2, cb⟩ := hw_
    first | (go_simp; done) | (go_simp; with_reducible rfl) | (go_simp; rw [if_neg (by first | omega | (simp; omega))])
  try simp only [Act.put, List.setIfInBounds_toArray, List.set_cons_zero, List.set_cons_succ]
  try simp only [p0, p1, p2, h0, h1]
  refine q_run ?_ ?_ ?_ ?_
  · kernel_rfl
  rotate_left
  · intro w_ hw_
    obtain ⟨c0, c1, c2, cb⟩ := hw_
    first | (go_simp; done) | (go_simp; with_reducible rfl) | (go_simp; rw [if_neg (by first | omega | (simp; omega))])
  try simp only [Act.put, List.setIfInBounds_toArray, List.set_cons_zero, List.set_cons_succ]
  try simp only [p0, p1, p2, h0, h1]
  refine q_run ?_ ?_ ?_ ?_
  · kernel_rfl
  rotate_left
  · intro w_ hw_
    obtain ⟨c0, c1, c2, cb⟩ := hw_
    first | (go_simp; done) | (go_simp; with_reducible rfl) | (go_simp; rw [if_neg (by first | omega | (simp; omega))])
  try simp only [Act.put, List.setIfInBounds_toArray, List.set_cons_zero, List.set_cons_succ]
  try simp only [p0, p1, p2, h0, h1]
  refine q_run ?_ ?_ ?_ ?_
  · kernel_rfl
  rotate_left
  · intro w_ hw_
    obtain ⟨c0, c1, c2, cb⟩ := hw_
    first | (go_simp; done) | (go_simp; with_reducible rfl) | (go_simp; rw [if_neg (by first | omega | (simp; omega))])
  try simp only [Act.put, List.setIfInBounds_toArray, List.set_cons_zero, List.set_cons_succ]
  try simp only [p0, p1, p2, h0, h1]
  first
   | (refine q_skip ?_ ?_
      · rfl)
   | (refine q_run ?_ ?_ ?_ ?_
      · kernel_rfl
      rotate_left
      · intro w_ hw_
        obtain ⟨c0, c1, c2, cb⟩ := hw_
        first | (go_simp; done) | (go_simp; with_reducible rfl) | (go_simp; rw [if_neg (by first | omega | (simp; omega))]))
  try simp only [Act.put, List.setIfInBounds_toArray, List.set_cons_zero, List.set_cons_succ]
  try simp only [p0, p1, p2, h0, h1]
  first
   | (refine q_skip ?_ ?_
      · rfl)
   | (refine q_run ?_ ?_ ?_ ?_
      · kernel_rfl
      rotate_left
      · intro w_ hw_
        obtain ⟨c0, c1, c2, cb⟩ := hw_
        first | (go_simp; done) | (go_simp; with_reducible rfl) | (go_simp; rw [if_neg (by first | omega | (simp; omega))]))
  try simp only [Act.put, List.setIfInBounds_toArray, List.set_cons_zero, List.set_cons_succ]
  try simp only [p0, p1, p2, h0, h1]
  first
   | (refine q_skip ?_ ?_
      · rfl)
   | (refine q_run ?_ ?_ ?_ ?_
      · kernel_rfl
      rotate_left
      · intro w_ hw_
        obtain ⟨c0, c1, c2, cb⟩ := hw_
        first | (go_simp; done) | (go_simp; with_reducible rfl) | (go_simp; rw [if_neg (by first | omega | (simp; omega))]))
  try simp only [Act.put, List.setIfInBounds_toArray, List.set_cons_zero, List.set_cons_succ]
  try simp only [p0, p1, p2, h0, h1]
  refine q_run ?_ ?_ ?_ ?_
  · kernel_rfl
  rotate_left
  · intro w_ hw_
    obtain ⟨c0, c1, c2, cb⟩ := hw_
    first | (go_simp; done) | (go_simp; with_reducible rfl) | (go_simp; rw [if_neg (by first | omega | (simp; omega))])
  try simp only [Act.put, List.setIfInBounds_toArray, List.set_cons_zero, List.set_cons_succ]
  try simp only [p0, p1, p2, h0, h1]
  refine q_run ?_ ?_ ?_ ?_
  · kernel_rfl
  rotate_left
  · intro w_ hw_
    obtain ⟨c0, c1, c2, cb⟩ := hw_
    first | (go_simp; done) | (go_simp; with_reducible rfl) | (go_simp; rw [if_neg (by first | omega | (simp; omega))])
  try simp only [Act.put, List.setIfInBounds_toArray, List.set_cons_zero, List.set_cons_succ]
  try simp only [p0, p1, p2, h0, h1]
  first
   | (refine q_skip ?_ ?_
      · rfl)
   | (refine q_run ?_ ?_ ?_ ?_
      · kernel_rfl
      rotate_left
      · intro w_ hw_
        obtain ⟨c0, c1, c2, cb⟩ := hw_
        first | (go_simp; done) | (go_simp; with_reducible rfl) | (go_simp; rw [if_neg (by first | omega | (simp; omega))]))
  try simp only [Act.put, List.setIfInBounds_toArray, List.set_cons_zero, List.set_cons_succ]
  try simp only [p0, p1, p2, h0, h1]
  first
   | (refine q_skip ?_ ?_
      · rfl)
   | (refine q_run ?_ ?_ ?_ ?_
      · kernel_rfl
      rotate_left
      · intro w_ hw_
        obtain ⟨c0, c1, c2, cb⟩ := hw_
        first | (go_simp; done) | (go_simp; with_reducible rfl) | (go_simp; rw [if_neg (by first | omega | (simp; omega))]))
  try simp only [Act.put, List.setIfInBounds_toArray, List.set_cons_zero, List.set_cons_succ]
  try simp only [p0, p1, p2, h0, h1]
  first
   | (refine q_skip ?_ ?_
      · rfl)
   | (refine q_run ?_ ?_ ?_ ?_
      · kernel_rfl
      rotate_left
      · intro w_ hw_
        obtain ⟨c0, c1, c2, cb⟩ := hw_
        first | (go_simp; done) | (go_simp; with_reducible rfl) | (go_simp; rw [if_neg (by first | omega | (simp; omega))]))
  try simp only [Act.put, List.setIfInBounds_toArray, List.set_cons_zero, List.set_cons_succ]
  try simp only [p0, p1, p2, h0, h1]
  refine q_run ?_ ?_ ?_ ?_
  · kernel_rfl
  rotate_left
  · intro w_ hw_
    obtain ⟨c0, c1, c2, cb⟩ := hw_
    first | (go_simp; done) | (go_simp; with_reducible rfl) | (go_simp; rw [if_neg (by first | omega | (simp; omega))])
  try simp only [Act.put, List.setIfInBounds_toArray, List.set_cons_zero, List.set_cons_succ]
  try simp only [p0, p1, p2, h0, h1]
  refine q_run ?_ ?_ ?_ ?_
  · kernel_rfl
  rotate_left
  · intro w_ hw_
    obtain ⟨c0, c1, c2, cb⟩ := hw_
    first | (go_simp; done) | (go_simp; with_reducible rfl) | (go_simp; rw [if_neg (by first | omega | (simp; omega))])
  try simp only [Act.put, List.setIfInBounds_toArray, List.set_cons_zero, List.set_cons_succ]
  try simp only [p0, p1, p2, h0, h1]
  first
   | (refine q_skip ?_ ?_
      · rfl)
   | (refine q_run ?_ ?_ ?_ ?_
      · kernel_rfl
      rotate_left
      · intro w_ hw_
        obtain ⟨c0, c1, c2, cb⟩ := hw_
        first | (go_simp; done) | (go_simp; with_reducible rfl) | (go_simp; rw [if_neg (by first | omega | (simp; omega))]))
  try simp only [Act.put, List.setIfInBounds_toArray, List.set_cons_zero, List.set_cons_succ]
  try simp only [p0, p1, p2, h0, h1]
  first
   | (refine q_skip ?_ ?_
      · rfl)
   | (refine q_run ?_ ?_ ?_ ?_
      · kernel_rfl
      rotate_left
      · intro w_ hw_
        obtain ⟨c0, c1, c2, cb⟩ := hw_
        first | (go_simp; done) | (go_simp; with_reducible rfl) | (go_simp; rw [if_neg (by first | omega | (simp; omega))]))
  try simp only [Act.put, List.setIfInBounds_toArray, List.set_cons_zero, List.set_cons_succ]
  try simp only [p0, p1, p2, h0, h1]
  first
   | (refine q_skip ?_ ?_
      · rfl)
   | (refine q_run ?_ ?_ ?_ ?_
      · kernel_rfl
      rotate_left
      · intro w_ hw_
        obtain ⟨c0, c1, c2, cb⟩ := hw_
        first | (go_simp; done) | (go_simp; with_reducible rfl) | (go_simp; rw [if_neg (by first | omega | (simp; omega))]))
  try simp only [Act.put, List.setIfInBounds_toArray, List.set_cons_zero, List.set_cons_succ]
  try simp only [p0, p1, p2, h0, h1]
  first
   | (refine q_skip ?_ ?_
      · rfl)
   | (refine q_call ?_ (.int .i64 (Rp.cls code)) ?_ ?_ ?_ ?_ ?_
      · kernel_rfl
      rotate_left 2
      · intro w_ hw_
        go_simp
        refine ⟨?_, ?_⟩ <;> with_reducible rfl
      · intro w_ hw_
        obtain ⟨c0, c1, c2, cb⟩ := hw_
        exact ((rclass_any _ _).mono fun _ _ ⟨h1, h2⟩ => ⟨h1, h2 ▸ ⟨c0, c1, c2, cb⟩⟩))
  try simp only [Act.put, List.setIfInBounds_toArray, List.set_cons_zero, List.set_cons_succ]
  try simp only [p0, p1, p2, h0, h1]
  first
   | (refine q_skip ?_ ?_
      · rfl)
   | (refine q_run ?_ ?_ ?_ ?_
      · kernel_rfl
      rotate_left
      · intro w_ hw_
        obtain ⟨c0, c1, c2, cb⟩ := hw_
        first | (go_simp; done) | (go_simp; with_reducible rfl) | (go_simp; rw [if_neg (by first | omega | (simp; omega))]))
  try simp only [Act.put, List.setIfInBounds_toArray, List.set_cons_zero, List.set_cons_succ]
  try simp only [p0, p1, p2, h0, h1]
  refine q_run ?_ ?_ ?_ ?_
  · kernel_rfl
  rotate_left
  · intro w_ hw_
    obtain ⟨c0, c1, c2, cb⟩ := hw_
    first | (go_simp; done) | (go_simp; with_reducible rfl) | (go_simp; rw [if_neg (by first | omega | (simp; omega))])
  try simp only [Act.put, List.setIfInBounds_toArray, List.set_cons_zero, List.set_cons_succ]
  try simp only [p0, p1, p2, h0, h1]
  refine q_run ?_ ?_ ?_ ?_
  · kernel_rfl
  rotate_left
  · intro w_ hw_
    obtain ⟨c0, c1, c2, cb⟩ := hw_
    first | (go_simp; done) | (go_simp; with_reducible rfl) | (go_simp; rw [if_neg (by first | omega | (simp; omega))])
  try simp only [Act.put, List.setIfInBounds_toArray, List.set_cons_zero, List.set_cons_succ]
  try simp only [p0, p1, p2, h0, h1]
  first
   | (refine q_skip ?_ ?_
      · rfl)
   | (refine q_run ?_ ?_ ?_ ?_
      · kernel_rfl
      rotate_left
      · intro w_ hw_
        obtain ⟨c0, c1, c2, cb⟩ := hw_
        first | (go_simp; done) | (go_simp; with_reducible rfl) | (go_simp; rw [if_neg (by first | omega | (simp; omega))]))
  try simp only [Act.put, List.setIfInBounds_toArray, List.set_cons_zero, List.set_cons_succ]
  try simp only [p0, p1, p2, h0, h1]
  first
   | (refine q_skip ?_ ?_
      · rfl)
   | (refine q_run ?_ ?_ ?_ ?_
      · kernel_rfl
      rotate_left
      · intro w_ hw_
        obtain ⟨c0, c1, c2, cb⟩ := hw_
        first | (go_simp; done) | (go_simp; with_reducible rfl) | (go_simp; rw [if_neg (by first | omega | (simp; omega))]))
  try simp only [Act.put, List.setIfInBounds_toArray, List.set_cons_zero, List.set_cons_succ]
  try simp only [p0, p1, p2, h0, h1]
  first
   | (refine q_skip ?_ ?_
      · rfl)
   | (refine q_run ?_ ?_ ?_ ?_
      · kernel_rfl
      rotate_left
      · intro w_ hw_
        obtain ⟨c0, c1, c2, cb⟩ := hw_
        first | (go_simp; done) | (go_simp; with_reducible rfl) | (go_simp; rw [if_neg (by first | omega | (simp; omega))]))
  try simp only [Act.put, List.setIfInBounds_toArray, List.set_cons_zero, List.set_cons_succ]
  try simp only [p0, p1, p2, h0, h1]
  refine q_run ?_ ?_ ?_ ?_
  · kernel_rfl
  rotate_left
  · intro w_ hw_
    obtain ⟨c0, c1, c2, cb⟩ := hw_
    first | (go_simp; done) | (go_simp; with_reducible rfl) | (go_simp; rw [if_neg (by first | omega | (simp; omega))])
  try simp only [Act.put, List.setIfInBounds_toArray, List.set_cons_zero, List.set_cons_succ]
  try simp only [p0, p1, p2, h0, h1]
  refine q_run ?_ ?_ ?_ ?_
  · kernel_rfl
  rotate_left
  · intro w_ hw_
    obtain ⟨c0, c1, c2, cb⟩ := hw_
    first | (go_simp; done) | (go_simp; with_reducible rfl) | (go_simp; rw [if_neg (by first | omega | (simp; omega))])
  try simp only [Act.put, List.setIfInBounds_toArray, List.set_cons_zero, List.set_cons_succ]
  try simp only [p0, p1, p2, h0, h1]
  first
   | (refine q_skip ?_ ?_
      · rfl)
   | (refine q_run ?_ ?_ ?_ ?_
      · kernel_rfl
      rotate_left
      · intro w_ hw_
        obtain ⟨c0, c1, c2, cb⟩ := hw_
        first | (go_simp; done) | (go_simp; with_reducible rfl) | (go_simp; rw [if_neg (by first | omega | (simp; omega))]))
  try simp only [Act.put, List.setIfInBounds_toArray, List.set_cons_zero, List.set_cons_succ]
  try simp only [p0, p1, p2, h0, h1]
  first
   | (refine q_skip ?_ ?_
      · rfl)
   | (refine q_run ?_ ?_ ?_ ?_
      · kernel_rfl
      rotate_left
      · intro w_ hw_
        obtain ⟨c0, c1, c2, cb⟩ := hw_
        first | (go_simp; done) | (go_simp; with_reducible rfl) | (go_simp; rw [if_neg (by first | omega | (simp; omega))]))
  try simp only [Act.put, List.setIfInBounds_toArray, List.set_cons_zero, List.set_cons_succ]
  try simp only [p0, p1, p2, h0, h1]
  first
   | (refine q_skip ?_ ?_
      · rfl)
   | (refine q_run ?_ ?_ ?_ ?_
      · kernel_rfl
      rotate_left
      · intro w_ hw_
        obtain ⟨c0, c1, c2, cb⟩ := hw_
        first | (go_simp; done) | (go_simp; with_reducible rfl) | (go_simp; rw [if_neg (by first | omega | (simp; omega))]))
  try simp only [Act.put, List.setIfInBounds_toArray, List.set_cons_zero, List.set_cons_succ]
  try simp only [p0, p1, p2, h0, h1]
  refine q_run ?_ ?_ ?_ ?_
  · kernel_rfl
  rotate_left
  · intro w_ hw_
    obtain ⟨c0, c1, c2, cb⟩ := hw_
    first | (go_simp; done) | (go_simp; with_reducible rfl) | (go_simp; rw [if_neg (by first | omega | (simp; omega))])
  try simp only [Act.put, List.setIfInBounds_toArray, List.set_cons_zero, List.set_cons_succ]
  try simp only [p0, p1, p2, h0, h1]
  refine q_run ?_ ?_ ?_ ?_
  · kernel_rfl
  rotate_left
  · intro w_ hw_
    obtain ⟨c0, c1, c2, cb⟩ := hw_
    first | (go_simp; done) | (go_simp; with_reducible rfl) | (go_simp; rw [if_neg (by first | omega | (simp; omega))])
  try simp only [Act.put, List.setIfInBounds_toArray, List.set_cons_zero, List.set_cons_succ]
  try simp only [p0, p1, p2, h0, h1]
  first
   | (refine q_skip ?_ ?_
      · rfl)
   | (refine q_run ?_ ?_ ?_ ?_
      · kernel_rfl
      rotate_left
      · intro w_ hw_
        obtain ⟨c0, c1, c2, cb⟩ := hw_
        first | (go_simp; done) | (go_simp; with_reducible rfl) | (go_simp; rw [if_neg (by first | omega | (simp; omega))]))
  try simp only [Act.put, List.setIfInBounds_toArray, List.set_cons_zero, List.set_cons_succ]
  try simp only [p0, p1, p2, h0, h1]
  first
   | (refine q_skip ?_ ?_
      · rfl)
   | (refine q_run ?_ ?_ ?_ ?_
      · kernel_rfl
      rotate_left
      · intro w_ hw_
        obtain ⟨c0, c1, c2, cb⟩ := hw_
        first | (go_simp; done) | (go_simp; with_reducible rfl) | (go_simp; rw [if_neg (by first | omega | (simp; omega))]))
  try simp only [Act.put, List.setIfInBounds_toArray, List.set_cons_zero, List.set_cons_succ]
  try simp only [p0, p1, p2, h0, h1]
  first
   | (refine q_skip ?_ ?_
      · rfl)
   | (refine q_run ?_ ?_ ?_ ?_
      · kernel_rfl
      rotate_left
      · intro w_ hw_
        obtain ⟨c0, c1, c2, cb⟩ := hw_
        first | (go_simp; done) | (go_simp; with_reducible rfl) | (go_simp; rw [if_neg (by first | omega | (simp; omega))]))
  try simp only [Act.put, List.setIfInBounds_toArray, List.set_cons_zero, List.set_cons_succ]
  try simp only [p0, p1, p2, h0, h1]
  refine q_run ?_ ?_ ?_ ?_
  · kernel_rfl
  rotate_left
  · intro w_ hw_
    obtain ⟨c0, c1, c2, cb⟩ := hw_
    first | (go_simp; done) | (go_simp; with_reducible rfl) | (go_simp; rw [if_neg (by first | omega | (simp; omega))])
  try simp only [Act.put, List.setIfInBounds_toArray, List.set_cons_zero, List.set_cons_succ]
  try simp only [p0, p1, p2, h0, h1]
  refine q_run ?_ ?_ ?_ ?_
  · kernel_rfl
  rotate_left
  · intro w_ hw_
    obtain ⟨c0, c1, c2, cb⟩ := hw_
    first | (go_simp; done) | (go_simp; with_reducible rfl) | (go_simp; rw [if_neg (by first | omega | (simp; omega))])
  try simp only [Act.put, List.setIfInBounds_toArray, List.set_cons_zero, List.set_cons_succ]
  try simp only [p0, p1, p2, h0, h1]
  first
   | (refine q_skip ?_ ?_
      · rfl)
   | (refine q_run ?_ ?_ ?_ ?_
      · kernel_rfl
      rotate_left
      · intro w_ hw_
        obtain ⟨c0, c1, c2, cb⟩ := hw_
        first | (go_simp; done) | (go_simp; with_reducible rfl) | (go_simp; rw [if_neg (by first | omega | (simp; omega))]))
  try simp only [Act.put, List.setIfInBounds_toArray, List.set_cons_zero, List.set_cons_succ]
  try simp only [p0, p1, p2, h0, h1]
  first
   | (refine q_skip ?_ ?_
      · rfl)
   | (refine q_run ?_ ?_ ?_ ?_
      · kernel_rfl
      rotate_left
      · intro w_ hw_
        obtain ⟨c0, c1, c2, cb⟩ := hw_
        first | (go_simp; done) | (go_simp; with_reducible rfl) | (go_simp; rw [if_neg (by first | omega | (simp; omega))]))
  try simp only [Act.put, List.setIfInBounds_toArray, List.set_cons_zero, List.set_cons_succ]
  try simp only [p0, p1, p2, h0, h1]
  first
   | (refine q_skip ?_ ?_
      · rfl)
   | (refine q_run ?_ ?_ ?_ ?_
      · kernel_rfl
      rotate_left
      · intro w_ hw_
        obtain ⟨c0, c1, c2, cb⟩ := hw_
        first | (go_simp; done) | (go_simp; with_reducible rfl) | (go_simp; rw [if_neg (by first | omega | (simp; omega))]))
  try simp only [Act.put, List.setIfInBounds_toArray, List.set_cons_zero, List.set_cons_succ]
  try simp only [p0, p1, p2, h0, h1]
  refine q_run ?_ ?_ ?_ ?_
  · kernel_rfl
  rotate_left
  · intro w_ hw_
    obtain ⟨c0, c1, c2, cb⟩ := hw_
    first | (go_simp; done) | (go_simp; with_reducible rfl) | (go_simp; rw [if_neg (by first | omega | (simp; omega))])
  try simp only [Act.put, List.setIfInBounds_toArray, List.set_cons_zero, List.set_cons_succ]
  try simp only [p0, p1, p2, h0, h1]
  refine q_run ?_ ?_ ?_ ?_
  · kernel_rfl
  rotate_left
  · intro w_ hw_
    obtain ⟨c0, c1, c2, cb⟩ := hw_
    first | (go_simp; done) | (go_simp; with_reducible rfl) | (go_simp; rw [if_neg (by first | omega | (simp; omega))])
  try simp only [Act.put, List.setIfInBounds_toArray, List.set_cons_zero, List.set_cons_succ]
  try simp only [p0, p1, p2, h0, h1]
  refine q_nil ?_
  intro W_ hC_
  go_wp2
  go_ret
  exact ⟨rfl, hC_.2.2.2⟩
set_option maxHeartbeats 4000000 in
theorem rfits_g2k2 (code a b c : Int) (h : Rp.none3 a b c = false) (p0 : (a == 2) = false) (p1 : (a == 4) = false) (p2 : (a == 5) = true) (h0 : ((a : Int) == Rp.cls code) = true) (h1 : decide (0 ≤ b) = true) (h2 : decide (b < 1000) = false) (w : World) : Calls Tryd.prog 37 #[.int .i64 code, .agg #[.int .i64 a, .int .i64 b, .int .i64 c]] w fun e w' => e = .returned (.bool false) ∧ Below w.heap.size w w' := by
  have M : Aside (Mine w [(w.heap.size, #[.int .i64 a, .int .i64 b, .int .i64 c], 23)] (w.alloc (.cells #[.int .i64 a, .int .i64 b, .int .i64 c] 23))) := ⟨(Mine.start w).alloc _ _⟩
  go_enter Tryd.func37, Tryd.ntmps37
  go_wp2_with (go_at_call 52; (with_reducible refine (rnone_any a b c _).mono ?_); rintro e w1 ⟨rfl, hb⟩; rw [h]; replace M := Aside.mk (M.out.next hb); clear hb; have z0 := Mine.at M.out 0 _ rfl; have z1 := Mine.at M.out 1 _ rfl; have z2 := Mine.at M.out 2 _ rfl; have zl := Mine.lt M.out)
  refine region_class (C := (fun w' => w'.cell? ⟨w.heap.size, 0, none⟩ = some (.int .i64 a) ∧ w'.cell? ⟨w.heap.size, 1, none⟩ = some (.int .i64 b) ∧ w'.cell? ⟨w.heap.size, 2, none⟩ = some (.int .i64 c) ∧ Below w.heap.size w w')) (by kernel_rfl) (by kernel_rfl) ⟨(M.out.drewN 1).at 0 _ rfl, (M.out.drewN 1).at 1 _ rfl, (M.out.drewN 1).at 2 _ rfl, (M.out.drewN 1).low⟩ ?_
  refine q_run ?_ ?_ ?_ ?_
  · kernel_rfl
  rotate_left
  · intro w_ hw_
    obtain ⟨c0, c1, c2, cb⟩ := hw_
    first | (go_simp; done) | (go_simp; with_reducible rfl) | (go_simp; rw [if_neg (by first | omega | (simp; omega))])
  try simp only [Act.put, List.setIfInBounds_toArray, List.set_cons_zero, List.set_cons_succ]
  try simp only [p0, p1, p2, h0, h1, h2]
  refine q_run ?_ ?_ ?_ ?_
  · kernel_rfl
  rotate_left
  · intro w_ hw_
    obtain ⟨c0, c1, c2, cb⟩ := hw_
    first | (go_simp; done) | (go_simp; with_reducible rfl) | (go_simp; rw [if_neg (by first | omega | (simp; omega))])
  try simp only [Act.put, List.setIfInBounds_toArray, List.set_cons_zero, List.set_cons_succ]
  try simp only [p0, p1, p2, h0, h1, h2]
  refine q_run ?_ ?_ ?_ ?_
  · kernel_rfl
  rotate_left
  · intro w_ hw_
    obtain ⟨c0, c1, c2, cb⟩ := hw_
    first | (go_simp; done) | (go_simp; with_reducible rfl) | (go_simp; rw [if_neg (by first | omega | (simp; omega))])
  try simp only [Act.put, List.setIfInBounds_toArray, List.set_cons_zero, List.set_cons_succ]
  try simp only [p0, p1, p2, h0, h1, h2]
  refine q_run ?_ ?_ ?_ ?_
  · kernel_rfl
  rotate_left
  · intro w_ hw_
    obtain ⟨c0, c1, c2, cb⟩ := hw_
    first | (go_simp; done) | (go_simp; with_reducible rfl) | (go_simp; rw [if_neg (by first | omega | (simp; omega))])
  try simp only [Act.put, List.setIfInBounds_toArray, List.set_cons_zero, List.set_cons_succ]
  try simp only [p0, p1, p2, h0, h1, h2]
  first
   | (refine q_skip ?_ ?_
      · rfl)
   | (refine q_run ?_ ?_ ?_ ?_
      · kernel_rfl
      rotate_left
      · intro w_ hw_
        obtain ⟨c0, c1, c2, cb⟩ := hw_
        first | (go_simp; done) | (go_simp; with_reducible rfl) | (go_simp; rw [if_neg (by first | omega | (simp; omega))]))
  try simp only [Act.put, List.setIfInBounds_toArray, List.set_cons_zero, List.set_cons_succ]
  try simp only [p0, p1, p2, h0, h1, h2]
  first
   | (refine q_skip ?_ ?_
      · rfl)
   | (refine q_run ?_ ?_ ?_ ?_
      · kernel_rfl
      rotate_left
      · intro w_ hw_
        obtain ⟨c0, c1, c2, cb⟩ := hw_
        first | (go_simp; done) | (go_simp; with_reducible rfl) | (go_simp; rw [if_neg (by first | omega | (simp; omega))]))
  try simp only [Act.put, List.setIfInBounds_toArray, List.set_cons_zero, List.set_cons_succ]
  try simp only [p0, p1, p2, h0, h1, h2]
  first
   | (refine q_skip ?_ ?_
      · rfl)
   | (refine q_run ?_ ?_ ?_ ?_
      · kernel_rfl
      rotate_left
      · intro w_ hw_
        obtain ⟨c0, c1, c2, cb⟩ := hw_
        first | (go_simp; done) | (go_simp; with_reducible rfl) | (go_simp; rw [if_neg (by first | omega | (simp; omega))]))
  try simp only [Act.put, List.setIfInBounds_toArray, List.set_cons_zero, List.set_cons_succ]
  try simp only [p0, p1, p2, h0, h1, h2]
  refine q_run ?_ ?_ ?_ ?_
  · kernel_rfl
  rotate_left
  · intro w_ hw_
    obtain ⟨c0, c1, c2, cb⟩ := hw_
    first | (go_simp; done) | (go_simp; with_reducible rfl) | (go_simp; rw [if_neg (by first | omega | (simp; omega))])
  try simp only [Act.put, List.setIfInBounds_toArray, List.set_cons_zero, List.set_cons_succ]
  try simp only [p0, p1, p2, h0, h1, h2]
  refine q_run ?_ ?_ ?_ ?_
  · kernel_rfl
  rotate_left
  · intro w_ hw_
    obtain ⟨c0, c1, c2, cb⟩ := hw_
    first | (go_simp; done) | (go_simp; with_reducible rfl) | (go_simp; rw [if_neg (by first | omega | (simp; omega))])
  try simp only [Act.put, List.setIfInBounds_toArray, List.set_cons_zero, List.set_cons_succ]
  try simp only [p0, p1, p2, h0, h1, h2]
  first
   | (refine q_skip ?_ ?_
      · rfl)
   | (refine q_run ?_ ?_ ?_ ?_
      · kernel_rfl
      rotate_left
      · intro w_ hw_
        obtain ⟨c0, c1, c2, cb⟩ := hw_
        first | (go_simp; done) | (go_simp; with_reducible rfl) | (go_simp; rw [if_neg (by first | omega | (simp; omega))]))
  try simp only [Act.put, List.setIfInBounds_toArray, List.set_cons_zero, List.set_cons_succ]
  try simp only [p0, p1, p2, h0, h1, h2]
  first
   | (refine q_skip ?_ ?_
      · rfl)
   | (refine q_run ?_ ?_ ?_ ?_
      · kernel_rfl
      rotate_left
      · intro w_ hw_
        obtain ⟨c0, c1, c2, cb⟩ := hw_
        first | (go_simp; done) | (go_simp; with_reducible rfl) | (go_simp; rw [if_neg (by first | omega | (simp; omega))]))
  try simp only [Act.put, List.setIfInBounds_toArray, List.set_cons_zero, List.set_cons_succ]
  try simp only [p0, p1, p2, h0, h1, h2]
  first
   | (refine q_skip ?_ ?_
      · rfl)
   | (refine q_run ?_ ?_ ?_ ?_
      · kernel_rfl
      rotate_left
      · intro w_ hw_
        obtain ⟨c0, c1, c2, cb⟩ := hw_
        first | (go_simp; done) | (go_simp; with_reducible rfl) | (go_simp; rw [if_neg (by first | omega | (simp; omega))]))
  try simp only [Act.put, List.setIfInBounds_toArray, List.set_cons_zero, List.set_cons_succ]
  try simp only [p0, p1, p2, h0, h1, h2]
  refine q_run ?_ ?_ ?_ ?_
  · kernel_rfl
  rotate_left
  · intro w_ hw_
    obtain ⟨c0, c1, c2, cb⟩ := hw_
    first | (go_simp; done) | (go_simp; with_reducible rfl) | (go_simp; rw [if_neg (by first | omega | (simp; omega))])
  try simp only [Act.put, List.setIfInBounds_toArray, List.set_cons_zero, List.set_cons_succ]
  try simp only [p0, p1, p2, h0, h1, h2]
  refine q_run ?_ ?_ ?_ ?_
  · kernel_rfl
  rotate_left
  · intro w_ hw_
    obtain ⟨c0, c1, c2, cb⟩ := hw_
    first | (go_simp; done) | (go_simp; with_reducible rfl) | (go_simp; rw [if_neg (by first | omega | (simp; omega))])
  try simp only [Act.put, List.setIfInBounds_toArray, List.set_cons_zero, List.set_cons_succ]
  try simp only [p0, p1, p2, h0, h1, h2]
  first
   | (refine q_skip ?_ ?_
      · rfl)
   | (refine q_run ?_ ?_ ?_ ?_
      · kernel_rfl
      rotate_left
      · intro w_ hw_
        obtain ⟨c0, c1, c2, cb⟩ := hw_
        first | (go_simp; done) | (go_simp; with_reducible rfl) | (go_simp; rw [if_neg (by first | omega | (simp; omega))]))
  try simp only [Act.put, List.setIfInBounds_toArray, List.set_cons_zero, List.set_cons_succ]
  try simp only [p0, p1, p2, h0, h1, h2]
  first
   | (refine q_skip ?_ ?_
      · rfl)
   | (refine q_run ?_ ?_ ?_ ?_
      · kernel_rfl
      rotate_left
      · intro w_ hw_
        obtain ⟨c0, c1, c2, cb⟩ := hw_
        first | (go_simp; done) | (go_simp; with_reducible rfl) | (go_simp; rw [if_neg (by first | omega | (simp; omega))]))
  try simp only [Act.put, List.setIfInBounds_toArray, List.set_cons_zero, List.set_cons_succ]
  try simp only [p0, p1, p2, h0, h1, h2]
  first
   | (refine q_skip ?_ ?_
      · rfl)
   | (refine q_run ?_ ?_ ?_ ?_
      · kernel_rfl
      rotate_left
      · intro w_ hw_
        obtain ⟨c0, c1, c2, cb⟩ := hw_
        first | (go_simp; done) | (go_simp; with_reducible rfl) | (go_simp; rw [if_neg (by first | omega | (simp; omega))]))
  try simp only [Act.put, List.setIfInBounds_toArray, List.set_cons_zero, List.set_cons_succ]
  try simp only [p0, p1, p2, h0, h1, h2]
  first
   | (refine q_skip ?_ ?_
      · rfl)
   | (refine q_call ?_ (.int .i64 (Rp.cls code)) ?_ ?_ ?_ ?_ ?_
      · kernel_rfl
      rotate_left 2
      · intro w_ hw_
        go_simp
        refine ⟨?_, ?_⟩ <;> with_reducible rfl
      · intro w_ hw_
        obtain ⟨c0, c1, c2, cb⟩ := hw_
        exact ((rclass_any _ _).mono fun _ _ ⟨h1, h2⟩ => ⟨h1, h2 ▸ ⟨c0, c1, c2, cb⟩⟩))
  try simp only [Act.put, List.setIfInBounds_toArray, List.set_cons_zero, List.set_cons_succ]
  try simp only [p0, p1, p2, h0, h1, h2]
  first
   | (refine q_skip ?_ ?_
      · rfl)
   | (refine q_run ?_ ?_ ?_ ?_
      · kernel_rfl
      rotate_left
      · intro w_ hw_
        obtain ⟨c0, c1, c2, cb⟩ := hw_
        first | (go_simp; done) | (go_simp; with_reducible rfl) | (go_simp; rw [if_neg (by first | omega | (simp; omega))]))
  try simp only [Act.put, List.setIfInBounds_toArray, List.set_cons_zero, List.set_cons_succ]
  try simp only [p0, p1, p2, h0, h1, h2]
  refine q_run ?_ ?_ ?_ ?_
  · kernel_rfl
  rotate_left
  · intro w_ hw_
    obtain ⟨c0, c1, c2, cb⟩ := hw_
    first | (go_simp; done) | (go_simp; with_reducible rfl) | (go_simp; rw [if_neg (by first | omega | (simp; omega))])
  try simp only [Act.put, List.setIfInBounds_toArray, List.set_cons_zero, List.set_cons_succ]
  try simp only [p0, p1, p2, h0, h1, h2]
  refine q_run ?_ ?_ ?_ ?_
  · kernel_rfl
  rotate_left
  · intro w_ hw_
    obtain ⟨c0, c1, c2, cb⟩ := hw_
    first | (go_simp; done) | (go_simp; with_reducible rfl) | (go_simp; rw [if_neg (by first | omega | (simp; omega))])
  try simp only [Act.put, List.setIfInBounds_toArray, List.set_cons_zero, List.set_cons_succ]
  try simp only [p0, p1, p2, h0, h1, h2]
  first
   | (refine q_skip ?_ ?_
      · rfl)
   | (refine q_run ?_ ?_ ?_ ?_
      · kernel_rfl
      rotate_left
      · intro w_ hw_
        obtain ⟨c0, c1, c2, cb⟩ := hw_
        first | (go_simp; done) | (go_simp; with_reducible rfl) | (go_simp; rw [if_neg (by first | omega | (simp; omega))]))
  try simp only [Act.put, List.setIfInBounds_toArray, List.set_cons_zero, List.set_cons_succ]
  try simp only [p0, p1, p2, h0, h1, h2]
  first
   | (refine q_skip ?_ ?_
      · rfl)
   | (refine q_run ?_ ?_ ?_ ?_
      · kernel_rfl
      rotate_left
      · intro w_ hw_
        obtain ⟨c0, c1, c2, cb⟩ := hw_
        first | (go_simp; done) | (go_simp; with_reducible rfl) | (go_simp; rw [if_neg (by first | omega | (simp; omega))]))
  try simp only [Act.put, List.setIfInBounds_toArray, List.set_cons_zero, List.set_cons_succ]
  try simp only [p0, p1, p2, h0, h1, h2]
  first
   | (refine q_skip ?_ ?_
      · rfl)
   | (refine q_run ?_ ?_ ?_ ?_
      · kernel_rfl
      rotate_left
      · intro w_ hw_
        obtain ⟨c0, c1, c2, cb⟩ := hw_
        first | (go_simp; done) | (go_simp; with_reducible rfl) | (go_simp; rw [if_neg (by first | omega | (simp; omega))]))
  try simp only [Act.put, List.setIfInBounds_toArray, List.set_cons_zero, List.set_cons_succ]
  try simp only [p0, p1, p2, h0, h1, h2]
  refine q_run ?_ ?_ ?_ ?_
  · kernel_rfl
  rotate_left
  · intro w_ hw_
    obtain ⟨c0, c1, c2, cb⟩ := hw_
    first | (go_simp; done) | (go_simp; with_reducible rfl) | (go_simp; rw [if_neg (by first | omega | (simp; omega))])
  try simp only [Act.put, List.setIfInBounds_toArray, List.set_cons_zero, List.set_cons_succ]
  try simp only [p0, p1, p2, h0, h1, h2]
  refine q_run ?_ ?_ ?_ ?_
  · kernel_rfl
  rotate_left
  · intro w_ hw_
    obtain ⟨c0, c1, c2, cb⟩ := hw_
    first | (go_simp; done) | (go_simp; with_reducible rfl) | (go_simp; rw [if_neg (by first | omega | (simp; omega))])
  try simp only [Act.put, List.setIfInBounds_toArray, List.set_cons_zero, List.set_cons_succ]
  try simp only [p0, p1, p2, h0, h1, h2]
  first
   | (refine q_skip ?_ ?_
      · rfl)
   | (refine q_run ?_ ?_ ?_ ?_
      · kernel_rfl
      rotate_left
      · intro w_ hw_
        obtain ⟨c0, c1, c2, cb⟩ := hw_
        first | (go_simp; done) | (go_simp; with_reducible rfl) | (go_simp; rw [if_neg (by first | omega | (simp; omega))]))
  try simp only [Act.put, List.setIfInBounds_toArray, List.set_cons_zero, List.set_cons_succ]
  try simp only [p0, p1, p2, h0, h1, h2]
  first
   | (refine q_skip ?_ ?_
      · rfl)
   | (refine q_run ?_ ?_ ?_ ?_
      · kernel_rfl
      rotate_left
      · intro w_ hw_
        obtain ⟨c0, c1, c2, cb⟩ := hw_
        first | (go_simp; done) | (go_simp; with_reducible rfl) | (go_simp; rw [if_neg (by first | omega | (simp; omega))]))
  try simp only [Act.put, List.setIfInBounds_toArray, List.set_cons_zero, List.set_cons_succ]
  try simp only [p0, p1, p2, h0, h1, h2]
  first
   | (refine q_skip ?_ ?_
      · rfl)
   | (refine q_run ?_ ?_ ?_ ?_
      · kernel_rfl
      rotate_left
      · intro w_ hw_
        obtain ⟨c0, c1, c2, cb⟩ := hw_
        first | (go_simp; done) | (go_simp; with_reducible rfl) | (go_simp; rw [if_neg (by first | omega | (simp; omega))]))
  try simp only [Act.put, List.setIfInBounds_toArray, List.set_cons_zero, List.set_cons_succ]
  try simp only [p0, p1, p2, h0, h1, h2]
  refine q_run ?_ ?_ ?_ ?_
  · kernel_rfl
  rotate_left
  · intro w_ hw_
    obtain ⟨c0, c1, c2, cb⟩ := hw_
    first | (go_simp; done) | (go_simp; with_reducible rfl) | (go_simp; rw [if_neg (by first | omega | (simp; omega))])
  try simp only [Act.put, List.setIfInBounds_toArray, List.set_cons_zero, List.set_cons_succ]
  try simp only [p0, p1, p2, h0, h1, h2]
  refine q_run ?_ ?_ ?_ ?_
  · kernel_rfl
  rotate_left
  · intro w_ hw_
    obtain ⟨c0, c1, c2, cb⟩ := hw_
    first | (go_simp; done) | (go_simp; with_reducible rfl) | (go_simp; rw [if_neg (by first | omega | (simp; omega))])
  try simp only [Act.put, List.setIfInBounds_toArray, List.set_cons_zero, List.set_cons_succ]
  try simp only [p0, p1, p2, h0, h1, h2]
  first
   | (refine q_skip ?_ ?_
      · rfl)
   | (refine q_run ?_ ?_ ?_ ?_
      · kernel_rfl
      rotate_left
      · intro w_ hw_
        obtain ⟨c0, c1, c2, cb⟩ := hw_
        first | (go_simp; done) | (go_simp; with_reducible rfl) | (go_simp; rw [if_neg (by first | omega | (simp; omega))]))
  try simp only [Act.put, List.setIfInBounds_toArray, List.set_cons_zero, List.set_cons_succ]
  try simp only [p0, p1, p2, h0, h1, h2]
  first
   | (refine q_skip ?_ ?_
      · rfl)
   | (refine q_run ?_ ?_ ?_ ?_
      · kernel_rfl
      rotate_left
      · intro w_ hw_
        obtain ⟨c0, c1, c2, cb⟩ := hw_
        first | (go_simp; done) | (go_simp; with_reducible rfl) | (go_simp; rw [if_neg (by first | omega | (simp; omega))]))
  try simp only [Act.put, List.setIfInBounds_toArray, List.set_cons_zero, List.set_cons_succ]
  try simp only [p0, p1, p2, h0, h1, h2]
  first
   | (refine q_skip ?_ ?_
      · rfl)
   | (refine q_run ?_ ?_ ?_ ?_
      · kernel_rfl
      rotate_left
      · intro w_ hw_
        obtain ⟨c0, c1, c2, cb⟩ := hw_
        first | (go_simp; done) | (go_simp; with_reducible rfl) | (go_simp; rw [if_neg (by first | omega | (simp; omega))]))
  try simp only [Act.put, List.setIfInBounds_toArray, List.set_cons_zero, List.set_cons_succ]
  try simp only [p0, p1, p2, h0, h1, h2]
  refine q_run ?_ ?_ ?_ ?_
  · kernel_rfl
  rotate_left
  · intro w_ hw_
    obtain ⟨c0, c1, c2, cb⟩ := hw_
    first | (go_simp; done) | (go_simp; with_reducible rfl) | (go_simp; rw [if_neg (by first | omega | (simp; omega))])
  try simp only [Act.put, List.setIfInBounds_toArray, List.set_cons_zero, List.set_cons_succ]
  try simp only [p0, p1, p2, h0, h1, h2]
  refine q_run ?_ ?_ ?_ ?_
  · kernel_rfl
  rotate_left
  · intro w_ hw_
    obtain ⟨c0, c1, c2, cb⟩ := hw_
    first | (go_simp; done) | (go_simp; with_reducible rfl) | (go_simp; rw [if_neg (by first | omega | (simp; omega))])
  try simp only [Act.put, List.setIfInBounds_toArray, List.set_cons_zero, List.set_cons_succ]
  try simp only [p0, p1, p2, h0, h1, h2]
  first
   | (refine q_skip ?_ ?_
      · rfl)
   | (refine q_run ?_ ?_ ?_ ?_
      · kernel_rfl
      rotate_left
      · intro w_ hw_
        obtain ⟨c0, c1, c2, cb⟩ := hw_
        first | (go_simp; done) | (go_simp; with_reducible rfl) | (go_simp; rw [if_neg (by first | omega | (simp; omega))]))
  try simp only [Act.put, List.setIfInBounds_toArray, List.set_cons_zero, List.set_cons_succ]
  try simp only [p0, p1, p2, h0, h1, h2]
  first
   | (refine q_skip ?_ ?_
      · rfl)
   | (refine q_run ?_ ?_ ?_ ?_
      · kernel_rfl
      rotate_left
      · intro w_ hw_
        obtain ⟨c0, c1, c2, cb⟩ := hw_
        first | (go_simp; done) | (go_simp; with_reducible rfl) | (go_simp; rw [if_neg (by first | omega | (simp; omega))]))
  try simp only [Act.put, List.setIfInBounds_toArray, List.set_cons_zero, List.set_cons_succ]
  try simp only [p0, p1, p2, h0, h1, h2]
  first
   | (refine q_skip ?_ ?_
      · rfl)
   | (refine q_run ?_ ?_ ?_ ?_
      · kernel_rfl
      rotate_left
      · intro w_ hw_
        obtain ⟨c0, c1, c2, cb⟩ := hw_
        first | (go_simp; done) | (go_simp; with_reducible rfl) | (go_simp; rw [if_neg (by first | omega | (simp; omega))]))
  try simp only [Act.put, List.setIfInBounds_toArray, List.set_cons_zero, List.set_cons_succ]
  try simp only [p0, p1, p2, h0, h1, h2]
  refine q_run ?_ ?_ ?_ ?_
  · kernel_rfl
  rotate_left
  · intro w_ hw_
    obtain ⟨c0, c1, c2, cb⟩ := hw_
    first | (go_simp; done) | (go_simp; with_reducible rfl) | (go_simp; rw [if_neg (by first | omega | (simp; omega))])
  try simp only [Act.put, List.setIfInBounds_toArray, List.set_cons_zero, List.set_cons_succ]
  try simp only [p0, p1, p2, h0, h1, h2]
  refine q_run ?_ ?_ ?_ ?_
  · kernel_rfl
  rotate_left
  · intro w_ hw_
    obtain ⟨c0, c1, c2, cb⟩ := hw_
    first | (go_simp; done) | (go_simp; with_reducible rfl) | (go_simp; rw [if_neg (by first | omega | (simp; omega))])
  try simp only [Act.put, List.setIfInBounds_toArray, List.set_cons_zero, List.set_cons_succ]
  try simp only [p0, p1, p2, h0, h1, h2]
  refine q_nil ?_
  intro W_ hC_
  go_wp2
  go_ret
  exact ⟨rfl, hC_.2.2.2⟩
set_option maxHeartbeats 4000000 in
theorem rfits_g2k3 (code a b c : Int) (h : Rp.none3 a b c = false) (p0 : (a == 2) = false) (p1 : (a == 4) = false) (p2 : (a == 5) = true) (h0 : ((a : Int) == Rp.cls code) = true) (h1 : decide (0 ≤ b) = true) (h2 : decide (b < 1000) = true) (h3 : decide (0 ≤ c) = false) (w : World) : Calls Tryd.prog 37 #[.int .i64 code, .agg #[.int .i64 a, .int .i64 b, .int .i64 c]] w fun e w' => e = .returned (.bool false) ∧ Below w.heap.size w w' := by
  have M : Aside (Mine w [(w.heap.size, #[.int .i64 a, .int .i64 b, .int .i64 c], 23)] (w.alloc (.cells #[.int .i64 a, .int .i64 b, .int .i64 c] 23))) := ⟨(Mine.start w).alloc _ _⟩
  go_enter Tryd.func37, Tryd.ntmps37
  go_wp2_with (go_at_call 52; (with_reducible refine (rnone_any a b c _).mono ?_); rintro e w1 ⟨rfl, hb⟩; rw [h]; replace M := Aside.mk (M.out.next hb); clear hb; have z0 := Mine.at M.out 0 _ rfl; have z1 := Mine.at M.out 1 _ rfl; have z2 := Mine.at M.out 2 _ rfl; have zl := Mine.lt M.out)
  refine region_class (C := (fun w' => w'.cell? ⟨w.heap.size, 0, none⟩ = some (.int .i64 a) ∧ w'.cell? ⟨w.heap.size, 1, none⟩ = some (.int .i64 b) ∧ w'.cell? ⟨w.heap.size, 2, none⟩ = some (.int .i64 c) ∧ Below w.heap.size w w')) (by kernel_rfl) (by kernel_rfl) ⟨(M.out.drewN 1).at 0 _ rfl, (M.out.drewN 1).at 1 _ rfl, (M.out.drewN 1).at 2 _ rfl, (M.out.drewN 1).low⟩ ?_
  refine q_run ?_ ?_ ?_ ?_
  · kernel_rfl
  rotate_left
  · intro w_ hw_
    obtain ⟨c0, c1, c2, cb⟩ := hw_
    first | (go_simp; done) | (go_simp; with_reducible rfl) | (go_simp; rw [if_neg (by first | omega | (simp; omega))])
  try simp only [Act.put, List.setIfInBounds_toArray, List.set_cons_zero, List.set_cons_succ]
  try simp only [p0, p1, p2, h0, h1, h2, h3]
  refine q_run ?_ ?_ ?_ ?_
  · kernel_rfl
  rotate_left
  · intro w_ hw_
    obtain ⟨c0, c1, c2, cb⟩ := hw_
    first | (go_simp; done) | (go_simp; with_reducible rfl) | (go_simp; rw [if_neg (by first | omega | (simp; omega))])
  try simp only [Act.put, List.setIfInBounds_toArray, List.set_cons_zero, List.set_cons_succ]
  try simp only [p0, p1, p2, h0, h1, h2, h3]
  refine q_run ?_ ?_ ?_ ?_
  · kernel_rfl
  rotate_left
  · intro w_ hw_
    obtain ⟨c0, c1, c2, cb⟩ := hw_
    first | (go_simp; done) | (go_simp; with_reducible rfl) | (go_simp; rw [if_neg (by first | omega | (simp; omega))])
  try simp only [Act.put, List.setIfInBounds_toArray, List.set_cons_zero, List.set_cons_succ]
  try simp only [p0, p1, p2, h0, h1, h2, h3]
  refine q_run ?_ ?_ ?_ ?_
  · kernel_rfl
  rotate_left
  · intro w_ hw_
    obtain ⟨c0, c1, c2, cb⟩ := hw_
    first | (go_simp; done) | (go_simp; with_reducible rfl) | (go_simp; rw [if_neg (by first | omega | (simp; omega))])
  try simp only [Act.put, List.setIfInBounds_toArray, List.set_cons_zero, List.set_cons_succ]
  try simp only [p0, p1, p2, h0, h1, h2, h3]
  first
   | (refine q_skip ?_ ?_
      · rfl)
   | (refine q_run ?_ ?_ ?_ ?_
      · kernel_rfl
      rotate_left
      · intro w_ hw_
        obtain ⟨c0, c1, c2, cb⟩ := hw_
        first | (go_simp; done) | (go_simp; with_reducible rfl) | (go_simp; rw [if_neg (by first | omega | (simp; omega))]))
  try simp only [Act.put, List.setIfInBounds_toArray, List.set_cons_zero, List.set_cons_succ]
  try simp only [p0, p1, p2, h0, h1, h2, h3]
  first
   | (refine q_skip ?_ ?_
      · rfl)
   | (refine q_run ?_ ?_ ?_ ?_
      · kernel_rfl
      rotate_left
      · intro w_ hw_
        obtain ⟨c0, c1, c2, cb⟩ := hw_
        first | (go_simp; done) | (go_simp; with_reducible rfl) | (go_simp; rw [if_neg (by first | omega | (simp; omega))]))
  try simp only [Act.put, List.setIfInBounds_toArray, List.set_cons_zero, List.set_cons_succ]
  try simp only [p0, p1, p2, h0, h1, h2, h3]
  first
   | (refine q_skip ?_ ?_
      · rfl)
   | (refine q_run ?_ ?_ ?_ ?_
      · kernel_rfl
      rotate_left
      · intro w_ hw_
        obtain ⟨c0, c1, c2, cb⟩ := hw_
        first | (go_simp; done) | (go_simp; with_reducible rfl) | (go_simp; rw [if_neg (by first | omega | (simp; omega))]))
  try simp only [Act.put, List.setIfInBounds_toArray, List.set_cons_zero, List.set_cons_succ]
  try simp only [p0, p1, p2, h0, h1, h2, h3]
  refine q_run ?_ ?_ ?_ ?_
  · kernel_rfl
  rotate_left
  · intro w_ hw_
    obtain ⟨c0, c1, c2, cb⟩ := hw_
    first | (go_simp; done) | (go_simp; with_reducible rfl) | (go_simp; rw [if_neg (by first | omega | (simp; omega))])
  try simp only [Act.put, List.setIfInBounds_toArray, List.set_cons_zero, List.set_cons_succ]
  try simp only [p0, p1, p2, h0, h1, h2, h3]
  refine q_run ?_ ?_ ?_ ?_
  · kernel_rfl
  rotate_left
  · intro w_ hw_
    obtain ⟨c0, c1, c2, cb⟩ := hw_
    first | (go_simp; done) | (go_simp; with_reducible rfl) | (go_simp; rw [if_neg (by first | omega | (simp; omega))])
  try simp only [Act.put, List.setIfInBounds_toArray, List.set_cons_zero, List.set_cons_succ]
  try simp only [p0, p1, p2, h0, h1, h2, h3]
  first
   | (refine q_skip ?_ ?_
      · rfl)
   | (refine q_run ?_ ?_ ?_ ?_
      · kernel_rfl
      rotate_left
      · intro w_ hw_
        obtain ⟨c0, c1, c2, cb⟩ := hw_
        first | (go_simp; done) | (go_simp; with_reducible rfl) | (go_simp; rw [if_neg (by first | omega | (simp; omega))]))
  try simp only [Act.put, List.setIfInBounds_toArray, List.set_cons_zero, List.set_cons_succ]
  try simp only [p0, p1, p2, h0, h1, h2, h3]
  first
   | (refine q_skip ?_ ?_
      · rfl)
   | (refine q_run ?_ ?_ ?_ ?_
      · kernel_rfl
      rotate_left
      · intro w_ hw_
        obtain ⟨c0, c1, c2, cb⟩ := hw_
        first | (go_simp; done) | (go_simp; with_reducible rfl) | (go_simp; rw [if_neg (by first | omega | (simp; omega))]))
  try simp only [Act.put, List.setIfInBounds_toArray, List.set_cons_zero, List.set_cons_succ]
  try simp only [p0, p1, p2, h0, h1, h2, h3]
  first
   | (refine q_skip ?_ ?_
      · rfl)
   | (refine q_run ?_ ?_ ?_ ?_
      · kernel_rfl
      rotate_left
      · intro w_ hw_
        obtain ⟨c0, c1, c2, cb⟩ := hw_
        first | (go_simp; done) | (go_simp; with_reducible rfl) | (go_simp; rw [if_neg (by first | omega | (simp; omega))]))
  try simp only [Act.put, List.setIfInBounds_toArray, List.set_cons_zero, List.set_cons_succ]
  try simp only [p0, p1, p2, h0, h1, h2, h3]
  refine q_run ?_ ?_ ?_ ?_
  · kernel_rfl
  rotate_left
  · intro w_ hw_
    obtain ⟨c0, c1, c2, cb⟩ := hw_
    first | (go_simp; done) | (go_simp; with_reducible rfl) | (go_simp; rw [if_neg (by first | omega | (simp; omega))])
  try simp only [Act.put, List.setIfInBounds_toArray, List.set_cons_zero, List.set_cons_succ]
  try simp only [p0, p1, p2, h0, h1, h2, h3]
  refine q_run ?_ ?_ ?_ ?_
  · kernel_rfl
  rotate_left
  · intro w_ hw_
    obtain ⟨c0, c1, c2, cb⟩ := hw_
    first | (go_simp; done) | (go_simp; with_reducible rfl) | (go_simp; rw [if_neg (by first | omega | (simp; omega))])
  try simp only [Act.put, List.setIfInBounds_toArray, List.set_cons_zero, List.set_cons_succ]
  try simp only [p0, p1, p2, h0, h1, h2, h3]
  first
   | (refine q_skip ?_ ?_
      · rfl)
   | (refine q_run ?_ ?_ ?_ ?_
      · kernel_rfl
      rotate_left
      · intro w_ hw_
        obtain ⟨c0, c1, c2, cb⟩ := hw_
        first | (go_simp; done) | (go_simp; with_reducible rfl) | (go_simp; rw [if_neg (by first | omega | (simp; omega))]))
  try simp only [Act.put, List.setIfInBounds_toArray, List.set_cons_zero, List.set_cons_succ]
  try simp only [p0, p1, p2, h0, h1, h2, h3]
  first
   | (refine q_skip ?_ ?_
      · rfl)
   | (refine q_run ?_ ?_ ?_ ?_
      · kernel_rfl
      rotate_left
      · intro w_ hw_
        obtain ⟨c0, c1, c2, cb⟩ := hw_
        first | (go_simp; done) | (go_simp; with_reducible rfl) | (go_simp; rw [if_neg (by first | omega | (simp; omega))]))
  try simp only [Act.put, List.setIfInBounds_toArray, List.set_cons_zero, List.set_cons_succ]
  try simp only [p0, p1, p2, h0, h1, h2, h3]
  first
   | (refine q_skip ?_ ?_
      · rfl)
   | (refine q_run ?_ ?_ ?_ ?_
      · kernel_rfl
      rotate_left
      · intro w_ hw_
        obtain ⟨c0, c1, c2, cb⟩ := hw_
        first | (go_simp; done) | (go_simp; with_reducible rfl) | (go_simp; rw [if_neg (by first | omega | (simp; omega))]))
  try simp only [Act.put, List.setIfInBounds_toArray, List.set_cons_zero, List.set_cons_succ]
  try simp only [p0, p1, p2, h0, h1, h2, h3]
  first
   | (refine q_skip ?_ ?_
      · rfl)
   | (refine q_call ?_ (.int .i64 (Rp.cls code)) ?_ ?_ ?_ ?_ ?_
      · kernel_rfl
      rotate_left 2
      · intro w_ hw_
        go_simp
        refine ⟨?_, ?_⟩ <;> with_reducible rfl
      · intro w_ hw_
        obtain ⟨c0, c1, c2, cb⟩ := hw_
        exact ((rclass_any _ _).mono fun _ _ ⟨h1, h2⟩ => ⟨h1, h2 ▸ ⟨c0, c1, c2, cb⟩⟩))
  try simp only [Act.put, List.setIfInBounds_toArray, List.set_cons_zero, List.set_cons_succ]
  try simp only [p0, p1, p2, h0, h1, h2, h3]
  first
   | (refine q_skip ?_ ?_
      · rfl)
   | (refine q_run ?_ ?_ ?_ ?_
      · kernel_rfl
      rotate_left
      · intro w_ hw_
        obtain ⟨c0, c1, c2, cb⟩ := hw_
        first | (go_simp; done) | (go_simp; with_reducible rfl) | (go_simp; rw [if_neg (by first | omega | (simp; omega))]))
  try simp only [Act.put, List.setIfInBounds_toArray, List.set_cons_zero, List.set_cons_succ]
  try simp only [p0, p1, p2, h0, h1, h2, h3]
  refine q_run ?_ ?_ ?_ ?_
  · kernel_rfl
  rotate_left
  · intro w_ hw_
    obtain ⟨c0, c1, c2, cb⟩ := hw_
    first | (go_simp; done) | (go_simp; with_reducible rfl) | (go_simp; rw [if_neg (by first | omega | (simp; omega))])
  try simp only [Act.put, List.setIfInBounds_toArray, List.set_cons_zero, List.set_cons_succ]
  try simp only [p0, p1, p2, h0, h1, h2, h3]
  refine q_run ?_ ?_ ?_ ?_
  · kernel_rfl
  rotate_left
  · intro w_ hw_
    obtain ⟨c0, c1, c2, cb⟩ := hw_
    first | (go_simp; done) | (go_simp; with_reducible rfl) | (go_simp; rw [if_neg (by first | omega | (simp; omega))])
  try simp only [Act.put, List.setIfInBounds_toArray, List.set_cons_zero, List.set_cons_succ]
  try simp only [p0, p1, p2, h0, h1, h2, h3]
  first
   | (refine q_skip ?_ ?_
      · rfl)
   | (refine q_run ?_ ?_ ?_ ?_
      · kernel_rfl
      rotate_left
      · intro w_ hw_
        obtain ⟨c0, c1, c2, cb⟩ := hw_
        first | (go_simp; done) | (go_simp; with_reducible rfl) | (go_simp; rw [if_neg (by first | omega | (simp; omega))]))
  try simp only [Act.put, List.setIfInBounds_toArray, List.set_cons_zero, List.set_cons_succ]
  try simp only [p0, p1, p2, h0, h1, h2, h3]
  first
   | (refine q_skip ?_ ?_
      · rfl)
   | (refine q_run ?_ ?_ ?_ ?_
      · kernel_rfl
      rotate_left
      · intro w_ hw_
        obtain ⟨c0, c1, c2, cb⟩ := hw_
        first | (go_simp; done) | (go_simp; with_reducible rfl) | (go_simp; rw [if_neg (by first | omega | (simp; omega))]))
  try simp only [Act.put, List.setIfInBounds_toArray, List.set_cons_zero, List.set_cons_succ]
  try simp only [p0, p1, p2, h0, h1, h2, h3]
  first
   | (refine q_skip ?_ ?_
      · rfl)
   | (refine q_run ?_ ?_ ?_ ?_
      · kernel_rfl
      rotate_left
      · intro w_ hw_
        obtain ⟨c0, c1, c2, cb⟩ := hw_
        first | (go_simp; done) | (go_simp; with_reducible rfl) | (go_simp; rw [if_neg (by first | omega | (simp; omega))]))
  try simp only [Act.put, List.setIfInBounds_toArray, List.set_cons_zero, List.set_cons_succ]
  try simp only [p0, p1, p2, h0, h1, h2, h3]
  refine q_run ?_ ?_ ?_ ?_
  · kernel_rfl
  rotate_left
  · intro w_ hw_
    obtain ⟨c0, c1, c2, cb⟩ := hw_
    first | (go_simp; done) | (go_simp; with_reducible rfl) | (go_simp; rw [if_neg (by first | omega | (simp; omega))])
  try simp only [Act.put, List.setIfInBounds_toArray, List.set_cons_zero, List.set_cons_succ]
  try simp only [p0, p1, p2, h0, h1, h2, h3]
  refine q_run ?_ ?_ ?_ ?_
  · kernel_rfl
  rotate_left
  · intro w_ hw_
    obtain ⟨c0, c1, c2, cb⟩ := hw_
    first | (go_simp; done) | (go_simp; with_reducible rfl) | (go_simp; rw [if_neg (by first | omega | (simp; omega))])
  try simp only [Act.put, List.setIfInBounds_toArray, List.set_cons_zero, List.set_cons_succ]
  try simp only [p0, p1, p2, h0, h1, h2, h3]
  first
   | (refine q_skip ?_ ?_
      · rfl)
   | (refine q_run ?_ ?_ ?_ ?_
      · kernel_rfl
      rotate_left
      · intro w_ hw_
        obtain ⟨c0, c1, c2, cb⟩ := hw_
        first | (go_simp; done) | (go_simp; with_reducible rfl) | (go_simp; rw [if_neg (by first | omega | (simp; omega))]))
  try simp only [Act.put, List.setIfInBounds_toArray, List.set_cons_zero, List.set_cons_succ]
  try simp only [p0, p1, p2, h0, h1, h2, h3]
  first
   | (refine q_skip ?_ ?_
      · rfl)
   | (refine q_run ?_ ?_ ?_ ?_
      · kernel_rfl
      rotate_left
      · intro w_ hw_
        obtain ⟨c0, c1, c2, cb⟩ := hw_
        first | (go_simp; done) | (go_simp; with_reducible rfl) | (go_simp; rw [if_neg (by first | omega | (simp; omega))]))
  try simp only [Act.put, List.setIfInBounds_toArray, List.set_cons_zero, List.set_cons_succ]
  try simp only [p0, p1, p2, h0, h1, h2, h3]
  first
   | (refine q_skip ?_ ?_
      · rfl)
   | (refine q_run ?_ ?_ ?_ ?_
      · kernel_rfl
      rotate_left
      · intro w_ hw_
        obtain ⟨c0, c1, c2, cb⟩ := hw_
        first | (go_simp; done) | (go_simp; with_reducible rfl) | (go_simp; rw [if_neg (by first | omega | (simp; omega))]))
  try simp only [Act.put, List.setIfInBounds_toArray, List.set_cons_zero, List.set_cons_succ]
  try simp only [p0, p1, p2, h0, h1, h2, h3]
  refine q_run ?_ ?_ ?_ ?_
  · kernel_rfl
  rotate_left
  · intro w_ hw_
    obtain ⟨c0, c1, c2, cb⟩ := hw_
    first | (go_simp; done) | (go_simp; with_reducible rfl) | (go_simp; rw [if_neg (by first | omega | (simp; omega))])
  try simp only [Act.put, List.setIfInBounds_toArray, List.set_cons_zero, List.set_cons_succ]
  try simp only [p0, p1, p2, h0, h1, h2, h3]
  refine q_run ?_ ?_ ?_ ?_
  · kernel_rfl
  rotate_left
  · intro w_ hw_
    obtain ⟨c0, c1, c2, cb⟩ := hw_
    first | (go_simp; done) | (go_simp; with_reducible rfl) | (go_simp; rw [if_neg (by first | omega | (simp; omega))])
  try simp only [Act.put, List.setIfInBounds_toArray, List.set_cons_zero, List.set_cons_succ]
  try simp only [p0, p1, p2, h0, h1, h2, h3]
  first
   | (refine q_skip ?_ ?_
      · rfl)
   | (refine q_run ?_ ?_ ?_ ?_
      · kernel_rfl
      rotate_left
      · intro w_ hw_
        obtain ⟨c0, c1, c2, cb⟩ := hw_
        first | (go_simp; done) | (go_simp; with_reducible rfl) | (go_simp; rw [if_neg (by first | omega | (simp; omega))]))
  try simp only [Act.put, List.setIfInBounds_toArray, List.set_cons_zero, List.set_cons_succ]
  try simp only [p0, p1, p2, h0, h1, h2, h3]
  first
   | (refine q_skip ?_ ?_
      · rfl)
   | (refine q_run ?_ ?_ ?_ ?_
      · kernel_rfl
      rotate_left
      · intro w_ hw_
        obtain ⟨c0, c1, c2, cb⟩ := hw_
        first | (go_simp; done) | (go_simp; with_reducible rfl) | (go_simp; rw [if_neg (by first | omega | (simp; omega))]))
  try simp only [Act.put, List.setIfInBounds_toArray, List.set_cons_zero, List.set_cons_succ]
  try simp only [p0, p1, p2, h0, h1, h2, h3]
  first
   | (refine q_skip ?_ ?_
      · rfl)
   | (refine q_run ?_ ?_ ?_ ?_
      · kernel_rfl
      rotate_left
      · intro w_ hw_
        obtain ⟨c0, c1, c2, cb⟩ := hw_
        first | (go_simp; done) | (go_simp; with_reducible rfl) | (go_simp; rw [if_neg (by first | omega | (simp; omega))]))
  try simp only [Act.put, List.setIfInBounds_toArray, List.set_cons_zero, List.set_cons_succ]
  try simp only [p0, p1, p2, h0, h1, h2, h3]
  refine q_run ?_ ?_ ?_ ?_
  · kernel_rfl
  rotate_left
  · intro w_ hw_
    obtain ⟨c0, c1, c2, cb⟩ := hw_
    first | (go_simp; done) | (go_simp; with_reducible rfl) | (go_simp; rw [if_neg (by first | omega | (simp; omega))])
  try simp only [Act.put, List.setIfInBounds_toArray, List.set_cons_zero, List.set_cons_succ]
  try simp only [p0, p1, p2, h0, h1, h2, h3]
  refine q_run ?_ ?_ ?_ ?_
  · kernel_rfl
  rotate_left
  · intro w_ hw_
    obtain ⟨c0, c1, c2, cb⟩ := hw_
    first | (go_simp; done) | (go_simp; with_reducible rfl) | (go_simp; rw [if_neg (by first | omega | (simp; omega))])
  try simp only [Act.put, List.setIfInBounds_toArray, List.set_cons_zero, List.set_cons_succ]
  try simp only [p0, p1, p2, h0, h1, h2, h3]
  first
   | (refine q_skip ?_ ?_
      · rfl)
   | (refine q_run ?_ ?_ ?_ ?_
      · kernel_rfl
      rotate_left
      · intro w_ hw_
        obtain ⟨c0, c1, c2, cb⟩ := hw_
        first | (go_simp; done) | (go_simp; with_reducible rfl) | (go_simp; rw [if_neg (by first | omega | (simp; omega))]))
  try simp only [Act.put, List.setIfInBounds_toArray, List.set_cons_zero, List.set_cons_succ]
  try simp only [p0, p1, p2, h0, h1, h2, h3]
  first
   | (refine q_skip ?_ ?_
      · rfl)
   | (refine q_run ?_ ?_ ?_ ?_
      · kernel_rfl
      rotate_left
      · intro w_ hw_
        obtain ⟨c0, c1, c2, cb⟩ := hw_
        first | (go_simp; done) | (go_simp; with_reducible rfl) | (go_simp; rw [if_neg (by first | omega | (simp; omega))]))
  try simp only [Act.put, List.setIfInBounds_toArray, List.set_cons_zero, List.set_cons_succ]
  try simp only [p0, p1, p2, h0, h1, h2, h3]
  first
   | (refine q_skip ?_ ?_
      · rfl)
   | (refine q_run ?_ ?_ ?_ ?_
      · kernel_rfl
      rotate_left
      · intro w_ hw_
        obtain ⟨c0, c1, c2, cb⟩ := hw_
        first | (go_simp; done) | (go_simp; with_reducible rfl) | (go_simp; rw [if_neg (by first | omega | (simp; omega))]))
  try simp only [Act.put, List.setIfInBounds_toArray, List.set_cons_zero, List.set_cons_succ]
  try simp only [p0, p1, p2, h0, h1, h2, h3]
  refine q_run ?_ ?_ ?_ ?_
  · kernel_rfl
  rotate_left
  · intro w_ hw_
    obtain ⟨c0, c1, c2, cb⟩ := hw_
    first | (go_simp; done) | (go_simp; with_reducible rfl) | (go_simp; rw [if_neg (by first | omega | (simp; omega))])
  try simp only [Act.put, List.setIfInBounds_toArray, List.set_cons_zero, List.set_cons_succ]
  try simp only [p0, p1, p2, h0, h1, h2, h3]
  refine q_run ?_ ?_ ?_ ?_
  · kernel_rfl
  rotate_left
  · intro w_ hw_
    obtain ⟨c0, c1, c2, cb⟩ := hw_
    first | (go_simp; done) | (go_simp; with_reducible rfl) | (go_simp; rw [if_neg (by first | omega | (simp; omega))])
  try simp only [Act.put, List.setIfInBounds_toArray, List.set_cons_zero, List.set_cons_succ]
  try simp only [p0, p1, p2, h0, h1, h2, h3]
  refine q_nil ?_
  intro W_ hC_
  go_wp2
  go_ret
  exact ⟨rfl, hC_.2.2.2⟩
set_option maxHeartbeats 4000000 in
theorem rfits_g2k4 (code a b c : Int) (h : Rp.none3 a b c = false) (p0 : (a == 2) = false) (p1 : (a == 4) = false) (p2 : (a == 5) = true) (h0 : ((a : Int) == Rp.cls code) = true) (h1 : decide (0 ≤ b) = true) (h2 : decide (b < 1000) = true) (h3 : decide (0 ≤ c) = true) (h4 : decide (c < 1000) = false) (w : World) : Calls Tryd.prog 37 #[.int .i64 code, .agg #[.int .i64 a, .int .i64 b, .int .i64 c]] w fun e w' => e = .returned (.bool false) ∧ Below w.heap.size w w' := by
  have M : Aside (Mine w [(w.heap.size, #[.int .i64 a, .int .i64 b, .int .i64 c], 23)] (w.alloc (.cells #[.int .i64 a, .int .i64 b, .int .i64 c] 23))) := ⟨(Mine.start w).alloc _ _⟩
  go_enter Tryd.func37, Tryd.ntmps37
  go_wp2_with (go_at_call 52; (with_reducible refine (rnone_any a b c _).mono ?_); rintro e w1 ⟨rfl, hb⟩; rw [h]; replace M := Aside.mk (M.out.next hb); clear hb; have z0 := Mine.at M.out 0 _ rfl; have z1 := Mine.at M.out 1 _ rfl; have z2 := Mine.at M.out 2 _ rfl; have zl := Mine.lt M.out)
  refine region_class (C := (fun w' => w'.cell? ⟨w.heap.size, 0, none⟩ = some (.int .i64 a) ∧ w'.cell? ⟨w.heap.size, 1, none⟩ = some (.int .i64 b) ∧ w'.cell? ⟨w.heap.size, 2, none⟩ = some (.int .i64 c) ∧ Below w.heap.size w w')) (by kernel_rfl) (by kernel_rfl) ⟨(M.out.drewN 1).at 0 _ rfl, (M.out.drewN 1).at 1 _ rfl, (M.out.drewN 1).at 2 _ rfl, (M.out.drewN 1).low⟩ ?_
  refine q_run ?_ ?_ ?_ ?_
  · kernel_rfl
  rotate_left
  · intro w_ hw_
    obtain ⟨c0, c1, c2, cb⟩ := hw_
    first | (go_simp; done) | (go_simp; with_reducible rfl) | (go_simp; rw [if_neg (by first | omega | (simp; omega))])
  try simp only [Act.put, List.setIfInBounds_toArray, List.set_cons_zero, List.set_cons_succ]
  try simp only [p0, p1, p2, h0, h1, h2, h3, h4]
  refine q_run ?_ ?_ ?_ ?_
  · kernel_rfl
  rotate_left
  · intro w_ hw_
    obtain ⟨c0, c1, c2, cb⟩ := hw_
    first | (go_simp; done) | (go_simp; with_reducible rfl) | (go_simp; rw [if_neg (by first | omega | (simp; omega))])
  try simp only [Act.put, List.setIfInBounds_toArray, List.set_cons_zero, List.set_cons_succ]
  try simp only [p0, p1, p2, h0, h1, h2, h3, h4]
  refine q_run ?_ ?_ ?_ ?_
  · kernel_rfl
  rotate_left
  · intro w_ hw_
    obtain ⟨c0, c1, c2, cb⟩ := hw_
    first | (go_simp; done) | (go_simp; with_reducible rfl) | (go_simp; rw [if_neg (by first | omega | (simp; omega))])
  try simp only [Act.put, List.setIfInBounds_toArray, List.set_cons_zero, List.set_cons_succ]
  try simp only [p0, p1, p2, h0, h1, h2, h3, h4]
  refine q_run ?_ ?_ ?_ ?_
  · kernel_rfl
  rotate_left
  · intro w_ hw_
    obtain ⟨c0, c1, c2, cb⟩ := hw_
    first | (go_simp; done) | (go_simp; with_reducible rfl) | (go_simp; rw [if_neg (by first | omega | (simp; omega))])
  try simp only [Act.put, List.setIfInBounds_toArray, List.set_cons_zero, List.set_cons_succ]
  try simp only [p0, p1, p2, h0, h1, h2, h3, h4]
  first
   | (refine q_skip ?_ ?_
      · rfl)
   | (refine q_run ?_ ?_ ?_ ?_
      · kernel_rfl
      rotate_left
      · intro w_ hw_
        obtain ⟨c0, c1, c2, cb⟩ := hw_
        first | (go_simp; done) | (go_simp; with_reducible rfl) | (go_simp; rw [if_neg (by first | omega | (simp; omega))]))
  try simp only [Act.put, List.setIfInBounds_toArray, List.set_cons_zero, List.set_cons_succ]
  try simp only [p0, p1, p2, h0, h1, h2, h3, h4]
  first
   | (refine q_skip ?_ ?_
      · rfl)
   | (refine q_run ?_ ?_ ?_ ?_
      · kernel_rfl
      rotate_left
      · intro w_ hw_
        obtain ⟨c0, c1, c2, cb⟩ := hw_
        first | (go_simp; done) | (go_simp; with_reducible rfl) | (go_simp; rw [if_neg (by first | omega | (simp; omega))]))
  try simp only [Act.put, List.setIfInBounds_toArray, List.set_cons_zero, List.set_cons_succ]
  try simp only [p0, p1, p2, h0, h1, h2, h3, h4]
  first
   | (refine q_skip ?_ ?_
      · rfl)
   | (refine q_run ?_ ?_ ?_ ?_
      · kernel_rfl
      rotate_left
      · intro w_ hw_
        obtain ⟨c0, c1, c2, cb⟩ := hw_
        first | (go_simp; done) | (go_simp; with_reducible rfl) | (go_simp; rw [if_neg (by first | omega | (simp; omega))]))
  try simp only [Act.put, List.setIfInBounds_toArray, List.set_cons_zero, List.set_cons_succ]
  try simp only [p0, p1, p2, h0, h1, h2, h3, h4]
  refine q_run ?_ ?_ ?_ ?_
  · kernel_rfl
  rotate_left
  · intro w_ hw_
    obtain ⟨c0, c1, c2, cb⟩ := hw_
    first | (go_simp; done) | (go_simp; with_reducible rfl) | (go_simp; rw [if_neg (by first | omega | (simp; omega))])
  try simp only [Act.put, List.setIfInBounds_toArray, List.set_cons_zero, List.set_cons_succ]
  try simp only [p0, p1, p2, h0, h1, h2, h3, h4]
  refine q_run ?_ ?_ ?_ ?_
  · kernel_rfl
  rotate_left
  · intro w_ hw_
    obtain ⟨c0, c1, c2, cb⟩ := hw_
    first | (go_simp; done) | (go_simp; with_reducible rfl) | (go_simp; rw [if_neg (by first | omega | (simp; omega))])
  try simp only [Act.put, List.setIfInBounds_toArray, List.set_cons_zero, List.set_cons_succ]
  try simp only [p0, p1, p2, h0, h1, h2, h3, h4]
  first
   | (refine q_skip ?_ ?_
      · rfl)
   | (refine q_run ?_ ?_ ?_ ?_
      · kernel_rfl
      rotate_left
      · intro w_ hw_
        obtain ⟨c0, c1, c2, cb⟩ := hw_
        first | (go_simp; done) | (go_simp; with_reducible rfl) | (go_simp; rw [if_neg (by first | omega | (simp; omega))]))
  try simp only [Act.put, List.setIfInBounds_toArray, List.set_cons_zero, List.set_cons_succ]
  try simp only [p0, p1, p2, h0, h1, h2, h3, h4]
  first
   | (refine q_skip ?_ ?_
      · rfl)
   | (refine q_run ?_ ?_ ?_ ?_
      · kernel_rfl
      rotate_left
      · intro w_ hw_
        obtain ⟨c0, c1, c2, cb⟩ := hw_
        first | (go_simp; done) | (go_simp; with_reducible rfl) | (go_simp; rw [if_neg (by first | omega | (simp; omega))]))
  try simp only [Act.put, List.setIfInBounds_toArray, List.set_cons_zero, List.set_cons_succ]
  try simp only [p0, p1, p2, h0, h1, h2, h3, h4]
  first
   | (refine q_skip ?_ ?_
      · rfl)
   | (refine q_run ?_ ?_ ?_ ?_
      · kernel_rfl
      rotate_left
      · intro w_ hw_
        obtain ⟨c0, c1, c2, cb⟩ := hw_
        first | (go_simp; done) | (go_simp; with_reducible rfl) | (go_simp; rw [if_neg (by first | omega | (simp; omega))]))
  try simp only [Act.put, List.setIfInBounds_toArray, List.set_cons_zero, List.set_cons_succ]
  try simp only [p0, p1, p2, h0, h1, h2, h3, h4]
  refine q_run ?_ ?_ ?_ ?_
  · kernel_rfl
  rotate_left
  · intro w_ hw_
    obtain ⟨c0, c1, c2, cb⟩ := hw_
    first | (go_simp; done) | (go_simp; with_reducible rfl) | (go_simp; rw [if_neg (by first | omega | (simp; omega))])
  try simp only [Act.put, List.setIfInBounds_toArray, List.set_cons_zero, List.set_cons_succ]
  try simp only [p0, p1, p2, h0, h1, h2, h3, h4]
  refine q_run ?_ ?_ ?_ ?_
  · kernel_rfl
  rotate_left
  · intro w_ hw_
    obtain ⟨c0, c1, c2, cb⟩ := hw_
    first | (go_simp; done) | (go_simp; with_reducible rfl) | (go_simp; rw [if_neg (by first | omega | (simp; omega))])
  try simp only [Act.put, List.setIfInBounds_toArray, List.set_cons_zero, List.set_cons_succ]
  try simp only [p0, p1, p2, h0, h1, h2, h3, h4]
  first
   | (refine q_skip ?_ ?_
      · rfl)
   | (refine q_run ?_ ?_ ?_ ?_
      · kernel_rfl
      rotate_left
      · intro w_ hw_
        obtain ⟨c0, c1, c2, cb⟩ := hw_
        first | (go_simp; done) | (go_simp; with_reducible rfl) | (go_simp; rw [if_neg (by first | omega | (simp; omega))]))
  try simp only [Act.put, List.setIfInBounds_toArray, List.set_cons_zero, List.set_cons_succ]
  try simp only [p0, p1, p2, h0, h1, h2, h3, h4]
  first
   | (refine q_skip ?_ ?_
      · rfl)
   | (refine q_run ?_ ?_ ?_ ?_
      · kernel_rfl
      rotate_left
      · intro w_ hw_
        obtain ⟨c0, c1, c2, cb⟩ := hw_
        first | (go_simp; done) | (go_simp; with_reducible rfl) | (go_simp; rw [if_neg (by first | omega | (simp; omega))]))
  try simp only [Act.put, List.setIfInBounds_toArray, List.set_cons_zero, List.set_cons_succ]
  try simp only [p0, p1, p2, h0, h1, h2, h3, h4]
  first
   | (refine q_skip ?_ ?_
      · rfl)
   | (refine q_run ?_ ?_ ?_ ?_
      · kernel_rfl
      rotate_left
      · intro w_ hw_
        obtain ⟨c0, c1, c2, cb⟩ := hw_
        first | (go_simp; done) | (go_simp; with_reducible rfl) | (go_simp; rw [if_neg (by first | omega | (simp; omega))]))
  try simp only [Act.put, List.setIfInBounds_toArray, List.set_cons_zero, List.set_cons_succ]
  try simp only [p0, p1, p2, h0, h1, h2, h3, h4]
  first
   | (refine q_skip ?_ ?_
      · rfl)
   | (refine q_call ?_ (.int .i64 (Rp.cls code)) ?_ ?_ ?_ ?_ ?_
      · kernel_rfl
      rotate_left 2
      · intro w_ hw_
        go_simp
        refine ⟨?_, ?_⟩ <;> with_reducible rfl
      · intro w_ hw_
        obtain ⟨c0, c1, c2, cb⟩ := hw_
        exact ((rclass_any _ _).mono fun _ _ ⟨h1, h2⟩ => ⟨h1, h2 ▸ ⟨c0, c1, c2, cb⟩⟩))
  try simp only [Act.put, List.setIfInBounds_toArray, List.set_cons_zero, List.set_cons_succ]
  try simp only [p0, p1, p2, h0, h1, h2, h3, h4]
  first
   | (refine q_skip ?_ ?_
      · rfl)
   | (refine q_run ?_ ?_ ?_ ?_
      · kernel_rfl
      rotate_left
      · intro w_ hw_
        obtain ⟨c0, c1, c2, cb⟩ := hw_
        first | (go_simp; done) | (go_simp; with_reducible rfl) | (go_simp; rw [if_neg (by first | omega | (simp; omega))]))
  try simp only [Act.put, List.setIfInBounds_toArray, List.set_cons_zero, List.set_cons_succ]
  try simp only [p0, p1, p2, h0, h1, h2, h3, h4]
  refine q_run ?_ ?_ ?_ ?_
  · kernel_rfl
  rotate_left
  · intro w_ hw_
    obtain ⟨c0, c1, c2, cb⟩ := hw_
    first | (go_simp; done) | (go_simp; with_reducible rfl) | (go_simp; rw [if_neg (by first | omega | (simp; omega))])
  try simp only [Act.put, List.setIfInBounds_toArray, List.set_cons_zero, List.set_cons_succ]
  try simp only [p0, p1, p2, h0, h1, h2, h3, h4]
  refine q_run ?_ ?_ ?_ ?_
  · kernel_rfl
  rotate_left
  · intro w_ hw_
    obtain ⟨c0, c1, c2, cb⟩ := hw_
    first | (go_simp; done) | (go_simp; with_reducible rfl) | (go_simp; rw [if_neg (by first | omega | (simp; omega))])
  try simp only [Act.put, List.setIfInBounds_toArray, List.set_cons_zero, List.set_cons_succ]
  try simp only [p0, p1, p2, h0, h1, h2, h3, h4]
  first
   | (refine q_skip ?_ ?_
      · rfl)
   | (refine q_run ?_ ?_ ?_ ?_
      · kernel_rfl
      rotate_left
      · intro w_ hw_
        obtain ⟨c0, c1, c2, cb⟩ := hw_
        first | (go_simp; done) | (go_simp; with_reducible rfl) | (go_simp; rw [if_neg (by first | omega | (simp; omega))]))
  try simp only [Act.put, List.setIfInBounds_toArray, List.set_cons_zero, List.set_cons_succ]
  try simp only [p0, p1, p2, h0, h1, h2, h3, h4]
  first
   | (refine q_skip ?_ ?_
      · rfl)
   | (refine q_run ?_ ?_ ?_ ?_
      · kernel_rfl
      rotate_left
      · intro w_ hw_
        obtain ⟨c0, c1, c2, cb⟩ := hw_
        first | (go_simp; done) | (go_simp; with_reducible rfl) | (go_simp; rw [if_neg (by first | omega | (simp; omega))]))
  try simp only [Act.put, List.setIfInBounds_toArray, List.set_cons_zero, List.set_cons_succ]
  try simp only [p0, p1, p2, h0, h1, h2, h3, h4]
  first
   | (refine q_skip ?_ ?_
      · rfl)
   | (refine q_run ?_ ?_ ?_ ?_
      · kernel_rfl
      rotate_left
      · intro w_ hw_
        obtain ⟨c0, c1, c2, cb⟩ := hw_
        first | (go_simp; done) | (go_simp; with_reducible rfl) | (go_simp; rw [if_neg (by first | omega | (simp; omega))]))
  try simp only [Act.put, List.setIfInBounds_toArray, List.set_cons_zero, List.set_cons_succ]
  try simp only [p0, p1, p2, h0, h1, h2, h3, h4]
  refine q_run ?_ ?_ ?_ ?_
  · kernel_rfl
  rotate_left
  · intro w_ hw_
    obtain ⟨c0, c1, c2, cb⟩ := hw_
    first | (go_simp; done) | (go_simp; with_reducible rfl) | (go_simp; rw [if_neg (by first | omega | (simp; omega))])
  try simp only [Act.put, List.setIfInBounds_toArray, List.set_cons_zero, List.set_cons_succ]
  try simp only [p0, p1, p2, h0, h1, h2, h3, h4]
  refine q_run ?_ ?_ ?_ ?_
  · kernel_rfl
  rotate_left
  · intro w_ hw_
    obtain ⟨c0, c1, c2, cb⟩ := hw_
    first | (go_simp; done) | (go_simp; with_reducible rfl) | (go_simp; rw [if_neg (by first | omega | (simp; omega))])
  try simp only [Act.put, List.setIfInBounds_toArray, List.set_cons_zero, List.set_cons_succ]
  try simp only [p0, p1, p2, h0, h1, h2, h3, h4]
  first
   | (refine q_skip ?_ ?_
      · rfl)
   | (refine q_run ?_ ?_ ?_ ?_
      · kernel_rfl
      rotate_left
      · intro w_ hw_
        obtain ⟨c0, c1, c2, cb⟩ := hw_
        first | (go_simp; done) | (go_simp; with_reducible rfl) | (go_simp; rw [if_neg (by first | omega | (simp; omega))]))
  try simp only [Act.put, List.setIfInBounds_toArray, List.set_cons_zero, List.set_cons_succ]
  try simp only [p0, p1, p2, h0, h1, h2, h3, h4]
  first
   | (refine q_skip ?_ ?_
      · rfl)
   | (refine q_run ?_ ?_ ?_ ?_
      · kernel_rfl
      rotate_left
      · intro w_ hw_
        obtain ⟨c0, c1, c2, cb⟩ := hw_
        first | (go_simp; done) | (go_simp; with_reducible rfl) | (go_simp; rw [if_neg (by first | omega | (simp; omega))]))
  try simp only [Act.put, List.setIfInBounds_toArray, List.set_cons_zero, List.set_cons_succ]
  try simp only [p0, p1, p2, h0, h1, h2, h3, h4]
  first
   | (refine q_skip ?_ ?_
      · rfl)
   | (refine q_run ?_ ?_ ?_ ?_
      · kernel_rfl
      rotate_left
      · intro w_ hw_
        obtain ⟨c0, c1, c2, cb⟩ := hw_
        first | (go_simp; done) | (go_simp; with_reducible rfl) | (go_simp; rw [if_neg (by first | omega | (simp; omega))]))
  try simp only [Act.put, List.setIfInBounds_toArray, List.set_cons_zero, List.set_cons_succ]
  try simp only [p0, p1, p2, h0, h1, h2, h3, h4]
  refine q_run ?_ ?_ ?_ ?_
  · kernel_rfl
  rotate_left
  · intro w_ hw_
    obtain ⟨c0, c1, c2, cb⟩ := hw_
    first | (go_simp; done) | (go_simp; with_reducible rfl) | (go_simp; rw [if_neg (by first | omega | (simp; omega))])
  try simp only [Act.put, List.setIfInBounds_toArray, List.set_cons_zero, List.set_cons_succ]
  try simp only [p0, p1, p2, h0, h1, h2, h3, h4]
  refine q_run ?_ ?_ ?_ ?_
  · kernel_rfl
  rotate_left
  · intro w_ hw_
    obtain ⟨c0, c1, c2, cb⟩ := hw_
    first | (go_simp; done) | (go_simp; with_reducible rfl) | (go_simp; rw [if_neg (by first | omega | (simp; omega))])
  try simp only [Act.put, List.setIfInBounds_toArray, List.set_cons_zero, List.set_cons_succ]
  try simp only [p0, p1, p2, h0, h1, h2, h3, h4]
  first
   | (refine q_skip ?_ ?_
      · rfl)
   | (refine q_run ?_ ?_ ?_ ?_
      · kernel_rfl
      rotate_left
      · intro w_ hw_
        obtain ⟨c0, c1, c2, cb⟩ := hw_
        first | (go_simp; done) | (go_simp; with_reducible rfl) | (go_simp; rw [if_neg (by first | omega | (simp; omega))]))
  try simp only [Act.put, List.setIfInBounds_toArray, List.set_cons_zero, List.set_cons_succ]
  try simp only [p0, p1, p2, h0, h1, h2, h3, h4]
  first
   | (refine q_skip ?_ ?_
      · rfl)
   | (refine q_run ?_ ?_ ?_ ?_
      · kernel_rfl
      rotate_left
      · intro w_ hw_
        obtain ⟨c0, c1, c2, cb⟩ := hw_
        first | (go_simp; done) | (go_simp; with_reducible rfl) | (go_simp; rw [if_neg (by first | omega | (simp; omega))]))
  try simp only [Act.put, List.setIfInBounds_toArray, List.set_cons_zero, List.set_cons_succ]
  try simp only [p0, p1, p2, h0, h1, h2, h3, h4]
  first
   | (refine q_skip ?_ ?_
      · rfl)
   | (refine q_run ?_ ?_ ?_ ?_
      · kernel_rfl
      rotate_left
      · intro w_ hw_
        obtain ⟨c0, c1, c2, cb⟩ := hw_
        first | (go_simp; done) | (go_simp; with_reducible rfl) | (go_simp; rw [if_neg (by first | omega | (simp; omega))]))
  try simp only [Act.put, List.setIfInBounds_toArray, List.set_cons_zero, List.set_cons_succ]
  try simp only [p0, p1, p2, h0, h1, h2, h3, h4]
  refine q_run ?_ ?_ ?_ ?_
  · kernel_rfl
  rotate_left
  · intro w_ hw_
    obtain ⟨c0, c1, c2, cb⟩ := hw_
    first | (go_simp; done) | (go_simp; with_reducible rfl) | (go_simp; rw [if_neg (by first | omega | (simp; omega))])
  try simp only [Act.put, List.setIfInBounds_toArray, List.set_cons_zero, List.set_cons_succ]
  try simp only [p0, p1, p2, h0, h1, h2, h3, h4]
  refine q_run ?_ ?_ ?_ ?_
  · kernel_rfl
  rotate_left
  · intro w_ hw_
    obtain ⟨c0, c1, c2, cb⟩ := hw_
    first | (go_simp; done) | (go_simp; with_reducible rfl) | (go_simp; rw [if_neg (by first | omega | (simp; omega))])
  try simp only [Act.put, List.setIfInBounds_toArray, List.set_cons_zero, List.set_cons_succ]
  try simp only [p0, p1, p2, h0, h1, h2, h3, h4]
  first
   | (refine q_skip ?_ ?_
      · rfl)
   | (refine q_run ?_ ?_ ?_ ?_
      · kernel_rfl
      rotate_left
      · intro w_ hw_
        obtain ⟨c0, c1, c2, cb⟩ := hw_
        first | (go_simp; done) | (go_simp; with_reducible rfl) | (go_simp; rw [if_neg (by first | omega | (simp; omega))]))
  try simp only [Act.put, List.setIfInBounds_toArray, List.set_cons_zero, List.set_cons_succ]
  try simp only [p0, p1, p2, h0, h1, h2, h3, h4]
  first
   | (refine q_skip ?_ ?_
      · rfl)
   | (refine q_run ?_ ?_ ?_ ?_
      · kernel_rfl
      rotate_left
      · intro w_ hw_
        obtain ⟨c0, c1, c2, cb⟩ := hw_
        first | (go_simp; done) | (go_simp; with_reducible rfl) | (go_simp; rw [if_neg (by first | omega | (simp; omega))]))
  try simp only [Act.put, List.setIfInBounds_toArray, List.set_cons_zero, List.set_cons_succ]
  try simp only [p0, p1, p2, h0, h1, h2, h3, h4]
  first
   | (refine q_skip ?_ ?_
      · rfl)
   | (refine q_run ?_ ?_ ?_ ?_
      · kernel_rfl
      rotate_left
      · intro w_ hw_
        obtain ⟨c0, c1, c2, cb⟩ := hw_
        first | (go_simp; done) | (go_simp; with_reducible rfl) | (go_simp; rw [if_neg (by first | omega | (simp; omega))]))
  try simp only [Act.put, List.setIfInBounds_toArray, List.set_cons_zero, List.set_cons_succ]
  try simp only [p0, p1, p2, h0, h1, h2, h3, h4]
  refine q_run ?_ ?_ ?_ ?_
  · kernel_rfl
  rotate_left
  · intro w_ hw_
    obtain ⟨c0, c1, c2, cb⟩ := hw_
    first | (go_simp; done) | (go_simp; with_reducible rfl) | (go_simp; rw [if_neg (by first | omega | (simp; omega))])
  try simp only [Act.put, List.setIfInBounds_toArray, List.set_cons_zero, List.set_cons_succ]
  try simp only [p0, p1, p2, h0, h1, h2, h3, h4]
  refine q_run ?_ ?_ ?_ ?_
  · kernel_rfl
  rotate_left
  · intro w_ hw_
    obtain ⟨c0, c1, c2, cb⟩ := hw_
    first | (go_simp; done) | (go_simp; with_reducible rfl) | (go_simp; rw [if_neg (by first | omega | (simp; omega))])
  try simp only [Act.put, List.setIfInBounds_toArray, List.set_cons_zero, List.set_cons_succ]
  try simp only [p0, p1, p2, h0, h1, h2, h3, h4]
  refine q_nil ?_
  intro W_ hC_
  go_wp2
  go_ret
  exact ⟨rfl, hC_.2.2.2⟩
set_option maxHeartbeats 4000000 in
theorem rfits_g2k5 (code a b c : Int) (h : Rp.none3 a b c = false) (p0 : (a == 2) = false) (p1 : (a == 4) = false) (p2 : (a == 5) = true) (h0 : ((a : Int) == Rp.cls code) = true) (h1 : decide (0 ≤ b) = true) (h2 : decide (b < 1000) = true) (h3 : decide (0 ≤ c) = true) (h4 : decide (c < 1000) = true) (w : World) : Calls Tryd.prog 37 #[.int .i64 code, .agg #[.int .i64 a, .int .i64 b, .int .i64 c]] w fun e w' => e = .returned (.bool true) ∧ Below w.heap.size w w' := by
  have M : Aside (Mine w [(w.heap.size, #[.int .i64 a, .int .i64 b, .int .i64 c], 23)] (w.alloc (.cells #[.int .i64 a, .int .i64 b, .int .i64 c] 23))) := ⟨(Mine.start w).alloc _ _⟩
  go_enter Tryd.func37, Tryd.ntmps37
  go_wp2_with (go_at_call 52; (with_reducible refine (rnone_any a b c _).mono ?_); rintro e w1 ⟨rfl, hb⟩; rw [h]; replace M := Aside.mk (M.out.next hb); clear hb; have z0 := Mine.at M.out 0 _ rfl; have z1 := Mine.at M.out 1 _ rfl; have z2 := Mine.at M.out 2 _ rfl; have zl := Mine.lt M.out)
  refine region_class (C := (fun w' => w'.cell? ⟨w.heap.size, 0, none⟩ = some (.int .i64 a) ∧ w'.cell? ⟨w.heap.size, 1, none⟩ = some (.int .i64 b) ∧ w'.cell? ⟨w.heap.size, 2, none⟩ = some (.int .i64 c) ∧ Below w.heap.size w w')) (by kernel_rfl) (by kernel_rfl) ⟨(M.out.drewN 1).at 0 _ rfl, (M.out.drewN 1).at 1 _ rfl, (M.out.drewN 1).at 2 _ rfl, (M.out.drewN 1).low⟩ ?_
  refine q_run ?_ ?_ ?_ ?_
  · kernel_rfl
  rotate_left
  · intro w_ hw_
    obtain ⟨c0, c1, c2, cb⟩ := hw_
    first | (go_simp; done) | (go_simp; with_reducible rfl) | (go_simp; rw [if_neg (by first | omega | (simp; omega))])
  try simp only [Act.put, List.setIfInBounds_toArray, List.set_cons_zero, List.set_cons_succ]
  try simp only [p0, p1, p2, h0, h1, h2, h3, h4]
  refine q_run ?_ ?_ ?_ ?_
  · kernel_rfl
  rotate_left
  · intro w_ hw_
    obtain ⟨c0, c1, c2, cb⟩ := hw_
    first | (go_simp; done) | (go_simp; with_reducible rfl) | (go_simp; rw [if_neg (by first | omega | (simp; omega))])
  try simp only [Act.put, List.setIfInBounds_toArray, List.set_cons_zero, List.set_cons_succ]
  try simp only [p0, p1, p2, h0, h1, h2, h3, h4]
  refine q_run ?_ ?_ ?_ ?_
  · kernel_rfl
  rotate_left
  · intro w_ hw_
    obtain ⟨c0, c1, c2, cb⟩ := hw_
    first | (go_simp; done) | (go_simp; with_reducible rfl) | (go_simp; rw [if_neg (by first | omega | (simp; omega))])
  try simp only [Act.put, List.setIfInBounds_toArray, List.set_cons_zero, List.set_cons_succ]
  try simp only [p0, p1, p2, h0, h1, h2, h3, h4]
  refine q_run ?_ ?_ ?_ ?_
  · kernel_rfl
  rotate_left
  · intro w_ hw_
    obtain ⟨c0, c1, c2, cb⟩ := hw_
    first | (go_simp; done) | (go_simp; with_reducible rfl) | (go_simp; rw [if_neg (by first | omega | (simp; omega))])
  try simp only [Act.put, List.setIfInBounds_toArray, List.set_cons_zero, List.set_cons_succ]
  try simp only [p0, p1, p2, h0, h1, h2, h3, h4]
  first
   | (refine q_skip ?_ ?_
      · rfl)
   | (refine q_run ?_ ?_ ?_ ?_
      · kernel_rfl
      rotate_left
      · intro w_ hw_
        obtain ⟨c0, c1, c2, cb⟩ := hw_
        first | (go_simp; done) | (go_simp; with_reducible rfl) | (go_simp; rw [if_neg (by first | omega | (simp; omega))]))
  try simp only [Act.put, List.setIfInBounds_toArray, List.set_cons_zero, List.set_cons_succ]
  try simp only [p0, p1, p2, h0, h1, h2, h3, h4]
  first
   | (refine q_skip ?_ ?_
      · rfl)
   | (refine q_run ?_ ?_ ?_ ?_
      · kernel_rfl
      rotate_left
      · intro w_ hw_
        obtain ⟨c0, c1, c2, cb⟩ := hw_
        first | (go_simp; done) | (go_simp; with_reducible rfl) | (go_simp; rw [if_neg (by first | omega | (simp; omega))]))
  try simp only [Act.put, List.setIfInBounds_toArray, List.set_cons_zero, List.set_cons_succ]
  try simp only [p0, p1, p2, h0, h1, h2, h3, h4]
  first
   | (refine q_skip ?_ ?_
      · rfl)
   | (refine q_run ?_ ?_ ?_ ?_
      · kernel_rfl
      rotate_left
      · intro w_ hw_
        obtain ⟨c0, c1, c2, cb⟩ := hw_
        first | (go_simp; done) | (go_simp; with_reducible rfl) | (go_simp; rw [if_neg (by first | omega | (simp; omega))]))
  try simp only [Act.put, List.setIfInBounds_toArray, List.set_cons_zero, List.set_cons_succ]
  try simp only [p0, p1, p2, h0, h1, h2, h3, h4]
  refine q_run ?_ ?_ ?_ ?_
  · kernel_rfl
  rotate_left
  · intro w_ hw_
    obtain ⟨c0, c1, c2, cb⟩ := hw_
    first | (go_simp; done) | (go_simp; with_reducible rfl) | (go_simp; rw [if_neg (by first | omega | (simp; omega))])
  try simp only [Act.put, List.setIfInBounds_toArray, List.set_cons_zero, List.set_cons_succ]
  try simp only [p0, p1, p2, h0, h1, h2, h3, h4]
  refine q_run ?_ ?_ ?_ ?_
  · kernel_rfl
  rotate_left
  · intro w_ hw_
    obtain ⟨c0, c1, c2, cb⟩ := hw_
    first | (go_simp; done) | (go_simp; with_reducible rfl) | (go_simp; rw [if_neg (by first | omega | (simp; omega))])
  try simp only [Act.put, List.setIfInBounds_toArray, List.set_cons_zero, List.set_cons_succ]
  try simp only [p0, p1, p2, h0, h1, h2, h3, h4]
  first
   | (refine q_skip ?_ ?_
      · rfl)
   | (refine q_run ?_ ?_ ?_ ?_
      · kernel_rfl
      rotate_left
      · intro w_ hw_
        obtain ⟨c0, c1, c2, cb⟩ := hw_
        first | (go_simp; done) | (go_simp; with_reducible rfl) | (go_simp; rw [if_neg (by first | omega | (simp; omega))]))
  try simp only [Act.put, List.setIfInBounds_toArray, List.set_cons_zero, List.set_cons_succ]
  try simp only [p0, p1, p2, h0, h1, h2, h3, h4]
  first
   | (refine q_skip ?_ ?_
      · rfl)
   | (refine q_run ?_ ?_ ?_ ?_
      · kernel_rfl
      rotate_left
      · intro w_ hw_
        obtain ⟨c0, c1, c2, cb⟩ := hw_
        first | (go_simp; done) | (go_simp; with_reducible rfl) | (go_simp; rw [if_neg (by first | omega | (simp; omega))]))
  try simp only [Act.put, List.setIfInBounds_toArray, List.set_cons_zero, List.set_cons_succ]
  try simp only [p0, p1, p2, h0, h1, h2, h3, h4]
  first
   | (refine q_skip ?_ ?_
      · rfl)
   | (refine q_run ?_ ?_ ?_ ?_
      · kernel_rfl
      rotate_left
      · intro w_ hw_
        obtain ⟨c0, c1, c2, cb⟩ := hw_
        first | (go_simp; done) | (go_simp; with_reducible rfl) | (go_simp; rw [if_neg (by first | omega | (simp; omega))]))
  try simp only [Act.put, List.setIfInBounds_toArray, List.set_cons_zero, List.set_cons_succ]
  try simp only [p0, p1, p2, h0, h1, h2, h3, h4]
  refine q_run ?_ ?_ ?_ ?_
  · kernel_rfl
  rotate_left
  · intro w_ hw_
    obtain ⟨c0, c1, c2, cb⟩ := hw_
    first | (go_simp; done) | (go_simp; with_reducible rfl) | (go_simp; rw [if_neg (by first | omega | (simp; omega))])
  try simp only [Act.put, List.setIfInBounds_toArray, List.set_cons_zero, List.set_cons_succ]
  try simp only [p0, p1, p2, h0, h1, h2, h3, h4]
  refine q_run ?_ ?_ ?_ ?_
  · kernel_rfl
  rotate_left
  · intro w_ hw_
    obtain ⟨c0, c1, c2, cb⟩ := hw_
    first | (go_simp; done) | (go_simp; with_reducible rfl) | (go_simp; rw [if_neg (by first | omega | (simp; omega))])
  try simp only [Act.put, List.setIfInBounds_toArray, List.set_cons_zero, List.set_cons_succ]
  try simp only [p0, p1, p2, h0, h1, h2, h3, h4]
  first
   | (refine q_skip ?_ ?_
      · rfl)
   | (refine q_run ?_ ?_ ?_ ?_
      · kernel_rfl
      rotate_left
      · intro w_ hw_
        obtain ⟨c0, c1, c2, cb⟩ := hw_
        first | (go_simp; done) | (go_simp; with_reducible rfl) | (go_simp; rw [if_neg (by first | omega | (simp; omega))]))
  try simp only [Act.put, List.setIfInBounds_toArray, List.set_cons_zero, List.set_cons_succ]
  try simp only [p0, p1, p2, h0, h1, h2, h3, h4]
  first
   | (refine q_skip ?_ ?_
      · rfl)
   | (refine q_run ?_ ?_ ?_ ?_
      · kernel_rfl
      rotate_left
      · intro w_ hw_
        obtain ⟨c0, c1, c2, cb⟩ := hw_
        first | (go_simp; done) | (go_simp; with_reducible rfl) | (go_simp; rw [if_neg (by first | omega | (simp; omega))]))
  try simp only [Act.put, List.setIfInBounds_toArray, List.set_cons_zero, List.set_cons_succ]
  try simp only [p0, p1, p2, h0, h1, h2, h3, h4]
  first
   | (refine q_skip ?_ ?_
      · rfl)
   | (refine q_run ?_ ?_ ?_ ?_
      · kernel_rfl
      rotate_left
      · intro w_ hw_
        obtain ⟨c0, c1, c2, cb⟩ := hw_
        first | (go_simp; done) | (go_simp; with_reducible rfl) | (go_simp; rw [if_neg (by first | omega | (simp; omega))]))
  try simp only [Act.put, List.setIfInBounds_toArray, List.set_cons_zero, List.set_cons_succ]
  try simp only [p0, p1, p2, h0, h1, h2, h3, h4]
  first
   | (refine q_skip ?_ ?_
      · rfl)
   | (refine q_call ?_ (.int .i64 (Rp.cls code)) ?_ ?_ ?_ ?_ ?_
      · kernel_rfl
      rotate_left 2
      · intro w_ hw_
        go_simp
        refine ⟨?_, ?_⟩ <;> with_reducible rfl
      · intro w_ hw_
        obtain ⟨c0, c1, c2, cb⟩ := hw_
        exact ((rclass_any _ _).mono fun _ _ ⟨h1, h2⟩ => ⟨h1, h2 ▸ ⟨c0, c1, c2, cb⟩⟩))
  try simp only [Act.put, List.setIfInBounds_toArray, List.set_cons_zero, List.set_cons_succ]
  try simp only [p0, p1, p2, h0, h1, h2, h3, h4]
  first
   | (refine q_skip ?_ ?_
      · rfl)
   | (refine q_run ?_ ?_ ?_ ?_
      · kernel_rfl
      rotate_left
      · intro w_ hw_
        obtain ⟨c0, c1, c2, cb⟩ := hw_
        first | (go_simp; done) | (go_simp; with_reducible rfl) | (go_simp; rw [if_neg (by first | omega | (simp; omega))]))
  try simp only [Act.put, List.setIfInBounds_toArray, List.set_cons_zero, List.set_cons_succ]
  try simp only [p0, p1, p2, h0, h1, h2, h3, h4]
  refine q_run ?_ ?_ ?_ ?_
  · kernel_rfl
  rotate_left
  · intro w_ hw_
    obtain ⟨c0, c1, c2, cb⟩ := hw_
    first | (go_simp; done) | (go_simp; with_reducible rfl) | (go_simp; rw [if_neg (by first | omega | (simp; omega))])
  try simp only [Act.put, List.setIfInBounds_toArray, List.set_cons_zero, List.set_cons_succ]
  try simp only [p0, p1, p2, h0, h1, h2, h3, h4]
  refine q_run ?_ ?_ ?_ ?_
  · kernel_rfl
  rotate_left
  · intro w_ hw_
    obtain ⟨c0, c1, c2, cb⟩ := hw_
    first | (go_simp; done) | (go_simp; with_reducible rfl) | (go_simp; rw [if_neg (by first | omega | (simp; omega))])
  try simp only [Act.put, List.setIfInBounds_toArray, List.set_cons_zero, List.set_cons_succ]
  try simp only [p0, p1, p2, h0, h1, h2, h3, h4]
  first
   | (refine q_skip ?_ ?_
      · rfl)
   | (refine q_run ?_ ?_ ?_ ?_
      · kernel_rfl
      rotate_left
      · intro w_ hw_
        obtain ⟨c0, c1, c2, cb⟩ := hw_
        first | (go_simp; done) | (go_simp; with_reducible rfl) | (go_simp; rw [if_neg (by first | omega | (simp; omega))]))
  try simp only [Act.put, List.setIfInBounds_toArray, List.set_cons_zero, List.set_cons_succ]
  try simp only [p0, p1, p2, h0, h1, h2, h3, h4]
  first
   | (refine q_skip ?_ ?_
      · rfl)
   | (refine q_run ?_ ?_ ?_ ?_
      · kernel_rfl
      rotate_left
      · intro w_ hw_
        obtain ⟨c0, c1, c2, cb⟩ := hw_
        first | (go_simp; done) | (go_simp; with_reducible rfl) | (go_simp; rw [if_neg (by first | omega | (simp; omega))]))
  try simp only [Act.put, List.setIfInBounds_toArray, List.set_cons_zero, List.set_cons_succ]
  try simp only [p0, p1, p2, h0, h1, h2, h3, h4]
  first
   | (refine q_skip ?_ ?_
      · rfl)
   | (refine q_run ?_ ?_ ?_ ?_
      · kernel_rfl
      rotate_left
      · intro w_ hw_
        obtain ⟨c0, c1, c2, cb⟩ := hw_
        first | (go_simp; done) | (go_simp; with_reducible rfl) | (go_simp; rw [if_neg (by first | omega | (simp; omega))]))
  try simp only [Act.put, List.setIfInBounds_toArray, List.set_cons_zero, List.set_cons_succ]
  try simp only [p0, p1, p2, h0, h1, h2, h3, h4]
  refine q_run ?_ ?_ ?_ ?_
  · kernel_rfl
  rotate_left
  · intro w_ hw_
    obtain ⟨c0, c1, c2, cb⟩ := hw_
    first | (go_simp; done) | (go_simp; with_reducible rfl) | (go_simp; rw [if_neg (by first | omega | (simp; omega))])
  try simp only [Act.put, List.setIfInBounds_toArray, List.set_cons_zero, List.set_cons_succ]
  try simp only [p0, p1, p2, h0, h1, h2, h3, h4]
  refine q_run ?_ ?_ ?_ ?_
  · kernel_rfl
  rotate_left
  · intro w_ hw_
    obtain ⟨c0, c1, c2, cb⟩ := hw_
    first | (go_simp; done) | (go_simp; with_reducible rfl) | (go_simp; rw [if_neg (by first | omega | (simp; omega))])
  try simp only [Act.put, List.setIfInBounds_toArray, List.set_cons_zero, List.set_cons_succ]
  try simp only [p0, p1, p2, h0, h1, h2, h3, h4]
  first
   | (refine q_skip ?_ ?_
      · rfl)
   | (refine q_run ?_ ?_ ?_ ?_
      · kernel_rfl
      rotate_left
      · intro w_ hw_
        obtain ⟨c0, c1, c2, cb⟩ := hw_
        first | (go_simp; done) | (go_simp; with_reducible rfl) | (go_simp; rw [if_neg (by first | omega | (simp; omega))]))
  try simp only [Act.put, List.setIfInBounds_toArray, List.set_cons_zero, List.set_cons_succ]
  try simp only [p0, p1, p2, h0, h1, h2, h3, h4]
  first
   | (refine q_skip ?_ ?_
      · rfl)
   | (refine q_run ?_ ?_ ?_ ?_
      · kernel_rfl
      rotate_left
      · intro w_ hw_
        obtain ⟨c0, c1, c2, cb⟩ := hw_
        first | (go_simp; done) | (go_simp; with_reducible rfl) | (go_simp; rw [if_neg (by first | omega | (simp; omega))]))
  try simp only [Act.put, List.setIfInBounds_toArray, List.set_cons_zero, List.set_cons_succ]
  try simp only [p0, p1, p2, h0, h1, h2, h3, h4]
  first
   | (refine q_skip ?_ ?_
      · rfl)
   | (refine q_run ?_ ?_ ?_ ?_
      · kernel_rfl
      rotate_left
      · intro w_ hw_
        obtain ⟨c0, c1, c2, cb⟩ := hw_
        first | (go_simp; done) | (go_simp; with_reducible rfl) | (go_simp; rw [if_neg (by first | omega | (simp; omega))]))
  try simp only [Act.put, List.setIfInBounds_toArray, List.set_cons_zero, List.set_cons_succ]
  try simp only [p0, p1, p2, h0, h1, h2, h3, h4]
  refine q_run ?_ ?_ ?_ ?_
  · kernel_rfl
  rotate_left
  · intro w_ hw_
    obtain ⟨c0, c1, c2, cb⟩ := hw_
    first | (go_simp; done) | (go_simp; with_reducible rfl) | (go_simp; rw [if_neg (by first | omega | (simp; omega))])
  try simp only [Act.put, List.setIfInBounds_toArray, List.set_cons_zero, List.set_cons_succ]
  try simp only [p0, p1, p2, h0, h1, h2, h3, h4]
  refine q_run ?_ ?_ ?_ ?_
  · kernel_rfl
  rotate_left
  · intro w_ hw_
    obtain ⟨c0, c1, c2, cb⟩ := hw_
    first | (go_simp; done) | (go_simp; with_reducible rfl) | (go_simp; rw [if_neg (by first | omega | (simp; omega))])
  try simp only [Act.put, List.setIfInBounds_toArray, List.set_cons_zero, List.set_cons_succ]
  try simp only [p0, p1, p2, h0, h1, h2, h3, h4]
  first
   | (refine q_skip ?_ ?_
      · rfl)
   | (refine q_run ?_ ?_ ?_ ?_
      · kernel_rfl
      rotate_left
      · intro w_ hw_
        obtain ⟨c0, c1, c2, cb⟩ := hw_
        first | (go_simp; done) | (go_simp; with_reducible rfl) | (go_simp; rw [if_neg (by first | omega | (simp; omega))]))
  try simp only [Act.put, List.setIfInBounds_toArray, List.set_cons_zero, List.set_cons_succ]
  try simp only [p0, p1, p2, h0, h1, h2, h3, h4]
  first
   | (refine q_skip ?_ ?_
      · rfl)
   | (refine q_run ?_ ?_ ?_ ?_
      · kernel_rfl
      rotate_left
      · intro w_ hw_
        obtain ⟨c0, c1, c2, cb⟩ := hw_
        first | (go_simp; done) | (go_simp; with_reducible rfl) | (go_simp; rw [if_neg (by first | omega | (simp; omega))]))
  try simp only [Act.put, List.setIfInBounds_toArray, List.set_cons_zero, List.set_cons_succ]
  try simp only [p0, p1, p2, h0, h1, h2, h3, h4]
  first
   | (refine q_skip ?_ ?_
      · rfl)
   | (refine q_run ?_ ?_ ?_ ?_
      · kernel_rfl
      rotate_left
      · intro w_ hw_
        obtain ⟨c0, c1, c2, cb⟩ := hw_
        first | (go_simp; done) | (go_simp; with_reducible rfl) | (go_simp; rw [if_neg (by first | omega | (simp; omega))]))
  try simp only [Act.put, List.setIfInBounds_toArray, List.set_cons_zero, List.set_cons_succ]
  try simp only [p0, p1, p2, h0, h1, h2, h3, h4]
  refine q_run ?_ ?_ ?_ ?_
  · kernel_rfl
  rotate_left
  · intro w_ hw_
    obtain ⟨c0, c1, c2, cb⟩ := hw_
    first | (go_simp; done) | (go_simp; with_reducible rfl) | (go_simp; rw [if_neg (by first | omega | (simp; omega))])
  try simp only [Act.put, List.setIfInBounds_toArray, List.set_cons_zero, List.set_cons_succ]
  try simp only [p0, p1, p2, h0, h1, h2, h3, h4]
  refine q_run ?_ ?_ ?_ ?_
  · kernel_rfl
  rotate_left
  · intro w_ hw_
    obtain ⟨c0, c1, c2, cb⟩ := hw_
    first | (go_simp; done) | (go_simp; with_reducible rfl) | (go_simp; rw [if_neg (by first | omega | (simp; omega))])
  try simp only [Act.put, List.setIfInBounds_toArray, List.set_cons_zero, List.set_cons_succ]
  try simp only [p0, p1, p2, h0, h1, h2, h3, h4]
  first
   | (refine q_skip ?_ ?_
      · rfl)
   | (refine q_run ?_ ?_ ?_ ?_
      · kernel_rfl
      rotate_left
      · intro w_ hw_
        obtain ⟨c0, c1, c2, cb⟩ := hw_
        first | (go_simp; done) | (go_simp; with_reducible rfl) | (go_simp; rw [if_neg (by first | omega | (simp; omega))]))
  try simp only [Act.put, List.setIfInBounds_toArray, List.set_cons_zero, List.set_cons_succ]
  try simp only [p0, p1, p2, h0, h1, h2, h3, h4]
  first
   | (refine q_skip ?_ ?_
      · rfl)
   | (refine q_run ?_ ?_ ?_ ?_
      · kernel_rfl
      rotate_left
      · intro w_ hw_
        obtain ⟨c0, c1, c2, cb⟩ := hw_
        first | (go_simp; done) | (go_simp; with_reducible rfl) | (go_simp; rw [if_neg (by first | omega | (simp; omega))]))
  try simp only [Act.put, List.setIfInBounds_toArray, List.set_cons_zero, List.set_cons_succ]
  try simp only [p0, p1, p2, h0, h1, h2, h3, h4]
  first
   | (refine q_skip ?_ ?_
      · rfl)
   | (refine q_run ?_ ?_ ?_ ?_
      · kernel_rfl
      rotate_left
      · intro w_ hw_
        obtain ⟨c0, c1, c2, cb⟩ := hw_
        first | (go_simp; done) | (go_simp; with_reducible rfl) | (go_simp; rw [if_neg (by first | omega | (simp; omega))]))
  try simp only [Act.put, List.setIfInBounds_toArray, List.set_cons_zero, List.set_cons_succ]
  try simp only [p0, p1, p2, h0, h1, h2, h3, h4]
  refine q_run ?_ ?_ ?_ ?_
  · kernel_rfl
  rotate_left
  · intro w_ hw_
    obtain ⟨c0, c1, c2, cb⟩ := hw_
    first | (go_simp; done) | (go_simp; with_reducible rfl) | (go_simp; rw [if_neg (by first | omega | (simp; omega))])
  try simp only [Act.put, List.setIfInBounds_toArray, List.set_cons_zero, List.set_cons_succ]
  try simp only [p0, p1, p2, h0, h1, h2, h3, h4]
  refine q_run ?_ ?_ ?_ ?_
  · kernel_rfl
  rotate_left
  · intro w_ hw_
    obtain ⟨c0, c1, c2, cb⟩ := hw_
    first | (go_simp; done) | (go_simp; with_reducible rfl) | (go_simp; rw [if_neg (by first | omega | (simp; omega))])
  try simp only [Act.put, List.setIfInBounds_toArray, List.set_cons_zero, List.set_cons_succ]
  try simp only [p0, p1, p2, h0, h1, h2, h3, h4]
  refine q_nil ?_
  intro W_ hC_
  go_wp2
  go_ret
  exact ⟨rfl, hC_.2.2.2⟩
set_option maxHeartbeats 4000000 in
theorem rfits_g3k0 (code a b c : Int) (h : Rp.none3 a b c = false) (p0 : (a == 2) = false) (p1 : (a == 4) = false) (p2 : (a == 5) = false)  (w : World) : Calls Tryd.prog 37 #[.int .i64 code, .agg #[.int .i64 a, .int .i64 b, .int .i64 c]] w fun e w' => e = .returned (.bool false) ∧ Below w.heap.size w w' := by
  have M : Aside (Mine w [(w.heap.size, #[.int .i64 a, .int .i64 b, .int .i64 c], 23)] (w.alloc (.cells #[.int .i64 a, .int .i64 b, .int .i64 c] 23))) := ⟨(Mine.start w).alloc _ _⟩
  go_enter Tryd.func37, Tryd.ntmps37
  go_wp2_with (go_at_call 52; (with_reducible refine (rnone_any a b c _).mono ?_); rintro e w1 ⟨rfl, hb⟩; rw [h]; replace M := Aside.mk (M.out.next hb); clear hb; have z0 := Mine.at M.out 0 _ rfl; have z1 := Mine.at M.out 1 _ rfl; have z2 := Mine.at M.out 2 _ rfl; have zl := Mine.lt M.out)
  refine region_class (C := (fun w' => w'.cell? ⟨w.heap.size, 0, none⟩ = some (.int .i64 a) ∧ w'.cell? ⟨w.heap.size, 1, none⟩ = some (.int .i64 b) ∧ w'.cell? ⟨w.heap.size, 2, none⟩ = some (.int .i64 c) ∧ Below w.heap.size w w')) (by kernel_rfl) (by kernel_rfl) ⟨(M.out.drewN 1).at 0 _ rfl, (M.out.drewN 1).at 1 _ rfl, (M.out.drewN 1).at 2 _ rfl, (M.out.drewN 1).low⟩ ?_
  refine q_run ?_ ?_ ?_ ?_
  · kernel_rfl
  rotate_left
  · intro w_ hw_
    obtain ⟨c0, c1, c2, cb⟩ := hw_
    first | (go_simp; done) | (go_simp; with_reducible rfl) | (go_simp; rw [if_neg (by first | omega | (simp; omega))])
  try simp only [Act.put, List.setIfInBounds_toArray, List.set_cons_zero, List.set_cons_succ]
  try simp only [p0, p1, p2]
  refine q_run ?_ ?_ ?_ ?_
  · kernel_rfl
  rotate_left
  · intro w_ hw_
    obtain ⟨c0, c1, c2, cb⟩ := hw_
    first | (go_simp; done) | (go_simp; with_reducible rfl) | (go_simp; rw [if_neg (by first | omega | (simp; omega))])
  try simp only [Act.put, List.setIfInBounds_toArray, List.set_cons_zero, List.set_cons_succ]
  try simp only [p0, p1, p2]
  refine q_run ?_ ?_ ?_ ?_
  · kernel_rfl
  rotate_left
  · intro w_ hw_
    obtain ⟨c0, c1, c2, cb⟩ := hw_
    first | (go_simp; done) | (go_simp; with_reducible rfl) | (go_simp; rw [if_neg (by first | omega | (simp; omega))])
  try simp only [Act.put, List.setIfInBounds_toArray, List.set_cons_zero, List.set_cons_succ]
  try simp only [p0, p1, p2]
  refine q_run ?_ ?_ ?_ ?_
  · kernel_rfl
  rotate_left
  · intro w_ hw_
    obtain ⟨c0, c1, c2, cb⟩ := hw_
    first | (go_simp; done) | (go_simp; with_reducible rfl) | (go_simp; rw [if_neg (by first | omega | (simp; omega))])
  try simp only [Act.put, List.setIfInBounds_toArray, List.set_cons_zero, List.set_cons_succ]
  try simp only [p0, p1, p2]
  first
   | (refine q_skip ?_ ?_
      · rfl)
   | (refine q_run ?_ ?_ ?_ ?_
      · kernel_rfl
      rotate_left
      · intro w_ hw_
        obtain ⟨c0, c1, c2, cb⟩ := hw_
        first | (go_simp; done) | (go_simp; with_reducible rfl) | (go_simp; rw [if_neg (by first | omega | (simp; omega))]))
  try simp only [Act.put, List.setIfInBounds_toArray, List.set_cons_zero, List.set_cons_succ]
  try simp only [p0, p1, p2]
  first
   | (refine q_skip ?_ ?_
      · rfl)
   | (refine q_run ?_ ?_ ?_ ?_
      · kernel_rfl
      rotate_left
      · intro w_ hw_
        obtain ⟨c0, c1, c2, cb⟩ := hw_
        first | (go_simp; done) | (go_simp; with_reducible rfl) | (go_simp; rw [if_neg (by first | omega | (simp; omega))]))
  try simp only [Act.put, List.setIfInBounds_toArray, List.set_cons_zero, List.set_cons_succ]
  try simp only [p0, p1, p2]
  first
   | (refine q_skip ?_ ?_
      · rfl)
   | (refine q_run ?_ ?_ ?_ ?_
      · kernel_rfl
      rotate_left
      · intro w_ hw_
        obtain ⟨c0, c1, c2, cb⟩ := hw_
        first | (go_simp; done) | (go_simp; with_reducible rfl) | (go_simp; rw [if_neg (by first | omega | (simp; omega))]))
  try simp only [Act.put, List.setIfInBounds_toArray, List.set_cons_zero, List.set_cons_succ]
  try simp only [p0, p1, p2]
  refine q_run ?_ ?_ ?_ ?_
  · kernel_rfl
  rotate_left
  · intro w_ hw_
    obtain ⟨c0, c1, c2, cb⟩ := hw_
    first | (go_simp; done) | (go_simp; with_reducible rfl) | (go_simp; rw [if_neg (by first | omega | (simp; omega))])
  try simp only [Act.put, List.setIfInBounds_toArray, List.set_cons_zero, List.set_cons_succ]
  try simp only [p0, p1, p2]
  refine q_run ?_ ?_ ?_ ?_
  · kernel_rfl
  rotate_left
  · intro w_ hw_
    obtain ⟨c0, c1, c2, cb⟩ := hw_
    first | (go_simp; done) | (go_simp; with_reducible rfl) | (go_simp; rw [if_neg (by first | omega | (simp; omega))])
  try simp only [Act.put, List.setIfInBounds_toArray, List.set_cons_zero, List.set_cons_succ]
  try simp only [p0, p1, p2]
  first
   | (refine q_skip ?_ ?_
      · rfl)
   | (refine q_run ?_ ?_ ?_ ?_
      · kernel_rfl
      rotate_left
      · intro w_ hw_
        obtain ⟨c0, c1, c2, cb⟩ := hw_
        first | (go_simp; done) | (go_simp; with_reducible rfl) | (go_simp; rw [if_neg (by first | omega | (simp; omega))]))
  try simp only [Act.put, List.setIfInBounds_toArray, List.set_cons_zero, List.set_cons_succ]
  try simp only [p0, p1, p2]
  first
   | (refine q_skip ?_ ?_
      · rfl)
   | (refine q_run ?_ ?_ ?_ ?_
      · kernel_rfl
      rotate_left
      · intro w_ hw_
        obtain ⟨c0, c1, c2, cb⟩ := hw_
        first | (go_simp; done) | (go_simp; with_reducible rfl) | (go_simp; rw [if_neg (by first | omega | (simp; omega))]))
  try simp only [Act.put, List.setIfInBounds_toArray, List.set_cons_zero, List.set_cons_succ]
  try simp only [p0, p1, p2]
  first
   | (refine q_skip ?_ ?_
      · rfl)
   | (refine q_run ?_ ?_ ?_ ?_
      · kernel_rfl
      rotate_left
      · intro w_ hw_
        obtain ⟨c0, c1, c2, cb⟩ := hw_
        first | (go_simp; done) | (go_simp; with_reducible rfl) | (go_simp; rw [if_neg (by first | omega | (simp; omega))]))
  try simp only [Act.put, List.setIfInBounds_toArray, List.set_cons_zero, List.set_cons_succ]
  try simp only [p0, p1, p2]
  refine q_run ?_ ?_ ?_ ?_
  · kernel_rfl
  rotate_left
  · intro w_ hw_
    obtain ⟨c0, c1, c2, cb⟩ := hw_
    first | (go_simp; done) | (go_simp; with_reducible rfl) | (go_simp; rw [if_neg (by first | omega | (simp; omega))])
  try simp only [Act.put, List.setIfInBounds_toArray, List.set_cons_zero, List.set_cons_succ]
  try simp only [p0, p1, p2]
  refine q_run ?_ ?_ ?_ ?_
  · kernel_rfl
  rotate_left
  · intro w_ hw_
    obtain ⟨c0, c1, c2, cb⟩ := hw_
    first | (go_simp; done) | (go_simp; with_reducible rfl) | (go_simp; rw [if_neg (by first | omega | (simp; omega))])
  try simp only [Act.put, List.setIfInBounds_toArray, List.set_cons_zero, List.set_cons_succ]
  try simp only [p0, p1, p2]
  first
   | (refine q_skip ?_ ?_
      · rfl)
   | (refine q_run ?_ ?_ ?_ ?_
      · kernel_rfl
      rotate_left
      · intro w_ hw_
        obtain ⟨c0, c1, c2, cb⟩ := hw_
        first | (go_simp; done) | (go_simp; with_reducible rfl) | (go_simp; rw [if_neg (by first | omega | (simp; omega))]))
  try simp only [Act.put, List.setIfInBounds_toArray, List.set_cons_zero, List.set_cons_succ]
  try simp only [p0, p1, p2]
  first
   | (refine q_skip ?_ ?_
      · rfl)
   | (refine q_run ?_ ?_ ?_ ?_
      · kernel_rfl
      rotate_left
      · intro w_ hw_
        obtain ⟨c0, c1, c2, cb⟩ := hw_
        first | (go_simp; done) | (go_simp; with_reducible rfl) | (go_simp; rw [if_neg (by first | omega | (simp; omega))]))
  try simp only [Act.put, List.setIfInBounds_toArray, List.set_cons_zero, List.set_cons_succ]
  try simp only [p0, p1, p2]
  first
   | (refine q_skip ?_ ?_
      · rfl)
   | (refine q_run ?_ ?_ ?_ ?_
      · kernel_rfl
      rotate_left
      · intro w_ hw_
        obtain ⟨c0, c1, c2, cb⟩ := hw_
        first | (go_simp; done) | (go_simp; with_reducible rfl) | (go_simp; rw [if_neg (by first | omega | (simp; omega))]))
  try simp only [Act.put, List.setIfInBounds_toArray, List.set_cons_zero, List.set_cons_succ]
  try simp only [p0, p1, p2]
  first
   | (refine q_skip ?_ ?_
      · rfl)
   | (refine q_call ?_ (.int .i64 (Rp.cls code)) ?_ ?_ ?_ ?_ ?_
      · kernel_rfl
      rotate_left 2
      · intro w_ hw_
        go_simp
        refine ⟨?_, ?_⟩ <;> with_reducible rfl
      · intro w_ hw_
        obtain ⟨c0, c1, c2, cb⟩ := hw_
        exact ((rclass_any _ _).mono fun _ _ ⟨h1, h2⟩ => ⟨h1, h2 ▸ ⟨c0, c1, c2, cb⟩⟩))
  try simp only [Act.put, List.setIfInBounds_toArray, List.set_cons_zero, List.set_cons_succ]
  try simp only [p0, p1, p2]
  first
   | (refine q_skip ?_ ?_
      · rfl)
   | (refine q_run ?_ ?_ ?_ ?_
      · kernel_rfl
      rotate_left
      · intro w_ hw_
        obtain ⟨c0, c1, c2, cb⟩ := hw_
        first | (go_simp; done) | (go_simp; with_reducible rfl) | (go_simp; rw [if_neg (by first | omega | (simp; omega))]))
  try simp only [Act.put, List.setIfInBounds_toArray, List.set_cons_zero, List.set_cons_succ]
  try simp only [p0, p1, p2]
  refine q_run ?_ ?_ ?_ ?_
  · kernel_rfl
  rotate_left
  · intro w_ hw_
    obtain ⟨c0, c1, c2, cb⟩ := hw_
    first | (go_simp; done) | (go_simp; with_reducible rfl) | (go_simp; rw [if_neg (by first | omega | (simp; omega))])
  try simp only [Act.put, List.setIfInBounds_toArray, List.set_cons_zero, List.set_cons_succ]
  try simp only [p0, p1, p2]
  refine q_run ?_ ?_ ?_ ?_
  · kernel_rfl
  rotate_left
  · intro w_ hw_
    obtain ⟨c0, c1, c2, cb⟩ := hw_
    first | (go_simp; done) | (go_simp; with_reducible rfl) | (go_simp; rw [if_neg (by first | omega | (simp; omega))])
  try simp only [Act.put, List.setIfInBounds_toArray, List.set_cons_zero, List.set_cons_succ]
  try simp only [p0, p1, p2]
  first
   | (refine q_skip ?_ ?_
      · rfl)
   | (refine q_run ?_ ?_ ?_ ?_
      · kernel_rfl
      rotate_left
      · intro w_ hw_
        obtain ⟨c0, c1, c2, cb⟩ := hw_
        first | (go_simp; done) | (go_simp; with_reducible rfl) | (go_simp; rw [if_neg (by first | omega | (simp; omega))]))
  try simp only [Act.put, List.setIfInBounds_toArray, List.set_cons_zero, List.set_cons_succ]
  try simp only [p0, p1, p2]
  first
   | (refine q_skip ?_ ?_
      · rfl)
   | (refine q_run ?_ ?_ ?_ ?_
      · kernel_rfl
      rotate_left
      · intro w_ hw_
        obtain ⟨c0, c1, c2, cb⟩ := hw_
        first | (go_simp; done) | (go_simp; with_reducible rfl) | (go_simp; rw [if_neg (by first | omega | (simp; omega))]))
  try simp only [Act.put, List.setIfInBounds_toArray, List.set_cons_zero, List.set_cons_succ]
  try simp only [p0, p1, p2]
  first
   | (refine q_skip ?_ ?_
      · rfl)
   | (refine q_run ?_ ?_ ?_ ?_
      · kernel_rfl
      rotate_left
      · intro w_ hw_
        obtain ⟨c0, c1, c2, cb⟩ := hw_
        first | (go_simp; done) | (go_simp; with_reducible rfl) | (go_simp; rw [if_neg (by first | omega | (simp; omega))]))
  try simp only [Act.put, List.setIfInBounds_toArray, List.set_cons_zero, List.set_cons_succ]
  try simp only [p0, p1, p2]
  refine q_run ?_ ?_ ?_ ?_
  · kernel_rfl
  rotate_left
  · intro w_ hw_
    obtain ⟨c0, c1, c2, cb⟩ := hw_
    first | (go_simp; done) | (go_simp; with_reducible rfl) | (go_simp; rw [if_neg (by first | omega | (simp; omega))])
  try simp only [Act.put, List.setIfInBounds_toArray, List.set_cons_zero, List.set_cons_succ]
  try simp only [p0, p1, p2]
  refine q_run ?_ ?_ ?_ ?_
  · kernel_rfl
  rotate_left
  · intro w_ hw_
    obtain ⟨c0, c1, c2, cb⟩ := hw_
    first | (go_simp; done) | (go_simp; with_reducible rfl) | (go_simp; rw [if_neg (by first | omega | (simp; omega))])
  try simp only [Act.put, List.setIfInBounds_toArray, List.set_cons_zero, List.set_cons_succ]
  try simp only [p0, p1, p2]
  first
   | (refine q_skip ?_ ?_
      · rfl)
   | (refine q_run ?_ ?_ ?_ ?_
      · kernel_rfl
      rotate_left
      · intro w_ hw_
        obtain ⟨c0, c1, c2, cb⟩ := hw_
        first | (go_simp; done) | (go_simp; with_reducible rfl) | (go_simp; rw [if_neg (by first | omega | (simp; omega))]))
  try simp only [Act.put, List.setIfInBounds_toArray, List.set_cons_zero, List.set_cons_succ]
  try simp only [p0, p1, p2]
  first
   | (refine q_skip ?_ ?_
      · rfl)
   | (refine q_run ?_ ?_ ?_ ?_
      · kernel_rfl
      rotate_left
      · intro w_ hw_
        obtain ⟨c0, c1, c2, cb⟩ := hw_
        first | (go_simp; done) | (go_simp; with_reducible rfl) | (go_simp; rw [if_neg (by first | omega | (simp; omega))]))
  try simp only [Act.put, List.setIfInBounds_toArray, List.set_cons_zero, List.set_cons_succ]
  try simp only [p0, p1, p2]
  first
   | (refine q_skip ?_ ?_
      · rfl)
   | (refine q_run ?_ ?_ ?_ ?_
      · kernel_rfl
      rotate_left
      · intro w_ hw_
        obtain ⟨c0, c1, c2, cb⟩ := hw_
        first | (go_simp; done) | (go_simp; with_reducible rfl) | (go_simp; rw [if_neg (by first | omega | (simp; omega))]))
  try simp only [Act.put, List.setIfInBounds_toArray, List.set_cons_zero, List.set_cons_succ]
  try simp only [p0, p1, p2]
  refine q_run ?_ ?_ ?_ ?_
  · kernel_rfl
  rotate_left
  · intro w_ hw_
    obtain ⟨c0, c1, c2, cb⟩ := hw_
    first | (go_simp; done) | (go_simp; with_reducible rfl) | (go_simp; rw [if_neg (by first | omega | (simp; omega))])
  try simp only [Act.put, List.setIfInBounds_toArray, List.set_cons_zero, List.set_cons_succ]
  try simp only [p0, p1, p2]
  refine q_run ?_ ?_ ?_ ?_
  · kernel_rfl
  rotate_left
  · intro w_ hw_
    obtain ⟨c0, c1, c2, cb⟩ := hw_
    first | (go_simp; done) | (go_simp; with_reducible rfl) | (go_simp; rw [if_neg (by first | omega | (simp; omega))])
  try simp only [Act.put, List.setIfInBounds_toArray, List.set_cons_zero, List.set_cons_succ]
  try simp only [p0, p1, p2]
  first
   | (refine q_skip ?_ ?_
      · rfl)
   | (refine q_run ?_ ?_ ?_ ?_
      · kernel_rfl
      rotate_left
      · intro w_ hw_
        obtain ⟨c0, c1, c2, cb⟩ := hw_
        first | (go_simp; done) | (go_simp; with_reducible rfl) | (go_simp; rw [if_neg (by first | omega | (simp; omega))]))
  try simp only [Act.put, List.setIfInBounds_toArray, List.set_cons_zero, List.set_cons_succ]
  try simp only [p0, p1, p2]
  first
   | (refine q_skip ?_ ?_
      · rfl)
   | (refine q_run ?_ ?_ ?_ ?_
      · kernel_rfl
      rotate_left
      · intro w_ hw_
        obtain ⟨c0, c1, c2, cb⟩ := hw_
        first | (go_simp; done) | (go_simp; with_reducible rfl) | (go_simp; rw [if_neg (by first | omega | (simp; omega))]))
  try simp only [Act.put, List.setIfInBounds_toArray, List.set_cons_zero, List.set_cons_succ]
  try simp only [p0, p1, p2]
  first
   | (refine q_skip ?_ ?_
      · rfl)
   | (refine q_run ?_ ?_ ?_ ?_
      · kernel_rfl
      rotate_left
      · intro w_ hw_
        obtain ⟨c0, c1, c2, cb⟩ := hw_
        first | (go_simp; done) | (go_simp; with_reducible rfl) | (go_simp; rw [if_neg (by first | omega | (simp; omega))]))
  try simp only [Act.put, List.setIfInBounds_toArray, List.set_cons_zero, List.set_cons_succ]
  try simp only [p0, p1, p2]
  refine q_run ?_ ?_ ?_ ?_
  · kernel_rfl
  rotate_left
  · intro w_ hw_
    obtain ⟨c0, c1, c2, cb⟩ := hw_
    first | (go_simp; done) | (go_simp; with_reducible rfl) | (go_simp; rw [if_neg (by first | omega | (simp; omega))])
  try simp only [Act.put, List.setIfInBounds_toArray, List.set_cons_zero, List.set_cons_succ]
  try simp only [p0, p1, p2]
  refine q_run ?_ ?_ ?_ ?_
  · kernel_rfl
  rotate_left
  · intro w_ hw_
    obtain ⟨c0, c1, c2, cb⟩ := hw_
    first | (go_simp; done) | (go_simp; with_reducible rfl) | (go_simp; rw [if_neg (by first | omega | (simp; omega))])
  try simp only [Act.put, List.setIfInBounds_toArray, List.set_cons_zero, List.set_cons_succ]
  try simp only [p0, p1, p2]
  first
   | (refine q_skip ?_ ?_
      · rfl)
   | (refine q_run ?_ ?_ ?_ ?_
      · kernel_rfl
      rotate_left
      · intro w_ hw_
        obtain ⟨c0, c1, c2, cb⟩ := hw_
        first | (go_simp; done) | (go_simp; with_reducible rfl) | (go_simp; rw [if_neg (by first | omega | (simp; omega))]))
  try simp only [Act.put, List.setIfInBounds_toArray, List.set_cons_zero, List.set_cons_succ]
  try simp only [p0, p1, p2]
  first
   | (refine q_skip ?_ ?_
      · rfl)
   | (refine q_run ?_ ?_ ?_ ?_
      · kernel_rfl
      rotate_left
      · intro w_ hw_
        obtain ⟨c0, c1, c2, cb⟩ := hw_
        first | (go_simp; done) | (go_simp; with_reducible rfl) | (go_simp; rw [if_neg (by first | omega | (simp; omega))]))
  try simp only [Act.put, List.setIfInBounds_toArray, List.set_cons_zero, List.set_cons_succ]
  try simp only [p0, p1, p2]
  first
   | (refine q_skip ?_ ?_
      · rfl)
   | (refine q_run ?_ ?_ ?_ ?_
      · kernel_rfl
      rotate_left
      · intro w_ hw_
        obtain ⟨c0, c1, c2, cb⟩ := hw_
        first | (go_simp; done) | (go_simp; with_reducible rfl) | (go_simp; rw [if_neg (by first | omega | (simp; omega))]))
  try simp only [Act.put, List.setIfInBounds_toArray, List.set_cons_zero, List.set_cons_succ]
  try simp only [p0, p1, p2]
  refine q_run ?_ ?_ ?_ ?_
  · kernel_rfl
  rotate_left
  · intro w_ hw_
    obtain ⟨c0, c1, c2, cb⟩ := hw_
    first | (go_simp; done) | (go_simp; with_reducible rfl) | (go_simp; rw [if_neg (by first | omega | (simp; omega))])
  try simp only [Act.put, List.setIfInBounds_toArray, List.set_cons_zero, List.set_cons_succ]
  try simp only [p0, p1, p2]
  refine q_run ?_ ?_ ?_ ?_
  · kernel_rfl
  rotate_left
  · intro w_ hw_
    obtain ⟨c0, c1, c2, cb⟩ := hw_
    first | (go_simp; done) | (go_simp; with_reducible rfl) | (go_simp; rw [if_neg (by first | omega | (simp; omega))])
  try simp only [Act.put, List.setIfInBounds_toArray, List.set_cons_zero, List.set_cons_succ]
  try simp only [p0, p1, p2]
  refine q_nil ?_
  intro W_ hC_
  go_wp2
  go_ret
  exact ⟨rfl, hC_.2.2.2⟩
set_option maxHeartbeats 4000000 in
theorem rfits_none (code a b c : Int) (h : Rp.none3 a b c = true) (w : World) : Calls Tryd.prog 37 #[.int .i64 code, .agg #[.int .i64 a, .int .i64 b, .int .i64 c]] w fun e w' => e = .returned (.bool true) ∧ Below w.heap.size w w' := by
  have M : Aside (Mine w [(w.heap.size, #[.int .i64 a, .int .i64 b, .int .i64 c], 23)] (w.alloc (.cells #[.int .i64 a, .int .i64 b, .int .i64 c] 23))) := ⟨(Mine.start w).alloc _ _⟩
  go_enter Tryd.func37, Tryd.ntmps37
  go_wp2_with (go_at_call 52; (with_reducible refine (rnone_any a b c _).mono ?_); rintro e w1 ⟨rfl, hb⟩; rw [h]; replace M := Aside.mk (M.out.next hb); clear hb; have z0 := Mine.at M.out 0 _ rfl; have z1 := Mine.at M.out 1 _ rfl; have z2 := Mine.at M.out 2 _ rfl; have zl := Mine.lt M.out)
  go_ret
  exact ⟨rfl, M.out.low⟩
theorem rfits_any (code a b c : Int) (hc : Rp.cls code ≠ 0) (w : World) : Calls Tryd.prog 37 #[.int .i64 code, .agg #[.int .i64 a, .int .i64 b, .int .i64 c]] w fun e w' => e = .returned (.bool (Rp.fits code a b c)) ∧ Below w.heap.size w w' := by
  have key : ∀ v, v = Rp.fits code a b c → Calls Tryd.prog 37 #[.int .i64 code, .agg #[.int .i64 a, .int .i64 b, .int .i64 c]] w (fun e w' => e = .returned (.bool v) ∧ Below w.heap.size w w') → Calls Tryd.prog 37 #[.int .i64 code, .agg #[.int .i64 a, .int .i64 b, .int .i64 c]] w fun e w' => e = .returned (.bool (Rp.fits code a b c)) ∧ Below w.heap.size w w' := fun v h k => h ▸ k
  cases h : Rp.none3 a b c with
  | true => exact key true (by simp [Rp.fits, h]) (rfits_none code a b c h w)
  | false =>
    have yes : (a = Rp.cls code ∧ a ≠ 3 ∧ 0 ≤ b ∧ b ≤ 999 ∧ 0 ≤ c ∧ c ≤ 999) → true = Rp.fits code a b c := fun q => by rw [Rp.fits, h, Bool.false_or]; exact (decide_eq_true q).symm
    have no : ¬ (a = Rp.cls code ∧ a ≠ 3 ∧ 0 ≤ b ∧ b ≤ 999 ∧ 0 ≤ c ∧ c ≤ 999) → false = Rp.fits code a b c := fun q => by rw [Rp.fits, h, Bool.false_or]; exact (decide_eq_false q).symm
    have hcl := (Rp.cls_01 code).resolve_left hc
    by_cases q : a = 2
    · by_cases h0 : a = Rp.cls code
      · by_cases h1 : 0 ≤ b
        · by_cases h2 : b < 1000
          · by_cases h3 : 0 ≤ c
            · by_cases h4 : c < 1000
              · exact key true (yes (by omega)) (rfits_g0k5 code a b c h (by simpa using q) (by simpa using h0) (by simpa using h1) (by simpa using h2) (by simpa using h3) (by simpa using h4) w)
              · exact key false (no (by omega)) (rfits_g0k4 code a b c h (by simpa using q) (by simpa using h0) (by simpa using h1) (by simpa using h2) (by simpa using h3) (by simpa using h4) w)
            · exact key false (no (by omega)) (rfits_g0k3 code a b c h (by simpa using q) (by simpa using h0) (by simpa using h1) (by simpa using h2) (by simpa using h3) w)
          · exact key false (no (by omega)) (rfits_g0k2 code a b c h (by simpa using q) (by simpa using h0) (by simpa using h1) (by simpa using h2) w)
        · exact key false (no (by omega)) (rfits_g0k1 code a b c h (by simpa using q) (by simpa using h0) (by simpa using h1) w)
      · exact key false (no (by omega)) (rfits_g0k0 code a b c h (by simpa using q) (by simpa using h0) w)
    have q0 := q
    clear q
    by_cases q : a = 4
    · by_cases h0 : a = Rp.cls code
      · by_cases h1 : 0 ≤ b
        · by_cases h2 : b < 1000
          · by_cases h3 : 0 ≤ c
            · by_cases h4 : c < 1000
              · exact key true (yes (by omega)) (rfits_g1k5 code a b c h (by simpa using q0) (by simpa using q) (by simpa using h0) (by simpa using h1) (by simpa using h2) (by simpa using h3) (by simpa using h4) w)
              · exact key false (no (by omega)) (rfits_g1k4 code a b c h (by simpa using q0) (by simpa using q) (by simpa using h0) (by simpa using h1) (by simpa using h2) (by simpa using h3) (by simpa using h4) w)
            · exact key false (no (by omega)) (rfits_g1k3 code a b c h (by simpa using q0) (by simpa using q) (by simpa using h0) (by simpa using h1) (by simpa using h2) (by simpa using h3) w)
          · exact key false (no (by omega)) (rfits_g1k2 code a b c h (by simpa using q0) (by simpa using q) (by simpa using h0) (by simpa using h1) (by simpa using h2) w)
        · exact key false (no (by omega)) (rfits_g1k1 code a b c h (by simpa using q0) (by simpa using q) (by simpa using h0) (by simpa using h1) w)
      · exact key false (no (by omega)) (rfits_g1k0 code a b c h (by simpa using q0) (by simpa using q) (by simpa using h0) w)
    have q1 := q
    clear q
    by_cases q : a = 5
    · by_cases h0 : a = Rp.cls code
      · by_cases h1 : 0 ≤ b
        · by_cases h2 : b < 1000
          · by_cases h3 : 0 ≤ c
            · by_cases h4 : c < 1000
              · exact key true (yes (by omega)) (rfits_g2k5 code a b c h (by simpa using q0) (by simpa using q1) (by simpa using q) (by simpa using h0) (by simpa using h1) (by simpa using h2) (by simpa using h3) (by simpa using h4) w)
              · exact key false (no (by omega)) (rfits_g2k4 code a b c h (by simpa using q0) (by simpa using q1) (by simpa using q) (by simpa using h0) (by simpa using h1) (by simpa using h2) (by simpa using h3) (by simpa using h4) w)
            · exact key false (no (by omega)) (rfits_g2k3 code a b c h (by simpa using q0) (by simpa using q1) (by simpa using q) (by simpa using h0) (by simpa using h1) (by simpa using h2) (by simpa using h3) w)
          · exact key false (no (by omega)) (rfits_g2k2 code a b c h (by simpa using q0) (by simpa using q1) (by simpa using q) (by simpa using h0) (by simpa using h1) (by simpa using h2) w)
        · exact key false (no (by omega)) (rfits_g2k1 code a b c h (by simpa using q0) (by simpa using q1) (by simpa using q) (by simpa using h0) (by simpa using h1) w)
      · exact key false (no (by omega)) (rfits_g2k0 code a b c h (by simpa using q0) (by simpa using q1) (by simpa using q) (by simpa using h0) w)
    have q2 := q
    clear q
    exact key false (no (by omega)) (rfits_g3k0 code a b c h (by simpa using q0) (by simpa using q1) (by simpa using q2) w)
end Go.Proofs.YtfeedokfcebjjaaDoor
