/-
  Walks of the package reply: enhanced.
-/
import Derived.Test.YtfeedokfcebjjaaDoorArr3
import Derived.Test.YtfeedokfcebjjaaDoorRpCal
import Derived.Test.YtfeedokfcebjjaaDoorQuiet2
import Derived.Lib.ItoaLen
import Derived.IntWalk
import Derived.Outline
set_option linter.unusedVariables false
set_option linter.unusedSimpArgs false
namespace Go.Proofs.YtfeedokfcebjjaaDoor
open Go.RowKit
set_option maxRecDepth 100000
attribute [local go_sem] equal3
theorem enh_none (w : World) : Calls Tryd.prog 32 #[.agg #[.int .i64 0, .int .i64 0, .int .i64 0]] w fun e w' => e = .returned (.string ⟨#[]⟩) ∧ Below w.heap.size w w' := by
  have h : same3 0 0 0 0 0 0 = true := rfl
  go_enter Tryd.func32, Tryd.ntmps32
  go_wp2
  go_ret
  exact ⟨rfl, (Below.refl _ _).alloc (Nat.le_refl _) _⟩
set_option maxHeartbeats 2000000 in
theorem enh_some (a b c : Int) (h : same3 a b c 0 0 0 = false) (w : World) (hE : Env w) (a0 : -9223372036854775808 ≤ a) (a1 : a ≤ 9223372036854775807) (b0 : -9223372036854775808 ≤ b) (b1 : b ≤ 9223372036854775807) (c0 : -9223372036854775808 ≤ c) (c1 : c ≤ 9223372036854775807) :
    Calls Tryd.prog 32 #[.agg #[.int .i64 a, .int .i64 b, .int .i64 c]] w fun e w' => e = .returned (.string ⟨(Lib.itoa a ++ [46] ++ Lib.itoa b ++ [46] ++ Lib.itoa c ++ [32]).toArray⟩) ∧ Below w.heap.size w w' := by
  have la := Lib.itoa_length_le a a0 a1
  have lb := Lib.itoa_length_le b b0 b1
  have lc := Lib.itoa_length_le c c0 c1
  go_enter Tryd.func32, Tryd.ntmps32
  go_wp2
  refine region_class (C := (fun w' => w'.cell? ⟨w.heap.size, 0, none⟩ = some (.int .i64 a) ∧ w'.cell? ⟨w.heap.size, 1, none⟩ = some (.int .i64 b) ∧ w'.cell? ⟨w.heap.size, 2, none⟩ = some (.int .i64 c) ∧ Below w.heap.size w w')) (by kernel_rfl) (by kernel_rfl) ⟨by go_simp, by go_simp, by go_simp, pw_below_drewN ((Below.refl _ _).alloc (Nat.le_refl _) _) 1⟩ ?_
  refine q_run ?_ ?_ ?_ ?_
  · kernel_rfl
  rotate_left
  · intro w_ hw_
    obtain ⟨c0, c1, c2, cb⟩ := hw_
    first | (go_simp; done) | (go_simp; with_reducible rfl) | (go_simp; rw [if_neg (by first | omega | (simp; omega))])
  try simp only [Act.put, List.setIfInBounds_toArray, List.set_cons_zero, List.set_cons_succ]
  refine q_run ?_ ?_ ?_ ?_
  · kernel_rfl
  rotate_left
  · intro w_ hw_
    obtain ⟨c0, c1, c2, cb⟩ := hw_
    first | (go_simp; done) | (go_simp; with_reducible rfl) | (go_simp; rw [if_neg (by first | omega | (simp; omega))])
  try simp only [Act.put, List.setIfInBounds_toArray, List.set_cons_zero, List.set_cons_succ]
  refine q_call ?_ ((.string ⟨(Lib.itoa a).toArray⟩)) ?_ ?_ ?_ ?_ ?_
  · kernel_rfl
  rotate_left 2
  · intro w_ hw_
    go_simp
    refine ⟨?_, ?_⟩ <;> with_reducible rfl
  · intro w_ hw_
    obtain ⟨c0, c1, c2, cb⟩ := hw_
    exact (itoa_any a _ (by omega) (by omega) (hE.next cb)).mono fun _ _ ⟨h1_, h2_⟩ => ⟨h1_, cell_next h2_ c0, cell_next h2_ c1, cell_next h2_ c2, Below.next cb h2_ (Nat.le_refl _)⟩
  try simp only [Act.put, List.setIfInBounds_toArray, List.set_cons_zero, List.set_cons_succ]
  refine q_run ?_ ?_ ?_ ?_
  · kernel_rfl
  rotate_left
  · intro w_ hw_
    obtain ⟨c0, c1, c2, cb⟩ := hw_
    first | (go_simp; done) | (go_simp; with_reducible rfl) | (go_simp; rw [if_neg (by first | omega | (simp; omega))])
  try simp only [Act.put, List.setIfInBounds_toArray, List.set_cons_zero, List.set_cons_succ]
  refine q_run ?_ ?_ ?_ ?_
  · kernel_rfl
  rotate_left
  · intro w_ hw_
    obtain ⟨c0, c1, c2, cb⟩ := hw_
    first | (go_simp; done) | (go_simp; with_reducible rfl) | (go_simp; rw [if_neg (by first | omega | (simp; omega))])
  try simp only [Act.put, List.setIfInBounds_toArray, List.set_cons_zero, List.set_cons_succ]
  refine q_run ?_ ?_ ?_ ?_
  · kernel_rfl
  rotate_left
  · intro w_ hw_
    obtain ⟨c0, c1, c2, cb⟩ := hw_
    first | (go_simp; done) | (go_simp; with_reducible rfl) | (go_simp; rw [if_neg (by first | omega | (simp; omega))])
  try simp only [Act.put, List.setIfInBounds_toArray, List.set_cons_zero, List.set_cons_succ]
  refine q_call ?_ ((.string ⟨(Lib.itoa b).toArray⟩)) ?_ ?_ ?_ ?_ ?_
  · kernel_rfl
  rotate_left 2
  · intro w_ hw_
    go_simp
    refine ⟨?_, ?_⟩ <;> with_reducible rfl
  · intro w_ hw_
    obtain ⟨c0, c1, c2, cb⟩ := hw_
    exact (itoa_any b _ (by omega) (by omega) (hE.next cb)).mono fun _ _ ⟨h1_, h2_⟩ => ⟨h1_, cell_next h2_ c0, cell_next h2_ c1, cell_next h2_ c2, Below.next cb h2_ (Nat.le_refl _)⟩
  try simp only [Act.put, List.setIfInBounds_toArray, List.set_cons_zero, List.set_cons_succ]
  refine q_run ?_ ?_ ?_ ?_
  · kernel_rfl
  rotate_left
  · intro w_ hw_
    obtain ⟨c0, c1, c2, cb⟩ := hw_
    first | (go_simp; done) | (go_simp; with_reducible rfl) | (go_simp; rw [if_neg (by first | omega | (simp; omega))])
  try simp only [Act.put, List.setIfInBounds_toArray, List.set_cons_zero, List.set_cons_succ]
  refine q_run ?_ ?_ ?_ ?_
  · kernel_rfl
  rotate_left
  · intro w_ hw_
    obtain ⟨c0, c1, c2, cb⟩ := hw_
    first | (go_simp; done) | (go_simp; with_reducible rfl) | (go_simp; rw [if_neg (by first | omega | (simp; omega))])
  try simp only [Act.put, List.setIfInBounds_toArray, List.set_cons_zero, List.set_cons_succ]
  refine q_run ?_ ?_ ?_ ?_
  · kernel_rfl
  rotate_left
  · intro w_ hw_
    obtain ⟨c0, c1, c2, cb⟩ := hw_
    first | (go_simp; done) | (go_simp; with_reducible rfl) | (go_simp; rw [if_neg (by first | omega | (simp; omega))])
  try simp only [Act.put, List.setIfInBounds_toArray, List.set_cons_zero, List.set_cons_succ]
  refine q_run ?_ ?_ ?_ ?_
  · kernel_rfl
  rotate_left
  · intro w_ hw_
    obtain ⟨c0, c1, c2, cb⟩ := hw_
    first | (go_simp; done) | (go_simp; with_reducible rfl) | (go_simp; rw [if_neg (by first | omega | (simp; omega))])
  try simp only [Act.put, List.setIfInBounds_toArray, List.set_cons_zero, List.set_cons_succ]
  refine q_call ?_ ((.string ⟨(Lib.itoa c).toArray⟩)) ?_ ?_ ?_ ?_ ?_
  · kernel_rfl
  rotate_left 2
  · intro w_ hw_
    go_simp
    refine ⟨?_, ?_⟩ <;> with_reducible rfl
  · intro w_ hw_
    obtain ⟨c0, c1, c2, cb⟩ := hw_
    exact (itoa_any c _ (by omega) (by omega) (hE.next cb)).mono fun _ _ ⟨h1_, h2_⟩ => ⟨h1_, cell_next h2_ c0, cell_next h2_ c1, cell_next h2_ c2, Below.next cb h2_ (Nat.le_refl _)⟩
  try simp only [Act.put, List.setIfInBounds_toArray, List.set_cons_zero, List.set_cons_succ]
  refine q_run ?_ ?_ ?_ ?_
  · kernel_rfl
  rotate_left
  · intro w_ hw_
    obtain ⟨c0, c1, c2, cb⟩ := hw_
    first | (go_simp; done) | (go_simp; with_reducible rfl) | (go_simp; rw [if_neg (by first | omega | (simp; omega))])
  try simp only [Act.put, List.setIfInBounds_toArray, List.set_cons_zero, List.set_cons_succ]
  refine q_run ?_ ?_ ?_ ?_
  · kernel_rfl
  rotate_left
  · intro w_ hw_
    obtain ⟨c0, c1, c2, cb⟩ := hw_
    first | (go_simp; done) | (go_simp; with_reducible rfl) | (go_simp; rw [if_neg (by first | omega | (simp; omega))])
  try simp only [Act.put, List.setIfInBounds_toArray, List.set_cons_zero, List.set_cons_succ]
  refine q_run ?_ ?_ ?_ ?_
  · kernel_rfl
  rotate_left
  · intro w_ hw_
    obtain ⟨c0, c1, c2, cb⟩ := hw_
    first | (go_simp; done) | (go_simp; with_reducible rfl) | (go_simp; rw [if_neg (by first | omega | (simp; omega))])
  try simp only [Act.put, List.setIfInBounds_toArray, List.set_cons_zero, List.set_cons_succ]
  refine q_nil ?_
  intro W_ hC_
  go_wp2
  go_ret
  exact ⟨ret_str (ByteArray.ext (by simp)), hC_.2.2.2⟩
theorem enh_any (a b c : Int) (w : World) (hE : Env w) (a0 : -9223372036854775808 ≤ a) (a1 : a ≤ 9223372036854775807) (b0 : -9223372036854775808 ≤ b) (b1 : b ≤ 9223372036854775807) (c0 : -9223372036854775808 ≤ c) (c1 : c ≤ 9223372036854775807) :
    Calls Tryd.prog 32 #[.agg #[.int .i64 a, .int .i64 b, .int .i64 c]] w fun e w' => e = .returned (.string ⟨(Rp.enh a b c).toArray⟩) ∧ Below w.heap.size w w' := by
  unfold Rp.enh
  by_cases h : Rp.none3 a b c = true
  · rw [if_pos h]
    obtain ⟨rfl, rfl, rfl⟩ := Rp.none3_iff.1 h
    exact enh_none w
  · rw [if_neg h]
    exact enh_some a b c (show Rp.none3 a b c = false by simpa using h) w hE a0 a1 b0 b1 c0 c1
end Go.Proofs.YtfeedokfcebjjaaDoor
